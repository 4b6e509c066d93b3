
/-
  The matcher at the pattern of a digit: match, Match.
-/
import Derived.Test.YtghbicajcffjhaaDoorPcMFst
import Derived.Test.YtghbicajcffjhaaDoorPcShow
import Derived.Lib.SliceRun
namespace Go.Law
open Go.RowKit
theorem Only.fresh {g q : Nat} {w w' : World} (h : Only g w w') (hq : w.heap.size ≤ q) (i : Nat) (u : Value) : Only g w (w'.setCell ⟨q, i, none⟩ u) :=
  ⟨h.os, h.tape, h.output, by have := h.size; simpa using this, fun k hk h1 h2 => (Below.heap_setCell _ _ _ _ (by simp; omega)).trans (h.block k hk h1 h2)⟩
end Go.Law
namespace Go.Proofs.YtghbicajcffjhaaDoor.PC
open Go.RowKit Go.Law Go.Law.Pn
set_option linter.unusedVariables false
set_option linter.unusedSimpArgs false
set_option maxRecDepth 100000
set_option maxHeartbeats 16000000 in
theorem match_any {base R C SN Pb S T cc : Nat} {w : World} (HM : Hid (Mr w base R C SN Pb S T cc 0 0)) (hb : base ≤ w.heap.size) :
    Calls Tryd.prog 52 #[.pointer (some ⟨R, 0, none⟩), .int .i64 0, .int .i64 0] w fun e w' => e = .returned (.tuple #[.agg #[.int .i64 1, .int .i64 2, .slice none 0 0], .bool true]) ∧ Only SN w w' := by
  go_enter Tryd.func52, Tryd.ntmps52
  go_upto_region 1 with fail
  obtain ⟨w1, hw1⟩ : ∃ x : World, x = w.alloc (.cells #[.int .i64 0, .int .i64 0, .slice none 0 0] 68) := ⟨_, rfl⟩
  have HB1 := Lib.hid (show Below w.heap.size w w1 by rw [hw1]; exact (Below.refl _ _).alloc (Nat.le_refl _) _)
  obtain ⟨Q, hQ⟩ : ∃ x, x = w.heap.size := ⟨_, rfl⟩
  have HQ1 := Lib.hid (show Blk w1 Q #[.int .i64 0, .int .i64 0, .slice none 0 0] 68 by rw [hw1, hQ]; exact Blk.new _ _ _)
  have HM1 := Lib.hid (HM.out.below HB1.out hb)
  rw [← hw1, ← hQ]
  have HQE := Lib.hid hQ
  clear hw1 hQ
  have r2 : w1.cell? ⟨R, 2, none⟩ = some (.slice (some ⟨SN, 0, none⟩) 2 2) := HM1.out.r.cell (i := 2) rfl
  have q0 : w1.cell? ⟨SN, 0, none⟩ = some (.int .i64 0) := HM1.out.s.cell (i := 0) rfl
  have q1 : w1.cell? ⟨SN, 1, none⟩ = some (.int .i64 0) := HM1.out.s.cell (i := 1) rfl
  have qf := HM1.out.s.frozen
  obtain ⟨w2, hw2⟩ : ∃ x : World, x = (w1.setCell ⟨SN, 0, none⟩ (.int .i64 0)).setCell ⟨SN, 1, none⟩ (.int .i64 0) := ⟨_, rfl⟩
  have hcl : (Builtin.clear_ #[35] 0 #[.slice (some ⟨SN, 0, none⟩) 2 2]).run Tryd.prog w1 = .ok (.tuple #[]) w2 := by
    have h := Lib.run_clear_slice (P := Tryd.prog) w1 35 3 0 (.int .i64 0) Tryd.underlying35 Tryd.zeroValue3 rfl rfl SN 0 2 2 (by omega) (fun j hj => by
      rw [Nat.zero_add]
      match j, hj with
      | 0, _ => rw [q0]; rfl
      | 1, _ => rw [q1]; rfl) (fun j _ => qf _)
    rw [hw2]
    exact h
  have HM2 := Lib.hid (show Mr w2 base R C SN Pb S T cc 0 0 from HM1.out.move (fun k _ hk => by rw [hw2, Below.heap_setCell _ _ _ _ hk, Below.heap_setCell _ _ _ _ hk]) (by rw [hw2]; exact (HM1.out.s.set 0 _).set 1 _))
  have HQn : Q ≠ SN := by have := HM.out.s.lt; have := HQE.out; omega
  have HQ2 := Lib.hid (show Blk w2 Q #[.int .i64 0, .int .i64 0, .slice none 0 0] 68 by rw [hw2]; exact (HQ1.out.other HQn _).other HQn _)
  have HO2 := Lib.hid (show Only SN w w2 by rw [hw2]; exact ((Only.of_below HB1.out (Nat.le_refl _)).set 0 _).set 1 _)
  have hs2 := HO2.out.size
  have HW2 := Lib.hid hw2
  clear hw2 q0 q1 qf
  go_upto_region 2 with fail
  clear hcl r2
  have HF := Lib.hid (first_any HM2 (by omega))
  go_upto_region 3 with (go_at_call 80; refine HF.out.mono ?_; rintro e w3 ⟨F, rfl, hf, ho⟩)
  have HO3 := Lib.hid (HO2.out.trans ho)
  have HQ3 := Lib.hid (HQ2.out.block (Aside.block ho Q HQ2.out.lt HQn (by simp [Value.ownBlock])))
  have f0 : w3.cell? ⟨F, 0, none⟩ = some (.int .i64 1) := hf.cell (i := 0) rfl
  have hFl := hf.lt
  have z0 : w3.cell? ⟨Q, 0, none⟩ = some (.int .i64 0) := HQ3.out.cell (i := 0) rfl
  have z1 : w3.cell? ⟨Q, 1, none⟩ = some (.int .i64 0) := HQ3.out.cell (i := 1) rfl
  have z2 : w3.cell? ⟨Q, 2, none⟩ = some (.slice none 0 0) := HQ3.out.cell (i := 2) rfl
  have zf := HQ3.out.frozen
  have hQl := HQ3.out.lt
  clear HF ho hf
  go_wp2_with fail
  refine wp_loop_rounds 1 ?_
  rw [rounds_succ]
  go_wp2_with fail
  (try simp only [Exit.inBlock, Exit.then])
  refine bodyPost_ret (v := .tuple #[.agg #[.int .i64 1, .int .i64 2, .slice none 0 0], .bool true]) ?rc rfl ?_
  case rc =>
    rw [results_cell_tmp rfl]
    go_simp
  have hqw : w.heap.size ≤ Q := by rw [HQE.out]; exact Nat.le_refl _
  exact ⟨rfl, Aside.alloc (Only.fresh (Only.fresh (Only.fresh HO3.out hqw 0 _) hqw 1 _) hqw 2 _) _⟩
theorem results_cell_tmp2 {fn : Func} {p u x : Tmp} {ty : TypeId} (h : fn.results = #[.cell p ty, .tmp u, .tmp x]) (tmps : Array Value) (P : Program) (w : World) :
    (results fn tmps).run P w =
      ((asAddr (tmps.getD p undef)).run P w).andThen fun a w₁ => ((loadVar ty a).run P w₁).andThen fun v w₂ => .ok (.tuple #[v, tmps.getD u undef, tmps.getD x undef]) w₂ := by
  simp only [results, h]
  simp [Sem.run_bind, Result.andThen]
set_option maxHeartbeats 16000000 in
theorem Match_any {S T : Nat} {W w : World} (hE : PEnv W) (t : PT) (hok : t.Ok W) (hcl : t.hd.cells = (dgC S).toList) (hck : chkE t = 0) (hbel : Below W.heap.size W w) (hS : Blk w S #[.int .i64 48, .int .i64 57] 119) (hT : Blk w T #[.int .i64 97, .int .i64 49] 3) :
    Calls Tryd.prog 24 #[.agg (dgC S), .slice (some ⟨T, 0, none⟩) 2 2, .int .i64 0] w fun e w' => e = .returned (.tuple #[.agg #[.int .i64 1, .int .i64 2, .slice none 0 0], .bool true, .int .i64 0]) ∧ Below w.heap.size w w' := by
  have HCK := Lib.hid (fun (w' : World) (hb : Below W.heap.size W w') => show Calls Tryd.prog 7 #[.agg (dgC S)] w' fun e w'' => e = .returned (.int .i64 0) ∧ Below w'.heap.size w' w'' from by
    have h := check_any W hE t hok w' hb
    rw [hcl, hck] at h
    exact h)
  have HS := Lib.hid hS
  have HT := Lib.hid hT
  have HB := Lib.hid hbel
  obtain ⟨w1, hw1⟩ : ∃ x : World, x = (w.alloc (.cells (dgC S) 25)).alloc (.cells #[.int .i64 0, .int .i64 0, .slice none 0 0] 68) := ⟨_, rfl⟩
  have HB1 := Lib.hid (show Below w.heap.size w w1 by rw [hw1]; exact ((Below.refl _ _).alloc (Nat.le_refl _) _).alloc (by simp) _)
  obtain ⟨P, hP⟩ : ∃ x, x = w.heap.size := ⟨_, rfl⟩
  have HP1 := Lib.hid (show Blk w1 P (dgC S) 25 by rw [hw1, hP]; exact (Blk.new _ _ _).alloc _)
  have HQ1 := Lib.hid (show Blk w1 (P + 1) #[.int .i64 0, .int .i64 0, .slice none 0 0] 68 by
    have h := Blk.new (w.alloc (.cells (dgC S) 25)) #[.int .i64 0, .int .i64 0, .slice none 0 0] 68
    rw [show (w.alloc (.cells (dgC S) 25)).heap.size = P + 1 by simp [hP]] at h
    rw [hw1]
    exact h)
  have HPE := Lib.hid hP
  have HW1 := Lib.hid hw1
  clear hw1 hP hS hT hbel hcl hck hok hE
  have HC1 := Lib.hid (HCK.out w1 (HB.out.trans (HB1.out.mono HB.out.size)))
  have p0 : w1.cell? ⟨P, 0, none⟩ = some (.int .i64 0) := HP1.out.cell (i := 0) rfl
  have p1 : w1.cell? ⟨P, 1, none⟩ = some (.bool false) := HP1.out.cell (i := 1) rfl
  have p2 : w1.cell? ⟨P, 2, none⟩ = some (.bool false) := HP1.out.cell (i := 2) rfl
  have p3 : w1.cell? ⟨P, 3, none⟩ = some (.int .i64 0) := HP1.out.cell (i := 3) rfl
  have p4 : w1.cell? ⟨P, 4, none⟩ = some (.int .i64 0) := HP1.out.cell (i := 4) rfl
  have p5 : w1.cell? ⟨P, 5, none⟩ = some (.slice (some ⟨S, 0, none⟩) 1 1) := HP1.out.cell (i := 5) rfl
  have p6 : w1.cell? ⟨P, 6, none⟩ = some (.slice none 0 0) := HP1.out.cell (i := 6) rfl
  go_enter Tryd.func24, Tryd.ntmps24
  go_upto_region 1 with fail
  rw [← HW1.out, ← HPE.out]
  go_upto_region 4 with (go_at_call 7; refine HC1.out.mono ?_; rintro e w2 ⟨rfl, hb2⟩)
  have HB2 := Lib.hid hb2
  have HP2 := Lib.hid (HP1.out.below hb2 HP1.out.lt)
  have HS1 := Lib.hid (HS.out.below HB1.out HS.out.lt)
  have HT1 := Lib.hid (HT.out.below HB1.out HT.out.lt)
  have HT2 := Lib.hid (HT1.out.below hb2 HT1.out.lt)
  clear hb2 p0 p1 p2 p3 p4 p5 p6 HC1 HCK
  go_upto_region 9 with (go_at_call 51; refine (ct_any T w2 HT2.out).mono ?_; rintro e w3 ⟨rfl, rfl⟩)
  refine wp_region_held_drew (S := fun w' => w'.cell? ⟨P, 0, none⟩ = some (.int .i64 0) ∧ w'.cell? ⟨P, 1, none⟩ = some (.bool false) ∧ w'.cell? ⟨P, 2, none⟩ = some (.bool false) ∧ w'.cell? ⟨P, 3, none⟩ = some (.int .i64 0) ∧ w'.cell? ⟨P, 4, none⟩ = some (.int .i64 0) ∧ w'.cell? ⟨P, 5, none⟩ = some (.slice (some ⟨S, 0, none⟩) 1 1) ∧ w'.cell? ⟨P, 6, none⟩ = some (.slice none 0 0)) (by kernel_rfl) (by exact ⟨HP2.out.cell (i := 0) rfl, HP2.out.cell (i := 1) rfl, HP2.out.cell (i := 2) rfl, HP2.out.cell (i := 3) rfl, HP2.out.cell (i := 4) rfl, HP2.out.cell (i := 5) rfl, HP2.out.cell (i := 6) rfl⟩) ?_
  intro hHeld
  refine takeD (i := 0) (oi := { dst := some 35, op := _, type := _, pos := _, after := _, guard := _ }) (d := some 35) (v := ?vva35) rfl rfl (by kernel_rfl) (by kernel_rfl) (by kernel_rfl) ?dda35 (by rfl) ?yya35 hHeld ?rra35
  case dda35 => first | exact fun _ _ _ h => h | exact fun _ _ _ h => HQ.out _ _ _ _ (by rfl) h
  case yya35 => (intro wx hSw; obtain ⟨y0, y1, y2, y3, y4, y5, y6⟩ := hSw; go_simp; try (with_reducible rfl))
  try simp (maxSteps := 1000000) only [Act.put, List.setIfInBounds_toArray, List.set_cons_zero, List.set_cons_succ]
  refine takeD (i := 1) (oi := { dst := some 36, op := _, type := _, pos := _, after := _, guard := _ }) (d := some 36) (v := ?vva36) rfl rfl (by kernel_rfl) (by kernel_rfl) (by kernel_rfl) ?dda36 (by rfl) ?yya36 hHeld ?rra36
  case dda36 => first | exact fun _ _ _ h => h | exact fun _ _ _ h => HQ.out _ _ _ _ (by rfl) h
  case yya36 => (intro wx hSw; obtain ⟨y0, y1, y2, y3, y4, y5, y6⟩ := hSw; go_simp; try (with_reducible rfl))
  try simp (maxSteps := 1000000) only [Act.put, List.setIfInBounds_toArray, List.set_cons_zero, List.set_cons_succ]
  refine takeD (i := 3) (oi := { dst := some 38, op := _, type := _, pos := _, after := _, guard := _ }) (d := some 38) (v := ?vva38) rfl rfl (by kernel_rfl) (by kernel_rfl) (by kernel_rfl) ?dda38 (by rfl) ?yya38 hHeld ?rra38
  case dda38 => first | exact fun _ _ _ h => h | exact fun _ _ _ h => HQ.out _ _ _ _ (by rfl) h
  case yya38 => (intro wx hSw; obtain ⟨y0, y1, y2, y3, y4, y5, y6⟩ := hSw; go_simp; try (with_reducible rfl))
  try simp (maxSteps := 1000000) only [Act.put, List.setIfInBounds_toArray, List.set_cons_zero, List.set_cons_succ]
  refine takeD (i := 4) (oi := { dst := some 39, op := _, type := _, pos := _, after := _, guard := _ }) (d := some 39) (v := ?vva39) rfl rfl (by kernel_rfl) (by kernel_rfl) (by kernel_rfl) ?dda39 (by rfl) ?yya39 hHeld ?rra39
  case dda39 => first | exact fun _ _ _ h => h | exact fun _ _ _ h => HQ.out _ _ _ _ (by rfl) h
  case yya39 => (intro wx hSw; obtain ⟨y0, y1, y2, y3, y4, y5, y6⟩ := hSw; go_simp; try (with_reducible rfl))
  try simp (maxSteps := 1000000) only [Act.put, List.setIfInBounds_toArray, List.set_cons_zero, List.set_cons_succ]
  obtain ⟨wq, hwq⟩ : ∃ x : World, x = w2.drew := ⟨_, rfl⟩
  have HBwq := Lib.hid (show Below w1.heap.size w1 wq by rw [hwq]; exact HB2.out.drew)
  rw [← hwq]
  clear hwq
  refine wpAnyH_ready (rs := [2, 10]) (by kernel_rfl) (by simp) ?_
  refine AllReadyH.cons (o := { dst := some 37, op := _, type := _, pos := _, after := _, guard := _ }) rfl (fun K hK => ?_) ?_
  · go_simp
    refine (compile_any S T wq (HS1.out.below HBwq.out HS1.out.lt) (HT1.out.below HBwq.out HT1.out.lt)).mono ?_
    rintro e wC ⟨base, R, C, SN, Pb, cc, rfl, hmr, hbswC, hsn, hbw⟩
    have HBwC := Lib.hid (HBwq.out.trans (hbw.mono HBwq.out.size))
    have HMwC := Lib.hid hmr
    have hsn1 : w1.heap.size ≤ SN := Nat.le_trans HBwq.out.size hsn
    clear hmr hbw hsn
    have HPwC := Lib.hid (HP1.out.below HBwC.out HP1.out.lt)
    refine hK.out _ _ (by exact ⟨HPwC.out.cell (i := 0) rfl, HPwC.out.cell (i := 1) rfl, HPwC.out.cell (i := 2) rfl, HPwC.out.cell (i := 3) rfl, HPwC.out.cell (i := 4) rfl, HPwC.out.cell (i := 5) rfl, HPwC.out.cell (i := 6) rfl⟩) (fun hHeldC => ?_)
    clear hK K
    try simp only [Act.put, List.setIfInBounds_toArray, List.set_cons_zero, List.set_cons_succ]
    refine wpAnyH_ready (rs := [5, 10]) (by kernel_rfl) (by simp) ?_
    refine AllReadyH.cons (o := { dst := some 40, op := _, type := _, pos := _, after := _, guard := _ }) rfl (fun K hK => ?_) ?_
    · go_simp
      refine (groups_any S wC).mono ?_
      rintro e wCG ⟨rfl, hbw⟩
      have HBwCG := Lib.hid (HBwC.out.trans (hbw.mono HBwC.out.size))
      have HMwCG := Lib.hid (HMwC.out.below hbw hbswC)
      have hbswCG : base ≤ wCG.heap.size := Nat.le_trans hbswC hbw.size
      clear hbw
      have HPwCG := Lib.hid (HP1.out.below HBwCG.out HP1.out.lt)
      refine hK.out _ _ (by exact ⟨HPwCG.out.cell (i := 0) rfl, HPwCG.out.cell (i := 1) rfl, HPwCG.out.cell (i := 2) rfl, HPwCG.out.cell (i := 3) rfl, HPwCG.out.cell (i := 4) rfl, HPwCG.out.cell (i := 5) rfl, HPwCG.out.cell (i := 6) rfl⟩) (fun hHeldCG => ?_)
      clear hK K
      try simp only [Act.put, List.setIfInBounds_toArray, List.set_cons_zero, List.set_cons_succ]
      refine wpAnyH_ready (rs := [6, 10]) (by kernel_rfl) (by simp) ?_
      refine AllReadyH.cons (o := { dst := some 41, op := _, type := _, pos := _, after := _, guard := _ }) rfl (fun K hK => ?_) ?_
      · go_simp
        refine (match_any HMwCG hbswCG).mono ?_
        rintro e wCGM ⟨rfl, ho⟩
        have HBwCGM := Lib.hid (HBwCG.out.trans (Only.to_below ho HBwCG.out.size hsn1))
        clear ho
        have HPwCGM := Lib.hid (HP1.out.below HBwCGM.out HP1.out.lt)
        refine hK.out _ _ (by exact ⟨HPwCGM.out.cell (i := 0) rfl, HPwCGM.out.cell (i := 1) rfl, HPwCGM.out.cell (i := 2) rfl, HPwCGM.out.cell (i := 3) rfl, HPwCGM.out.cell (i := 4) rfl, HPwCGM.out.cell (i := 5) rfl, HPwCGM.out.cell (i := 6) rfl⟩) (fun hHeldCGM => ?_)
        clear hK K
        try simp only [Act.put, List.setIfInBounds_toArray, List.set_cons_zero, List.set_cons_succ]
        refine takeD (i := 7) (oi := { dst := some 34, op := _, type := _, pos := _, after := _, guard := _ }) (d := some 34) (v := ?vvxCGM34) rfl rfl (by kernel_rfl) (by kernel_rfl) (by kernel_rfl) ?ddxCGM34 (by rfl) ?yyxCGM34 hHeldCGM ?rrxCGM34
        case ddxCGM34 => first | exact fun _ _ _ h => h | exact fun _ _ _ h => HQ.out _ _ _ _ (by rfl) h
        case yyxCGM34 => (intro wx hSw; obtain ⟨y0, y1, y2, y3, y4, y5, y6⟩ := hSw; go_simp; try (with_reducible rfl))
        try simp (maxSteps := 1000000) only [Act.put, List.setIfInBounds_toArray, List.set_cons_zero, List.set_cons_succ]
        refine takeD (i := 8) (oi := { dst := some 42, op := _, type := _, pos := _, after := _, guard := _ }) (d := some 42) (v := ?vvxCGM42) rfl rfl (by kernel_rfl) (by kernel_rfl) (by kernel_rfl) ?ddxCGM42 (by rfl) ?yyxCGM42 hHeldCGM ?rrxCGM42
        case ddxCGM42 => first | exact fun _ _ _ h => h | exact fun _ _ _ h => HQ.out _ _ _ _ (by rfl) h
        case yyxCGM42 => (intro wx hSw; obtain ⟨y0, y1, y2, y3, y4, y5, y6⟩ := hSw; go_simp; try (with_reducible rfl))
        try simp (maxSteps := 1000000) only [Act.put, List.setIfInBounds_toArray, List.set_cons_zero, List.set_cons_succ]
        refine takeD (i := 9) (oi := { dst := some 43, op := _, type := _, pos := _, after := _, guard := _ }) (d := some 43) (v := ?vvxCGM43) rfl rfl (by kernel_rfl) (by kernel_rfl) (by kernel_rfl) ?ddxCGM43 (by rfl) ?yyxCGM43 hHeldCGM ?rrxCGM43
        case ddxCGM43 => first | exact fun _ _ _ h => h | exact fun _ _ _ h => HQ.out _ _ _ _ (by rfl) h
        case yyxCGM43 => (intro wx hSw; obtain ⟨y0, y1, y2, y3, y4, y5, y6⟩ := hSw; go_simp; try (with_reducible rfl))
        try simp (maxSteps := 1000000) only [Act.put, List.setIfInBounds_toArray, List.set_cons_zero, List.set_cons_succ]
        refine wpAnyH_ready (rs := [10]) (by kernel_rfl) (by simp) ?_
        refine AllReadyH.cons (o := { dst := some 11, op := _, type := _, pos := _, after := _, guard := _ }) rfl (fun K hK => ?_) AllReadyH.nil
        go_simp
        obtain ⟨wCGMA, hwCGMA⟩ : ∃ x : World, x = wCGM.alloc (.cells #[.int .i64 0, .int .i64 0, .slice none 0 0] 68) := ⟨_, rfl⟩
        obtain ⟨Q2, hQ2⟩ : ∃ x, x = wCGM.heap.size := ⟨_, rfl⟩
        have HQ2wCGMA := Lib.hid (show Blk wCGMA Q2 #[.int .i64 0, .int .i64 0, .slice none 0 0] 68 by rw [hwCGMA, hQ2]; exact Blk.new _ _ _)
        have HBwCGMA := Lib.hid (show Below w1.heap.size w1 wCGMA by rw [hwCGMA]; exact HBwCGM.out.alloc HBwCGM.out.size _)
        have hQw : w1.heap.size ≤ Q2 := by rw [hQ2]; exact HBwCGM.out.size
        have hQl : Q2 < wCGMA.heap.size := HQ2wCGMA.out.lt
        have HWwCGMA := Lib.hid hwCGMA
        have HQEwCGMA := Lib.hid hQ2
        rw [← HWwCGMA.out, ← HQEwCGMA.out]
        clear hwCGMA hQ2
        have HPwCGMA := Lib.hid (HP1.out.below HBwCGMA.out HP1.out.lt)
        refine hK.out _ _ (by exact ⟨HPwCGMA.out.cell (i := 0) rfl, HPwCGMA.out.cell (i := 1) rfl, HPwCGMA.out.cell (i := 2) rfl, HPwCGMA.out.cell (i := 3) rfl, HPwCGMA.out.cell (i := 4) rfl, HPwCGMA.out.cell (i := 5) rfl, HPwCGMA.out.cell (i := 6) rfl⟩) (fun hHeldCGMA => ?_)
        clear hK K
        try simp only [Act.put, List.setIfInBounds_toArray, List.set_cons_zero, List.set_cons_succ]
        have q0 : (wCGMA).cell? ⟨Q2, 0, none⟩ = some (.int .i64 0) := HQ2wCGMA.out.cell (i := 0) rfl
        have q1 : (wCGMA).cell? ⟨Q2, 1, none⟩ = some (.int .i64 0) := HQ2wCGMA.out.cell (i := 1) rfl
        have q2 : (wCGMA).cell? ⟨Q2, 2, none⟩ = some (.slice none 0 0) := HQ2wCGMA.out.cell (i := 2) rfl
        have qf := HQ2wCGMA.out.frozen
        refine wpAnyH_ready (rs := [11]) (by kernel_rfl) (by simp) ?_
        refine AllReadyH.cons (o := { dst := none, op := _, type := _, pos := _, after := _, guard := _ }) rfl (fun K hK => ?_) AllReadyH.nil
        go_simp
        obtain ⟨wf, hwf⟩ : ∃ x : World, x = (((wCGMA).setCell ⟨Q2, 0, none⟩ (.int .i64 1)).setCell ⟨Q2, 1, none⟩ (.int .i64 2)).setCell ⟨Q2, 2, none⟩ (.slice none 0 0) := ⟨_, rfl⟩
        have HQF := Lib.hid (show Blk wf Q2 #[.int .i64 1, .int .i64 2, .slice none 0 0] 68 by rw [hwf]; exact ((HQ2wCGMA.out.set 0 _).set 1 _).set 2 _)
        have HBF := Lib.hid (show Below w1.heap.size w1 wf by rw [hwf]; exact ((HBwCGMA.out.setCell hQw _).setCell hQw _).setCell hQw _)
        have HPF := Lib.hid (HP1.out.below HBF.out HP1.out.lt)
        have HZF := Lib.hid (HQ1.out.below HBF.out HQ1.out.lt)
        have HWF := Lib.hid hwf
        rw [← HWF.out]
        clear hwf q0 q1 q2 qf
        refine hK.out _ _ (by exact ⟨HPF.out.cell (i := 0) rfl, HPF.out.cell (i := 1) rfl, HPF.out.cell (i := 2) rfl, HPF.out.cell (i := 3) rfl, HPF.out.cell (i := 4) rfl, HPF.out.cell (i := 5) rfl, HPF.out.cell (i := 6) rfl⟩) (fun hHf => ?_)
        clear hK K
        try simp only [Act.put, List.setIfInBounds_toArray, List.set_cons_zero, List.set_cons_succ]
        refine takeD (i := 12) (oi := { dst := some 12, op := _, type := _, pos := _, after := _, guard := _ }) (d := some 12) (v := ?vvyzCGM12) rfl rfl (by kernel_rfl) (by kernel_rfl) (by kernel_rfl) ?ddyzCGM12 (by rfl) ?yyyzCGM12 hHf ?rryzCGM12
        case ddyzCGM12 => first | exact fun _ _ _ h => h | exact fun _ _ _ h => HQ.out _ _ _ _ (by rfl) h
        case yyyzCGM12 => (intro wx hSw; obtain ⟨y0, y1, y2, y3, y4, y5, y6⟩ := hSw; go_simp; try (with_reducible rfl))
        try simp (maxSteps := 1000000) only [Act.put, List.setIfInBounds_toArray, List.set_cons_zero, List.set_cons_succ]
        refine wpAnyH_done (by kernel_rfl) ?_ _
        clear hHf
        have q0 : wf.cell? ⟨Q2, 0, none⟩ = some (.int .i64 1) := HQF.out.cell (i := 0) rfl
        have q1 : wf.cell? ⟨Q2, 1, none⟩ = some (.int .i64 2) := HQF.out.cell (i := 1) rfl
        have q2 : wf.cell? ⟨Q2, 2, none⟩ = some (.slice none 0 0) := HQF.out.cell (i := 2) rfl
        have z0 : wf.cell? ⟨P + 1, 0, none⟩ = some (.int .i64 0) := HZF.out.cell (i := 0) rfl
        have z1 : wf.cell? ⟨P + 1, 1, none⟩ = some (.int .i64 0) := HZF.out.cell (i := 1) rfl
        have z2 : wf.cell? ⟨P + 1, 2, none⟩ = some (.slice none 0 0) := HZF.out.cell (i := 2) rfl
        have zf := HZF.out.frozen
        have hPw : w.heap.size ≤ P + 1 := by have := HPE.out; omega
        go_wp2_with fail
        (try simp only [Exit.inBlock, Exit.then])
        refine bodyPost_ret (v := .tuple #[.agg #[.int .i64 1, .int .i64 2, .slice none 0 0], .bool true, .int .i64 0]) ?rczCGM rfl ?_
        case rczCGM =>
          rw [results_cell_tmp2 rfl]
          go_simp
        exact ⟨rfl, HB1.out.trans ((HBF.out.mono HB1.out.size).trans ((((Below.refl _ _).setCell hPw _).setCell hPw _).setCell hPw _))⟩
      · refine AllReadyH.cons (o := { dst := some 11, op := _, type := _, pos := _, after := _, guard := _ }) rfl (fun K hK => ?_) AllReadyH.nil
        go_simp
        obtain ⟨wCGA, hwCGA⟩ : ∃ x : World, x = wCG.alloc (.cells #[.int .i64 0, .int .i64 0, .slice none 0 0] 68) := ⟨_, rfl⟩
        obtain ⟨Q2, hQ2⟩ : ∃ x, x = wCG.heap.size := ⟨_, rfl⟩
        have HQ2wCGA := Lib.hid (show Blk wCGA Q2 #[.int .i64 0, .int .i64 0, .slice none 0 0] 68 by rw [hwCGA, hQ2]; exact Blk.new _ _ _)
        have HBwCGA := Lib.hid (show Below w1.heap.size w1 wCGA by rw [hwCGA]; exact HBwCG.out.alloc HBwCG.out.size _)
        have HMwCGA := Lib.hid (show Mr wCGA base R C SN Pb S T cc 0 0 by rw [hwCGA]; exact HMwCG.out.below ((Below.refl _ _).alloc (Nat.le_refl _) _) hbswCG)
        have hbswCGA : base ≤ wCGA.heap.size := by rw [hwCGA]; simp; omega
        have hQS : Q2 ≠ SN := by have := HMwCG.out.lt; omega
        have hQw : w1.heap.size ≤ Q2 := by rw [hQ2]; exact HBwCG.out.size
        have hQl : Q2 < wCGA.heap.size := HQ2wCGA.out.lt
        have HWwCGA := Lib.hid hwCGA
        have HQEwCGA := Lib.hid hQ2
        rw [← HWwCGA.out, ← HQEwCGA.out]
        clear hwCGA hQ2
        have HPwCGA := Lib.hid (HP1.out.below HBwCGA.out HP1.out.lt)
        refine hK.out _ _ (by exact ⟨HPwCGA.out.cell (i := 0) rfl, HPwCGA.out.cell (i := 1) rfl, HPwCGA.out.cell (i := 2) rfl, HPwCGA.out.cell (i := 3) rfl, HPwCGA.out.cell (i := 4) rfl, HPwCGA.out.cell (i := 5) rfl, HPwCGA.out.cell (i := 6) rfl⟩) (fun hHeldCGA => ?_)
        clear hK K
        try simp only [Act.put, List.setIfInBounds_toArray, List.set_cons_zero, List.set_cons_succ]
        refine wpAnyH_ready (rs := [6]) (by kernel_rfl) (by simp) ?_
        refine AllReadyH.cons (o := { dst := some 41, op := _, type := _, pos := _, after := _, guard := _ }) rfl (fun K hK => ?_) AllReadyH.nil
        go_simp
        refine (match_any HMwCGA hbswCGA).mono ?_
        rintro e wCGAM ⟨rfl, ho⟩
        have HBwCGAM := Lib.hid (HBwCGA.out.trans (Only.to_below ho HBwCGA.out.size hsn1))
        have HQ2wCGAM := Lib.hid (HQ2wCGA.out.block (Aside.block ho Q2 HQ2wCGA.out.lt hQS (by simp [Value.ownBlock])))
        clear ho
        have HPwCGAM := Lib.hid (HP1.out.below HBwCGAM.out HP1.out.lt)
        refine hK.out _ _ (by exact ⟨HPwCGAM.out.cell (i := 0) rfl, HPwCGAM.out.cell (i := 1) rfl, HPwCGAM.out.cell (i := 2) rfl, HPwCGAM.out.cell (i := 3) rfl, HPwCGAM.out.cell (i := 4) rfl, HPwCGAM.out.cell (i := 5) rfl, HPwCGAM.out.cell (i := 6) rfl⟩) (fun hHeldCGAM => ?_)
        clear hK K
        try simp only [Act.put, List.setIfInBounds_toArray, List.set_cons_zero, List.set_cons_succ]
        refine takeD (i := 7) (oi := { dst := some 34, op := _, type := _, pos := _, after := _, guard := _ }) (d := some 34) (v := ?vvxCGAM34) rfl rfl (by kernel_rfl) (by kernel_rfl) (by kernel_rfl) ?ddxCGAM34 (by rfl) ?yyxCGAM34 hHeldCGAM ?rrxCGAM34
        case ddxCGAM34 => first | exact fun _ _ _ h => h | exact fun _ _ _ h => HQ.out _ _ _ _ (by rfl) h
        case yyxCGAM34 => (intro wx hSw; obtain ⟨y0, y1, y2, y3, y4, y5, y6⟩ := hSw; go_simp; try (with_reducible rfl))
        try simp (maxSteps := 1000000) only [Act.put, List.setIfInBounds_toArray, List.set_cons_zero, List.set_cons_succ]
        refine takeD (i := 8) (oi := { dst := some 42, op := _, type := _, pos := _, after := _, guard := _ }) (d := some 42) (v := ?vvxCGAM42) rfl rfl (by kernel_rfl) (by kernel_rfl) (by kernel_rfl) ?ddxCGAM42 (by rfl) ?yyxCGAM42 hHeldCGAM ?rrxCGAM42
        case ddxCGAM42 => first | exact fun _ _ _ h => h | exact fun _ _ _ h => HQ.out _ _ _ _ (by rfl) h
        case yyxCGAM42 => (intro wx hSw; obtain ⟨y0, y1, y2, y3, y4, y5, y6⟩ := hSw; go_simp; try (with_reducible rfl))
        try simp (maxSteps := 1000000) only [Act.put, List.setIfInBounds_toArray, List.set_cons_zero, List.set_cons_succ]
        refine takeD (i := 9) (oi := { dst := some 43, op := _, type := _, pos := _, after := _, guard := _ }) (d := some 43) (v := ?vvxCGAM43) rfl rfl (by kernel_rfl) (by kernel_rfl) (by kernel_rfl) ?ddxCGAM43 (by rfl) ?yyxCGAM43 hHeldCGAM ?rrxCGAM43
        case ddxCGAM43 => first | exact fun _ _ _ h => h | exact fun _ _ _ h => HQ.out _ _ _ _ (by rfl) h
        case yyxCGAM43 => (intro wx hSw; obtain ⟨y0, y1, y2, y3, y4, y5, y6⟩ := hSw; go_simp; try (with_reducible rfl))
        try simp (maxSteps := 1000000) only [Act.put, List.setIfInBounds_toArray, List.set_cons_zero, List.set_cons_succ]
        have q0 : (wCGAM).cell? ⟨Q2, 0, none⟩ = some (.int .i64 0) := HQ2wCGAM.out.cell (i := 0) rfl
        have q1 : (wCGAM).cell? ⟨Q2, 1, none⟩ = some (.int .i64 0) := HQ2wCGAM.out.cell (i := 1) rfl
        have q2 : (wCGAM).cell? ⟨Q2, 2, none⟩ = some (.slice none 0 0) := HQ2wCGAM.out.cell (i := 2) rfl
        have qf := HQ2wCGAM.out.frozen
        refine wpAnyH_ready (rs := [11]) (by kernel_rfl) (by simp) ?_
        refine AllReadyH.cons (o := { dst := none, op := _, type := _, pos := _, after := _, guard := _ }) rfl (fun K hK => ?_) AllReadyH.nil
        go_simp
        obtain ⟨wf, hwf⟩ : ∃ x : World, x = (((wCGAM).setCell ⟨Q2, 0, none⟩ (.int .i64 1)).setCell ⟨Q2, 1, none⟩ (.int .i64 2)).setCell ⟨Q2, 2, none⟩ (.slice none 0 0) := ⟨_, rfl⟩
        have HQF := Lib.hid (show Blk wf Q2 #[.int .i64 1, .int .i64 2, .slice none 0 0] 68 by rw [hwf]; exact ((HQ2wCGAM.out.set 0 _).set 1 _).set 2 _)
        have HBF := Lib.hid (show Below w1.heap.size w1 wf by rw [hwf]; exact ((HBwCGAM.out.setCell hQw _).setCell hQw _).setCell hQw _)
        have HPF := Lib.hid (HP1.out.below HBF.out HP1.out.lt)
        have HZF := Lib.hid (HQ1.out.below HBF.out HQ1.out.lt)
        have HWF := Lib.hid hwf
        rw [← HWF.out]
        clear hwf q0 q1 q2 qf
        refine hK.out _ _ (by exact ⟨HPF.out.cell (i := 0) rfl, HPF.out.cell (i := 1) rfl, HPF.out.cell (i := 2) rfl, HPF.out.cell (i := 3) rfl, HPF.out.cell (i := 4) rfl, HPF.out.cell (i := 5) rfl, HPF.out.cell (i := 6) rfl⟩) (fun hHf => ?_)
        clear hK K
        try simp only [Act.put, List.setIfInBounds_toArray, List.set_cons_zero, List.set_cons_succ]
        refine takeD (i := 12) (oi := { dst := some 12, op := _, type := _, pos := _, after := _, guard := _ }) (d := some 12) (v := ?vvyzCGAM12) rfl rfl (by kernel_rfl) (by kernel_rfl) (by kernel_rfl) ?ddyzCGAM12 (by rfl) ?yyyzCGAM12 hHf ?rryzCGAM12
        case ddyzCGAM12 => first | exact fun _ _ _ h => h | exact fun _ _ _ h => HQ.out _ _ _ _ (by rfl) h
        case yyyzCGAM12 => (intro wx hSw; obtain ⟨y0, y1, y2, y3, y4, y5, y6⟩ := hSw; go_simp; try (with_reducible rfl))
        try simp (maxSteps := 1000000) only [Act.put, List.setIfInBounds_toArray, List.set_cons_zero, List.set_cons_succ]
        refine wpAnyH_done (by kernel_rfl) ?_ _
        clear hHf
        have q0 : wf.cell? ⟨Q2, 0, none⟩ = some (.int .i64 1) := HQF.out.cell (i := 0) rfl
        have q1 : wf.cell? ⟨Q2, 1, none⟩ = some (.int .i64 2) := HQF.out.cell (i := 1) rfl
        have q2 : wf.cell? ⟨Q2, 2, none⟩ = some (.slice none 0 0) := HQF.out.cell (i := 2) rfl
        have z0 : wf.cell? ⟨P + 1, 0, none⟩ = some (.int .i64 0) := HZF.out.cell (i := 0) rfl
        have z1 : wf.cell? ⟨P + 1, 1, none⟩ = some (.int .i64 0) := HZF.out.cell (i := 1) rfl
        have z2 : wf.cell? ⟨P + 1, 2, none⟩ = some (.slice none 0 0) := HZF.out.cell (i := 2) rfl
        have zf := HZF.out.frozen
        have hPw : w.heap.size ≤ P + 1 := by have := HPE.out; omega
        go_wp2_with fail
        (try simp only [Exit.inBlock, Exit.then])
        refine bodyPost_ret (v := .tuple #[.agg #[.int .i64 1, .int .i64 2, .slice none 0 0], .bool true, .int .i64 0]) ?rczCGAM rfl ?_
        case rczCGAM =>
          rw [results_cell_tmp2 rfl]
          go_simp
        exact ⟨rfl, HB1.out.trans ((HBF.out.mono HB1.out.size).trans ((((Below.refl _ _).setCell hPw _).setCell hPw _).setCell hPw _))⟩
    · refine AllReadyH.cons (o := { dst := some 11, op := _, type := _, pos := _, after := _, guard := _ }) rfl (fun K hK => ?_) AllReadyH.nil
      go_simp
      obtain ⟨wCA, hwCA⟩ : ∃ x : World, x = wC.alloc (.cells #[.int .i64 0, .int .i64 0, .slice none 0 0] 68) := ⟨_, rfl⟩
      obtain ⟨Q2, hQ2⟩ : ∃ x, x = wC.heap.size := ⟨_, rfl⟩
      have HQ2wCA := Lib.hid (show Blk wCA Q2 #[.int .i64 0, .int .i64 0, .slice none 0 0] 68 by rw [hwCA, hQ2]; exact Blk.new _ _ _)
      have HBwCA := Lib.hid (show Below w1.heap.size w1 wCA by rw [hwCA]; exact HBwC.out.alloc HBwC.out.size _)
      have HMwCA := Lib.hid (show Mr wCA base R C SN Pb S T cc 0 0 by rw [hwCA]; exact HMwC.out.below ((Below.refl _ _).alloc (Nat.le_refl _) _) hbswC)
      have hbswCA : base ≤ wCA.heap.size := by rw [hwCA]; simp; omega
      have hQS : Q2 ≠ SN := by have := HMwC.out.lt; omega
      have hQw : w1.heap.size ≤ Q2 := by rw [hQ2]; exact HBwC.out.size
      have hQl : Q2 < wCA.heap.size := HQ2wCA.out.lt
      have HWwCA := Lib.hid hwCA
      have HQEwCA := Lib.hid hQ2
      rw [← HWwCA.out, ← HQEwCA.out]
      clear hwCA hQ2
      have HPwCA := Lib.hid (HP1.out.below HBwCA.out HP1.out.lt)
      refine hK.out _ _ (by exact ⟨HPwCA.out.cell (i := 0) rfl, HPwCA.out.cell (i := 1) rfl, HPwCA.out.cell (i := 2) rfl, HPwCA.out.cell (i := 3) rfl, HPwCA.out.cell (i := 4) rfl, HPwCA.out.cell (i := 5) rfl, HPwCA.out.cell (i := 6) rfl⟩) (fun hHeldCA => ?_)
      clear hK K
      try simp only [Act.put, List.setIfInBounds_toArray, List.set_cons_zero, List.set_cons_succ]
      refine wpAnyH_ready (rs := [5]) (by kernel_rfl) (by simp) ?_
      refine AllReadyH.cons (o := { dst := some 40, op := _, type := _, pos := _, after := _, guard := _ }) rfl (fun K hK => ?_) AllReadyH.nil
      go_simp
      refine (groups_any S wCA).mono ?_
      rintro e wCAG ⟨rfl, hbw⟩
      have HBwCAG := Lib.hid (HBwCA.out.trans (hbw.mono HBwCA.out.size))
      have HMwCAG := Lib.hid (HMwCA.out.below hbw hbswCA)
      have hbswCAG : base ≤ wCAG.heap.size := Nat.le_trans hbswCA hbw.size
      have HQ2wCAG := Lib.hid (HQ2wCA.out.below hbw HQ2wCA.out.lt)
      clear hbw
      have HPwCAG := Lib.hid (HP1.out.below HBwCAG.out HP1.out.lt)
      refine hK.out _ _ (by exact ⟨HPwCAG.out.cell (i := 0) rfl, HPwCAG.out.cell (i := 1) rfl, HPwCAG.out.cell (i := 2) rfl, HPwCAG.out.cell (i := 3) rfl, HPwCAG.out.cell (i := 4) rfl, HPwCAG.out.cell (i := 5) rfl, HPwCAG.out.cell (i := 6) rfl⟩) (fun hHeldCAG => ?_)
      clear hK K
      try simp only [Act.put, List.setIfInBounds_toArray, List.set_cons_zero, List.set_cons_succ]
      refine wpAnyH_ready (rs := [6]) (by kernel_rfl) (by simp) ?_
      refine AllReadyH.cons (o := { dst := some 41, op := _, type := _, pos := _, after := _, guard := _ }) rfl (fun K hK => ?_) AllReadyH.nil
      go_simp
      refine (match_any HMwCAG hbswCAG).mono ?_
      rintro e wCAGM ⟨rfl, ho⟩
      have HBwCAGM := Lib.hid (HBwCAG.out.trans (Only.to_below ho HBwCAG.out.size hsn1))
      have HQ2wCAGM := Lib.hid (HQ2wCAG.out.block (Aside.block ho Q2 HQ2wCAG.out.lt hQS (by simp [Value.ownBlock])))
      clear ho
      have HPwCAGM := Lib.hid (HP1.out.below HBwCAGM.out HP1.out.lt)
      refine hK.out _ _ (by exact ⟨HPwCAGM.out.cell (i := 0) rfl, HPwCAGM.out.cell (i := 1) rfl, HPwCAGM.out.cell (i := 2) rfl, HPwCAGM.out.cell (i := 3) rfl, HPwCAGM.out.cell (i := 4) rfl, HPwCAGM.out.cell (i := 5) rfl, HPwCAGM.out.cell (i := 6) rfl⟩) (fun hHeldCAGM => ?_)
      clear hK K
      try simp only [Act.put, List.setIfInBounds_toArray, List.set_cons_zero, List.set_cons_succ]
      refine takeD (i := 7) (oi := { dst := some 34, op := _, type := _, pos := _, after := _, guard := _ }) (d := some 34) (v := ?vvxCAGM34) rfl rfl (by kernel_rfl) (by kernel_rfl) (by kernel_rfl) ?ddxCAGM34 (by rfl) ?yyxCAGM34 hHeldCAGM ?rrxCAGM34
      case ddxCAGM34 => first | exact fun _ _ _ h => h | exact fun _ _ _ h => HQ.out _ _ _ _ (by rfl) h
      case yyxCAGM34 => (intro wx hSw; obtain ⟨y0, y1, y2, y3, y4, y5, y6⟩ := hSw; go_simp; try (with_reducible rfl))
      try simp (maxSteps := 1000000) only [Act.put, List.setIfInBounds_toArray, List.set_cons_zero, List.set_cons_succ]
      refine takeD (i := 8) (oi := { dst := some 42, op := _, type := _, pos := _, after := _, guard := _ }) (d := some 42) (v := ?vvxCAGM42) rfl rfl (by kernel_rfl) (by kernel_rfl) (by kernel_rfl) ?ddxCAGM42 (by rfl) ?yyxCAGM42 hHeldCAGM ?rrxCAGM42
      case ddxCAGM42 => first | exact fun _ _ _ h => h | exact fun _ _ _ h => HQ.out _ _ _ _ (by rfl) h
      case yyxCAGM42 => (intro wx hSw; obtain ⟨y0, y1, y2, y3, y4, y5, y6⟩ := hSw; go_simp; try (with_reducible rfl))
      try simp (maxSteps := 1000000) only [Act.put, List.setIfInBounds_toArray, List.set_cons_zero, List.set_cons_succ]
      refine takeD (i := 9) (oi := { dst := some 43, op := _, type := _, pos := _, after := _, guard := _ }) (d := some 43) (v := ?vvxCAGM43) rfl rfl (by kernel_rfl) (by kernel_rfl) (by kernel_rfl) ?ddxCAGM43 (by rfl) ?yyxCAGM43 hHeldCAGM ?rrxCAGM43
      case ddxCAGM43 => first | exact fun _ _ _ h => h | exact fun _ _ _ h => HQ.out _ _ _ _ (by rfl) h
      case yyxCAGM43 => (intro wx hSw; obtain ⟨y0, y1, y2, y3, y4, y5, y6⟩ := hSw; go_simp; try (with_reducible rfl))
      try simp (maxSteps := 1000000) only [Act.put, List.setIfInBounds_toArray, List.set_cons_zero, List.set_cons_succ]
      have q0 : (wCAGM).cell? ⟨Q2, 0, none⟩ = some (.int .i64 0) := HQ2wCAGM.out.cell (i := 0) rfl
      have q1 : (wCAGM).cell? ⟨Q2, 1, none⟩ = some (.int .i64 0) := HQ2wCAGM.out.cell (i := 1) rfl
      have q2 : (wCAGM).cell? ⟨Q2, 2, none⟩ = some (.slice none 0 0) := HQ2wCAGM.out.cell (i := 2) rfl
      have qf := HQ2wCAGM.out.frozen
      refine wpAnyH_ready (rs := [11]) (by kernel_rfl) (by simp) ?_
      refine AllReadyH.cons (o := { dst := none, op := _, type := _, pos := _, after := _, guard := _ }) rfl (fun K hK => ?_) AllReadyH.nil
      go_simp
      obtain ⟨wf, hwf⟩ : ∃ x : World, x = (((wCAGM).setCell ⟨Q2, 0, none⟩ (.int .i64 1)).setCell ⟨Q2, 1, none⟩ (.int .i64 2)).setCell ⟨Q2, 2, none⟩ (.slice none 0 0) := ⟨_, rfl⟩
      have HQF := Lib.hid (show Blk wf Q2 #[.int .i64 1, .int .i64 2, .slice none 0 0] 68 by rw [hwf]; exact ((HQ2wCAGM.out.set 0 _).set 1 _).set 2 _)
      have HBF := Lib.hid (show Below w1.heap.size w1 wf by rw [hwf]; exact ((HBwCAGM.out.setCell hQw _).setCell hQw _).setCell hQw _)
      have HPF := Lib.hid (HP1.out.below HBF.out HP1.out.lt)
      have HZF := Lib.hid (HQ1.out.below HBF.out HQ1.out.lt)
      have HWF := Lib.hid hwf
      rw [← HWF.out]
      clear hwf q0 q1 q2 qf
      refine hK.out _ _ (by exact ⟨HPF.out.cell (i := 0) rfl, HPF.out.cell (i := 1) rfl, HPF.out.cell (i := 2) rfl, HPF.out.cell (i := 3) rfl, HPF.out.cell (i := 4) rfl, HPF.out.cell (i := 5) rfl, HPF.out.cell (i := 6) rfl⟩) (fun hHf => ?_)
      clear hK K
      try simp only [Act.put, List.setIfInBounds_toArray, List.set_cons_zero, List.set_cons_succ]
      refine takeD (i := 12) (oi := { dst := some 12, op := _, type := _, pos := _, after := _, guard := _ }) (d := some 12) (v := ?vvyzCAGM12) rfl rfl (by kernel_rfl) (by kernel_rfl) (by kernel_rfl) ?ddyzCAGM12 (by rfl) ?yyyzCAGM12 hHf ?rryzCAGM12
      case ddyzCAGM12 => first | exact fun _ _ _ h => h | exact fun _ _ _ h => HQ.out _ _ _ _ (by rfl) h
      case yyyzCAGM12 => (intro wx hSw; obtain ⟨y0, y1, y2, y3, y4, y5, y6⟩ := hSw; go_simp; try (with_reducible rfl))
      try simp (maxSteps := 1000000) only [Act.put, List.setIfInBounds_toArray, List.set_cons_zero, List.set_cons_succ]
      refine wpAnyH_done (by kernel_rfl) ?_ _
      clear hHf
      have q0 : wf.cell? ⟨Q2, 0, none⟩ = some (.int .i64 1) := HQF.out.cell (i := 0) rfl
      have q1 : wf.cell? ⟨Q2, 1, none⟩ = some (.int .i64 2) := HQF.out.cell (i := 1) rfl
      have q2 : wf.cell? ⟨Q2, 2, none⟩ = some (.slice none 0 0) := HQF.out.cell (i := 2) rfl
      have z0 : wf.cell? ⟨P + 1, 0, none⟩ = some (.int .i64 0) := HZF.out.cell (i := 0) rfl
      have z1 : wf.cell? ⟨P + 1, 1, none⟩ = some (.int .i64 0) := HZF.out.cell (i := 1) rfl
      have z2 : wf.cell? ⟨P + 1, 2, none⟩ = some (.slice none 0 0) := HZF.out.cell (i := 2) rfl
      have zf := HZF.out.frozen
      have hPw : w.heap.size ≤ P + 1 := by have := HPE.out; omega
      go_wp2_with fail
      (try simp only [Exit.inBlock, Exit.then])
      refine bodyPost_ret (v := .tuple #[.agg #[.int .i64 1, .int .i64 2, .slice none 0 0], .bool true, .int .i64 0]) ?rczCAGM rfl ?_
      case rczCAGM =>
        rw [results_cell_tmp2 rfl]
        go_simp
      exact ⟨rfl, HB1.out.trans ((HBF.out.mono HB1.out.size).trans ((((Below.refl _ _).setCell hPw _).setCell hPw _).setCell hPw _))⟩
  · refine AllReadyH.cons (o := { dst := some 11, op := _, type := _, pos := _, after := _, guard := _ }) rfl (fun K hK => ?_) AllReadyH.nil
    go_simp
    obtain ⟨wA, hwA⟩ : ∃ x : World, x = wq.alloc (.cells #[.int .i64 0, .int .i64 0, .slice none 0 0] 68) := ⟨_, rfl⟩
    obtain ⟨Q2, hQ2⟩ : ∃ x, x = wq.heap.size := ⟨_, rfl⟩
    have HQ2wA := Lib.hid (show Blk wA Q2 #[.int .i64 0, .int .i64 0, .slice none 0 0] 68 by rw [hwA, hQ2]; exact Blk.new _ _ _)
    have HBwA := Lib.hid (show Below w1.heap.size w1 wA by rw [hwA]; exact HBwq.out.alloc HBwq.out.size _)
    have hQw : w1.heap.size ≤ Q2 := by rw [hQ2]; exact HBwq.out.size
    have hQl : Q2 < wA.heap.size := HQ2wA.out.lt
    have HWwA := Lib.hid hwA
    have HQEwA := Lib.hid hQ2
    rw [← HWwA.out, ← HQEwA.out]
    clear hwA hQ2
    have HPwA := Lib.hid (HP1.out.below HBwA.out HP1.out.lt)
    refine hK.out _ _ (by exact ⟨HPwA.out.cell (i := 0) rfl, HPwA.out.cell (i := 1) rfl, HPwA.out.cell (i := 2) rfl, HPwA.out.cell (i := 3) rfl, HPwA.out.cell (i := 4) rfl, HPwA.out.cell (i := 5) rfl, HPwA.out.cell (i := 6) rfl⟩) (fun hHeldA => ?_)
    clear hK K
    try simp only [Act.put, List.setIfInBounds_toArray, List.set_cons_zero, List.set_cons_succ]
    refine wpAnyH_ready (rs := [2]) (by kernel_rfl) (by simp) ?_
    refine AllReadyH.cons (o := { dst := some 37, op := _, type := _, pos := _, after := _, guard := _ }) rfl (fun K hK => ?_) AllReadyH.nil
    go_simp
    refine (compile_any S T wA (HS1.out.below HBwA.out HS1.out.lt) (HT1.out.below HBwA.out HT1.out.lt)).mono ?_
    rintro e wAC ⟨base, R, C, SN, Pb, cc, rfl, hmr, hbswAC, hsn, hbw⟩
    have HBwAC := Lib.hid (HBwA.out.trans (hbw.mono HBwA.out.size))
    have HMwAC := Lib.hid hmr
    have hsn1 : w1.heap.size ≤ SN := Nat.le_trans HBwA.out.size hsn
    have HQ2wAC := Lib.hid (HQ2wA.out.below hbw HQ2wA.out.lt)
    have hQS : Q2 ≠ SN := by omega
    clear hmr hbw hsn
    have HPwAC := Lib.hid (HP1.out.below HBwAC.out HP1.out.lt)
    refine hK.out _ _ (by exact ⟨HPwAC.out.cell (i := 0) rfl, HPwAC.out.cell (i := 1) rfl, HPwAC.out.cell (i := 2) rfl, HPwAC.out.cell (i := 3) rfl, HPwAC.out.cell (i := 4) rfl, HPwAC.out.cell (i := 5) rfl, HPwAC.out.cell (i := 6) rfl⟩) (fun hHeldAC => ?_)
    clear hK K
    try simp only [Act.put, List.setIfInBounds_toArray, List.set_cons_zero, List.set_cons_succ]
    refine wpAnyH_ready (rs := [5]) (by kernel_rfl) (by simp) ?_
    refine AllReadyH.cons (o := { dst := some 40, op := _, type := _, pos := _, after := _, guard := _ }) rfl (fun K hK => ?_) AllReadyH.nil
    go_simp
    refine (groups_any S wAC).mono ?_
    rintro e wACG ⟨rfl, hbw⟩
    have HBwACG := Lib.hid (HBwAC.out.trans (hbw.mono HBwAC.out.size))
    have HMwACG := Lib.hid (HMwAC.out.below hbw hbswAC)
    have hbswACG : base ≤ wACG.heap.size := Nat.le_trans hbswAC hbw.size
    have HQ2wACG := Lib.hid (HQ2wAC.out.below hbw HQ2wAC.out.lt)
    clear hbw
    have HPwACG := Lib.hid (HP1.out.below HBwACG.out HP1.out.lt)
    refine hK.out _ _ (by exact ⟨HPwACG.out.cell (i := 0) rfl, HPwACG.out.cell (i := 1) rfl, HPwACG.out.cell (i := 2) rfl, HPwACG.out.cell (i := 3) rfl, HPwACG.out.cell (i := 4) rfl, HPwACG.out.cell (i := 5) rfl, HPwACG.out.cell (i := 6) rfl⟩) (fun hHeldACG => ?_)
    clear hK K
    try simp only [Act.put, List.setIfInBounds_toArray, List.set_cons_zero, List.set_cons_succ]
    refine wpAnyH_ready (rs := [6]) (by kernel_rfl) (by simp) ?_
    refine AllReadyH.cons (o := { dst := some 41, op := _, type := _, pos := _, after := _, guard := _ }) rfl (fun K hK => ?_) AllReadyH.nil
    go_simp
    refine (match_any HMwACG hbswACG).mono ?_
    rintro e wACGM ⟨rfl, ho⟩
    have HBwACGM := Lib.hid (HBwACG.out.trans (Only.to_below ho HBwACG.out.size hsn1))
    have HQ2wACGM := Lib.hid (HQ2wACG.out.block (Aside.block ho Q2 HQ2wACG.out.lt hQS (by simp [Value.ownBlock])))
    clear ho
    have HPwACGM := Lib.hid (HP1.out.below HBwACGM.out HP1.out.lt)
    refine hK.out _ _ (by exact ⟨HPwACGM.out.cell (i := 0) rfl, HPwACGM.out.cell (i := 1) rfl, HPwACGM.out.cell (i := 2) rfl, HPwACGM.out.cell (i := 3) rfl, HPwACGM.out.cell (i := 4) rfl, HPwACGM.out.cell (i := 5) rfl, HPwACGM.out.cell (i := 6) rfl⟩) (fun hHeldACGM => ?_)
    clear hK K
    try simp only [Act.put, List.setIfInBounds_toArray, List.set_cons_zero, List.set_cons_succ]
    refine takeD (i := 7) (oi := { dst := some 34, op := _, type := _, pos := _, after := _, guard := _ }) (d := some 34) (v := ?vvxACGM34) rfl rfl (by kernel_rfl) (by kernel_rfl) (by kernel_rfl) ?ddxACGM34 (by rfl) ?yyxACGM34 hHeldACGM ?rrxACGM34
    case ddxACGM34 => first | exact fun _ _ _ h => h | exact fun _ _ _ h => HQ.out _ _ _ _ (by rfl) h
    case yyxACGM34 => (intro wx hSw; obtain ⟨y0, y1, y2, y3, y4, y5, y6⟩ := hSw; go_simp; try (with_reducible rfl))
    try simp (maxSteps := 1000000) only [Act.put, List.setIfInBounds_toArray, List.set_cons_zero, List.set_cons_succ]
    refine takeD (i := 8) (oi := { dst := some 42, op := _, type := _, pos := _, after := _, guard := _ }) (d := some 42) (v := ?vvxACGM42) rfl rfl (by kernel_rfl) (by kernel_rfl) (by kernel_rfl) ?ddxACGM42 (by rfl) ?yyxACGM42 hHeldACGM ?rrxACGM42
    case ddxACGM42 => first | exact fun _ _ _ h => h | exact fun _ _ _ h => HQ.out _ _ _ _ (by rfl) h
    case yyxACGM42 => (intro wx hSw; obtain ⟨y0, y1, y2, y3, y4, y5, y6⟩ := hSw; go_simp; try (with_reducible rfl))
    try simp (maxSteps := 1000000) only [Act.put, List.setIfInBounds_toArray, List.set_cons_zero, List.set_cons_succ]
    refine takeD (i := 9) (oi := { dst := some 43, op := _, type := _, pos := _, after := _, guard := _ }) (d := some 43) (v := ?vvxACGM43) rfl rfl (by kernel_rfl) (by kernel_rfl) (by kernel_rfl) ?ddxACGM43 (by rfl) ?yyxACGM43 hHeldACGM ?rrxACGM43
    case ddxACGM43 => first | exact fun _ _ _ h => h | exact fun _ _ _ h => HQ.out _ _ _ _ (by rfl) h
    case yyxACGM43 => (intro wx hSw; obtain ⟨y0, y1, y2, y3, y4, y5, y6⟩ := hSw; go_simp; try (with_reducible rfl))
    try simp (maxSteps := 1000000) only [Act.put, List.setIfInBounds_toArray, List.set_cons_zero, List.set_cons_succ]
    have q0 : (wACGM).cell? ⟨Q2, 0, none⟩ = some (.int .i64 0) := HQ2wACGM.out.cell (i := 0) rfl
    have q1 : (wACGM).cell? ⟨Q2, 1, none⟩ = some (.int .i64 0) := HQ2wACGM.out.cell (i := 1) rfl
    have q2 : (wACGM).cell? ⟨Q2, 2, none⟩ = some (.slice none 0 0) := HQ2wACGM.out.cell (i := 2) rfl
    have qf := HQ2wACGM.out.frozen
    refine wpAnyH_ready (rs := [11]) (by kernel_rfl) (by simp) ?_
    refine AllReadyH.cons (o := { dst := none, op := _, type := _, pos := _, after := _, guard := _ }) rfl (fun K hK => ?_) AllReadyH.nil
    go_simp
    obtain ⟨wf, hwf⟩ : ∃ x : World, x = (((wACGM).setCell ⟨Q2, 0, none⟩ (.int .i64 1)).setCell ⟨Q2, 1, none⟩ (.int .i64 2)).setCell ⟨Q2, 2, none⟩ (.slice none 0 0) := ⟨_, rfl⟩
    have HQF := Lib.hid (show Blk wf Q2 #[.int .i64 1, .int .i64 2, .slice none 0 0] 68 by rw [hwf]; exact ((HQ2wACGM.out.set 0 _).set 1 _).set 2 _)
    have HBF := Lib.hid (show Below w1.heap.size w1 wf by rw [hwf]; exact ((HBwACGM.out.setCell hQw _).setCell hQw _).setCell hQw _)
    have HPF := Lib.hid (HP1.out.below HBF.out HP1.out.lt)
    have HZF := Lib.hid (HQ1.out.below HBF.out HQ1.out.lt)
    have HWF := Lib.hid hwf
    rw [← HWF.out]
    clear hwf q0 q1 q2 qf
    refine hK.out _ _ (by exact ⟨HPF.out.cell (i := 0) rfl, HPF.out.cell (i := 1) rfl, HPF.out.cell (i := 2) rfl, HPF.out.cell (i := 3) rfl, HPF.out.cell (i := 4) rfl, HPF.out.cell (i := 5) rfl, HPF.out.cell (i := 6) rfl⟩) (fun hHf => ?_)
    clear hK K
    try simp only [Act.put, List.setIfInBounds_toArray, List.set_cons_zero, List.set_cons_succ]
    refine takeD (i := 12) (oi := { dst := some 12, op := _, type := _, pos := _, after := _, guard := _ }) (d := some 12) (v := ?vvyzACGM12) rfl rfl (by kernel_rfl) (by kernel_rfl) (by kernel_rfl) ?ddyzACGM12 (by rfl) ?yyyzACGM12 hHf ?rryzACGM12
    case ddyzACGM12 => first | exact fun _ _ _ h => h | exact fun _ _ _ h => HQ.out _ _ _ _ (by rfl) h
    case yyyzACGM12 => (intro wx hSw; obtain ⟨y0, y1, y2, y3, y4, y5, y6⟩ := hSw; go_simp; try (with_reducible rfl))
    try simp (maxSteps := 1000000) only [Act.put, List.setIfInBounds_toArray, List.set_cons_zero, List.set_cons_succ]
    refine wpAnyH_done (by kernel_rfl) ?_ _
    clear hHf
    have q0 : wf.cell? ⟨Q2, 0, none⟩ = some (.int .i64 1) := HQF.out.cell (i := 0) rfl
    have q1 : wf.cell? ⟨Q2, 1, none⟩ = some (.int .i64 2) := HQF.out.cell (i := 1) rfl
    have q2 : wf.cell? ⟨Q2, 2, none⟩ = some (.slice none 0 0) := HQF.out.cell (i := 2) rfl
    have z0 : wf.cell? ⟨P + 1, 0, none⟩ = some (.int .i64 0) := HZF.out.cell (i := 0) rfl
    have z1 : wf.cell? ⟨P + 1, 1, none⟩ = some (.int .i64 0) := HZF.out.cell (i := 1) rfl
    have z2 : wf.cell? ⟨P + 1, 2, none⟩ = some (.slice none 0 0) := HZF.out.cell (i := 2) rfl
    have zf := HZF.out.frozen
    have hPw : w.heap.size ≤ P + 1 := by have := HPE.out; omega
    go_wp2_with fail
    (try simp only [Exit.inBlock, Exit.then])
    refine bodyPost_ret (v := .tuple #[.agg #[.int .i64 1, .int .i64 2, .slice none 0 0], .bool true, .int .i64 0]) ?rczACGM rfl ?_
    case rczACGM =>
      rw [results_cell_tmp2 rfl]
      go_simp
    exact ⟨rfl, HB1.out.trans ((HBF.out.mono HB1.out.size).trans ((((Below.refl _ _).setCell hPw _).setCell hPw _).setCell hPw _))⟩
end Go.Proofs.YtghbicajcffjhaaDoor.PC
