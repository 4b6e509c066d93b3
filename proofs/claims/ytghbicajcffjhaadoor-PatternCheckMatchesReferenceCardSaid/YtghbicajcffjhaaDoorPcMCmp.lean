
/-
  The matcher at the pattern of a digit: compile.
-/
import Derived.Test.YtghbicajcffjhaaDoorPcMSm
import Derived.Test.YtghbicajcffjhaaDoorMake
namespace Go.Proofs.YtghbicajcffjhaaDoor.PC
open Go.RowKit Go.Law Go.Law.Pn
set_option linter.unusedVariables false
set_option linter.unusedSimpArgs false
set_option maxRecDepth 100000
/-- the instructions -/
abbrev codL (Pb : Nat) : List Value := [.int .i64 0, .int .i64 0, .int .i64 0, .pointer (some ⟨Pb, 0, none⟩), .int .i64 7, .int .i64 0, .int .i64 0, .pointer none]
/-- the runner in memory -/
structure Mr (w : World) (base R C SN Pb S T cc : Nat) (s0 s1 : Int) : Prop where
  r : Blk w R #[.slice (some ⟨C, 0, none⟩) 2 cc, .slice (some ⟨T, 0, none⟩) 2 2, .slice (some ⟨SN, 0, none⟩) 2 2] 159
  c : ∀ i u, (codL Pb)[i]? = some u → w.cell? ⟨C, i, none⟩ = some u
  s : Blk w SN #[.int .i64 s0, .int .i64 s1] 3
  p : Blk w Pb (dgC S) 25
  g : Blk w S #[.int .i64 48, .int .i64 57] 119
  t : Blk w T #[.int .i64 97, .int .i64 49] 3
  ne : R ≠ SN ∧ C ≠ SN ∧ Pb ≠ SN ∧ S ≠ SN ∧ T ≠ SN
  lt : R < base ∧ C < base ∧ SN < base ∧ Pb < base ∧ S < base ∧ T < base
theorem Mr.move {w w' : World} {base R C SN Pb S T cc : Nat} {s0 s1 t0 t1 : Int} (h : Mr w base R C SN Pb S T cc s0 s1) (hb : ∀ k, k < base → k ≠ SN → w'.heap[k]? = w.heap[k]?) (hs : Blk w' SN #[.int .i64 t0, .int .i64 t1] 3) : Mr w' base R C SN Pb S T cc t0 t1 := by
  obtain ⟨n1, n2, n3, n4, n5⟩ := h.ne
  obtain ⟨l1, l2, l3, l4, l5, l6⟩ := h.lt
  exact ⟨h.r.block (hb R l1 n1), fun i u hi => (World.cell?_of_block (w := w) (a := ⟨C, i, none⟩) (hb C l2 n2)).trans (h.c i u hi), hs, h.p.block (hb Pb l4 n3), h.g.block (hb S l5 n4), h.t.block (hb T l6 n5), h.ne, h.lt⟩
theorem Mr.below {w w' : World} {base B R C SN Pb S T cc : Nat} {s0 s1 : Int} (h : Mr w base R C SN Pb S T cc s0 s1) (hb : Below B w w') (hB : base ≤ B) : Mr w' base R C SN Pb S T cc s0 s1 :=
  h.move (fun k hk _ => hb.block k (by omega)) (h.s.below hb (by have := h.lt; omega))
theorem Mr.drewN {w : World} {base R C SN Pb S T cc : Nat} {s0 s1 : Int} (h : Mr w base R C SN Pb S T cc s0 s1) (n : Nat) : Mr (w.drewN n) base R C SN Pb S T cc s0 s1 :=
  h.move (fun k hk _ => rfl) (h.s.drewN n)
set_option maxHeartbeats 8000000 in
theorem compile_any (S T : Nat) (w : World) (hS : Blk w S #[.int .i64 48, .int .i64 57] 119) (hT : Blk w T #[.int .i64 97, .int .i64 49] 3) :
    Calls Tryd.prog 53 #[.agg (dgC S), .slice (some ⟨T, 0, none⟩) 2 2] w fun e w' => ∃ base R C SN Pb cc, e = .returned (.pointer (some ⟨R, 0, none⟩)) ∧ Mr w' base R C SN Pb S T cc 0 0 ∧ base ≤ w'.heap.size ∧ w.heap.size ≤ SN ∧ Below w.heap.size w w' := by
  have hSl := hS.lt
  have hTl := hT.lt
  have HS := Lib.hid hS
  have HT := Lib.hid hT
  obtain ⟨w1, hw1⟩ : ∃ x : World, x = (w.alloc (.cells (dgC S) 25)).alloc (.cells #[.slice none 0 0, .int .i64 0] 164) := ⟨_, rfl⟩
  have HB1 := Lib.hid (show Below w.heap.size w w1 by rw [hw1]; exact ((Below.refl _ _).alloc (Nat.le_refl _) _).alloc (by simp) _)
  have HP1 := Lib.hid (show Blk w1 w.heap.size (dgC S) 25 by rw [hw1]; exact (Blk.new _ _ _).alloc _)
  have HM1 := Lib.hid (show Blk w1 (w.heap.size + 1) #[.slice none 0 0, .int .i64 0] 164 by
    have h := Blk.new (w.alloc (.cells (dgC S) 25)) #[.slice none 0 0, .int .i64 0] 164
    rw [show (w.alloc (.cells (dgC S) 25)).heap.size = w.heap.size + 1 by simp] at h
    rw [hw1]
    exact h)
  have hz1 : w1.heap.size = w.heap.size + 2 := by rw [hw1]; simp
  have HZ1 := Lib.hid hz1
  have HW1 := Lib.hid hw1
  obtain ⟨b, hb⟩ : ∃ b, b = w.heap.size := ⟨_, rfl⟩
  have HBE := Lib.hid hb
  rw [← hb] at HP1 HM1 HZ1 hSl hTl
  have HC := Lib.hid (node0_any (b + 2) (b + 1) b S 0 [] (.slice none 0 0) (.int .i64 0) w1 HM1 (Lib.hid (RowL.nil _ _ _ _)) (by rw [HZ1.out]; exact Nat.le_refl _) (by omega) (by omega) HP1.out)
  clear hS hT hw1 hb hz1
  go_enter Tryd.func53, Tryd.ntmps53
  go_upto_region 2 with fail
  rw [← HW1.out, ← HBE.out]
  go_upto_region 3 with (go_at_call 81; refine HC.out.mono ?_; rintro e w2 ⟨rfl, g2, c2, hr2, hm2, ha2⟩)
  have HR2 := Lib.hid hr2
  have HM2 := Lib.hid hm2
  have HA2 := Lib.hid ha2
  have HC2 := Lib.hid (add_any (b + 2) (b + 1) 1 _ _ (.int .i64 0) 7 0 0 none w2 HM2 HR2 (by have := ha2.size; rw [HZ1.out] at this; exact this) (by omega) (by omega))
  clear hr2 hm2 ha2 HC
  go_upto_region 4 with (go_at_call 82; refine HC2.out.mono ?_; rintro e w3 ⟨rfl, g3, c3, hr3, hm3, ha3⟩)
  have m0 : w3.cell? ⟨b + 1, 0, none⟩ = some (.slice (some ⟨g3, 0, none⟩) 2 c3) := hm3.cell (i := 0) rfl
  have hMl := hm3.lt
  refine wp_region_held_drew (S := fun w' => w'.cell? ⟨b + 1, 0, none⟩ = some (.slice (some ⟨g3, 0, none⟩) 2 c3)) (by kernel_rfl) (by exact m0) ?_
  intro hHeld
  refine takeD (i := 0) (oi := { dst := some 10, op := _, type := _, pos := _, after := _, guard := _ }) (d := some 10) (v := ?vva10) rfl rfl (by kernel_rfl) (by kernel_rfl) (by kernel_rfl) ?dda10 (by rfl) ?yya10 hHeld ?rra10
  case dda10 => first | exact fun _ _ _ h => h | exact fun _ _ _ h => HQ.out _ _ _ _ (by rfl) h
  case yya10 => (intro wx hSw; obtain y0 := hSw; go_simp; try (with_reducible rfl))
  try simp (maxSteps := 1000000) only [Act.put, List.setIfInBounds_toArray, List.set_cons_zero, List.set_cons_succ]
  refine takeD (i := 1) (oi := { dst := some 11, op := _, type := _, pos := _, after := _, guard := _ }) (d := some 11) (v := ?vva11) rfl rfl (by kernel_rfl) (by kernel_rfl) (by kernel_rfl) ?dda11 (by rfl) ?yya11 hHeld ?rra11
  case dda11 => first | exact fun _ _ _ h => h | exact fun _ _ _ h => HQ.out _ _ _ _ (by rfl) h
  case yya11 => (intro wx hSw; obtain y0 := hSw; go_simp; try (with_reducible rfl))
  try simp (maxSteps := 1000000) only [Act.put, List.setIfInBounds_toArray, List.set_cons_zero, List.set_cons_succ]
  refine takeD (i := 2) (oi := { dst := some 12, op := _, type := _, pos := _, after := _, guard := _ }) (d := some 12) (v := ?vva12) rfl rfl (by kernel_rfl) (by kernel_rfl) (by kernel_rfl) ?dda12 (by rfl) ?yya12 hHeld ?rra12
  case dda12 => first | exact fun _ _ _ h => h | exact fun _ _ _ h => HQ.out _ _ _ _ (by rfl) h
  case yya12 => (intro wx hSw; obtain y0 := hSw; go_simp; try (with_reducible rfl))
  try simp (maxSteps := 1000000) only [Act.put, List.setIfInBounds_toArray, List.set_cons_zero, List.set_cons_succ]
  refine takeD (i := 3) (oi := { dst := some 13, op := _, type := _, pos := _, after := _, guard := _ }) (d := some 13) (v := ?vva13) rfl rfl (by kernel_rfl) (by kernel_rfl) (by kernel_rfl) ?dda13 (by rfl) ?yya13 hHeld ?rra13
  case dda13 => first | exact fun _ _ _ h => h | exact fun _ _ _ h => HQ.out _ _ _ _ (by rfl) h
  case yya13 => (intro wx hSw; obtain y0 := hSw; go_simp; try (with_reducible rfl))
  try simp (maxSteps := 1000000) only [Act.put, List.setIfInBounds_toArray, List.set_cons_zero, List.set_cons_succ]
  refine takeD (i := 4) (oi := { dst := some 14, op := _, type := _, pos := _, after := _, guard := _ }) (d := some 14) (v := ?vva14) rfl rfl (by kernel_rfl) (by kernel_rfl) (by kernel_rfl) ?dda14 (by rfl) ?yya14 hHeld ?rra14
  case dda14 => first | exact fun _ _ _ h => h | exact fun _ _ _ h => HQ.out _ _ _ _ (by rfl) h
  case yya14 => (intro wx hSw; obtain y0 := hSw; go_simp; try (with_reducible rfl))
  try simp (maxSteps := 1000000) only [Act.put, List.setIfInBounds_toArray, List.set_cons_zero, List.set_cons_succ]
  refine takeD (i := 5) (oi := { dst := some 15, op := _, type := _, pos := _, after := _, guard := _ }) (d := some 15) (v := ?vva15) rfl rfl (by kernel_rfl) (by kernel_rfl) (by kernel_rfl) ?dda15 (by rfl) ?yya15 hHeld ?rra15
  case dda15 => first | exact fun _ _ _ h => h | exact fun _ _ _ h => HQ.out _ _ _ _ (by rfl) h
  case yya15 => (intro wx hSw; obtain y0 := hSw; go_simp; try (with_reducible rfl))
  try simp (maxSteps := 1000000) only [Act.put, List.setIfInBounds_toArray, List.set_cons_zero, List.set_cons_succ]
  refine wpAnyH_ready (rs := [6]) (by kernel_rfl) (by simp) ?_
  have hmk : ∀ w, (Instr.makeSlice 35 (.int .i64 2) (.int .i64 2)).run Tryd.prog w = .ok (.slice (some ⟨w.heap.size, 0, none⟩) 2 2) (w.alloc (.cells #[.int .i64 0, .int .i64 0] 3)) := fun w => by
    have h := Ref.make_ints 2 (by omega) w
    rw [show madeCells #[Value.int IntKind.i64 0] 2 = #[Value.int IntKind.i64 0, Value.int IntKind.i64 0] by kernel_rfl] at h
    exact h
  refine AllReadyH.cons (o := { dst := some 16, op := _, type := _, pos := _, after := _, guard := _ }) rfl (fun K hK => ?_) AllReadyH.nil
  obtain ⟨wq, hwq⟩ : ∃ x : World, x = w3.drew := ⟨_, rfl⟩
  have HMQ := Lib.hid (show Blk wq (b + 1) #[.slice (some ⟨g3, 0, none⟩) 2 c3, .int .i64 0] 164 by rw [hwq]; exact hm3.drew)
  have HRQ := Lib.hid (show RowL wq (b + 2) 169 4 (.slice (some ⟨g3, 0, none⟩) 2 c3) 2 (codL b) by rw [hwq]; exact RowL.drew hr3)
  have HAQ := Lib.hid (show Go.Law.Aside (b + 1) (.slice (some ⟨g2, 0, none⟩) 1 c2) w2 wq by rw [hwq]; exact Go.Law.Aside.drew ha3)
  have hgR : b + 2 ≤ g3 := RowL.ge hr3 g3 rfl
  have hgL : g3 < wq.heap.size := RowL.blk_lt HRQ.out g3 rfl
  have hg2R : b + 2 ≤ g2 := RowL.ge HR2.out g2 rfl
  have hqs : w1.heap.size ≤ wq.heap.size := Nat.le_trans HA2.out.size HAQ.out.size
  rw [HZ1.out] at hqs
  rw [← hwq]
  clear hwq hr3 hm3 ha3 m0 hHeld HC2
  obtain ⟨SN, hSN⟩ : ∃ x, x = wq.heap.size := ⟨_, rfl⟩
  obtain ⟨w4, hw4⟩ : ∃ x : World, x = wq.alloc (.cells #[.int .i64 0, .int .i64 0] 3) := ⟨_, rfl⟩
  have hmq := hmk wq
  rw [← hw4, ← hSN] at hmq
  have hz4 : w4.heap.size = SN + 1 := by rw [hw4, hSN]; simp
  have HB4 := Lib.hid (show Below wq.heap.size wq w4 by rw [hw4]; exact (Below.refl _ _).alloc (Nat.le_refl _) _)
  have HS4 := Lib.hid (show Blk w4 SN #[.int .i64 0, .int .i64 0] 3 by rw [hw4, hSN]; exact Blk.new _ _ _)
  have HM4 := Lib.hid (HMQ.out.below HB4.out HMQ.out.lt)
  have HSNE := Lib.hid hSN
  clear hw4 hmk hSN
  go_simp
  refine hK.out _ _ (by exact HM4.out.cell (i := 0) rfl) (fun hHeld2 => ?_)
  clear hK K hmq
  try simp only [Act.put, List.setIfInBounds_toArray, List.set_cons_zero, List.set_cons_succ]
  refine takeD (i := 7) (oi := { dst := some 17, op := _, type := _, pos := _, after := _, guard := _ }) (d := some 17) (v := ?vvb17) rfl rfl (by kernel_rfl) (by kernel_rfl) (by kernel_rfl) ?ddb17 (by rfl) ?yyb17 hHeld2 ?rrb17
  case ddb17 => first | exact fun _ _ _ h => h | exact fun _ _ _ h => HQ.out _ _ _ _ (by rfl) h
  case yyb17 => (intro wx hSw; obtain y0 := hSw; go_simp; try (with_reducible rfl))
  try simp (maxSteps := 1000000) only [Act.put, List.setIfInBounds_toArray, List.set_cons_zero, List.set_cons_succ]
  refine wpAnyH_ready (rs := [8]) (by kernel_rfl) (by simp) ?_
  refine AllReadyH.cons (o := { dst := some 18, op := _, type := _, pos := _, after := _, guard := _ }) rfl (fun K hK => ?_) AllReadyH.nil
  go_simp
  obtain ⟨w5, hw5⟩ : ∃ x : World, x = w4.alloc (.cells #[.slice (some ⟨g3, 0, none⟩) 2 c3, .slice (some ⟨T, 0, none⟩) 2 2, .slice (some ⟨SN, 0, none⟩) 2 2] 159) := ⟨_, rfl⟩
  have HB5 := Lib.hid (show Below w4.heap.size w4 w5 by rw [hw5]; exact (Below.refl _ _).alloc (Nat.le_refl _) _)
  have HX5 := Lib.hid (show Blk w5 (SN + 1) #[.slice (some ⟨g3, 0, none⟩) 2 c3, .slice (some ⟨T, 0, none⟩) 2 2, .slice (some ⟨SN, 0, none⟩) 2 2] 159 by rw [hw5, ← hz4]; exact Blk.new _ _ _)
  have hz5 : w5.heap.size = SN + 2 := by rw [hw5]; simp [hz4]
  rw [← hw5]
  have HM5 := Lib.hid (HM4.out.below HB5.out HM4.out.lt)
  refine hK.out _ _ (by exact HM5.out.cell (i := 0) rfl) (fun hHeld3 => ?_)
  clear hK K hw5 hHeld2
  try simp only [Act.put, List.setIfInBounds_toArray, List.set_cons_zero, List.set_cons_succ]
  refine takeD (i := 9) (oi := { dst := some 4, op := _, type := _, pos := _, after := _, guard := _ }) (d := some 4) (v := ?vvc4) rfl rfl (by kernel_rfl) (by kernel_rfl) (by kernel_rfl) ?ddc4 (by rfl) ?yyc4 hHeld3 ?rrc4
  case ddc4 => first | exact fun _ _ _ h => h | exact fun _ _ _ h => HQ.out _ _ _ _ (by rfl) h
  case yyc4 => (intro wx hSw; obtain y0 := hSw; go_simp; try (with_reducible rfl))
  try simp (maxSteps := 1000000) only [Act.put, List.setIfInBounds_toArray, List.set_cons_zero, List.set_cons_succ]
  refine wpAnyH_done (by kernel_rfl) ?_ _
  clear hHeld3
  have hSNq := HSNE.out
  have HQ5 := Lib.hid (show Below wq.heap.size wq w5 from HB4.out.trans (HB5.out.mono HB4.out.size))
  have HOLD := Lib.hid (show ∀ k, k ≤ b → w5.heap[k]? = w1.heap[k]? from fun k hk => by
    rw [HQ5.out.block k (by omega), HAQ.out.block k (by have := HA2.out.size; have := HZ1.out; omega) (by omega) (by simp [Value.ownBlock]; omega), HA2.out.block k (by have := HZ1.out; omega) (by omega) (by simp [Value.ownBlock])])
  have HROW := Lib.hid (show ∀ i u, (codL b)[i]? = some u → w5.cell? ⟨g3, i, none⟩ = some u from fun i u hi => by
    obtain ⟨g, cap, hv, _, _, _, _, _, hc⟩ := RowL.at HRQ.out (by omega)
    obtain ⟨rfl, _⟩ : g3 = g ∧ c3 = cap := by cases hv; exact ⟨rfl, rfl⟩
    exact (HQ5.out.cell (p := ⟨g3, i, none⟩) hgL).trans (hc i u hi))
  go_wp2_with fail
  go_ret
  refine ⟨SN + 2, SN + 1, g3, SN, b, c3, rfl, ⟨HX5.out, HROW.out, HS4.out.below HB5.out (by omega), HP1.out.block (HOLD.out b (Nat.le_refl _)), ?_, ?_, ⟨by omega, by omega, by omega, by omega, by omega⟩, ⟨by omega, by omega, by omega, by omega, by omega, by omega⟩⟩, by omega, by have := HBE.out; omega, ?_⟩
  · exact HS.out.block ((HOLD.out S (by omega)).trans (HB1.out.block S (by have := HBE.out; omega)))
  · exact HT.out.block ((HOLD.out T (by omega)).trans (HB1.out.block T (by have := HBE.out; omega)))
  · have hA : Below w.heap.size w1 wq := (Go.Law.Aside.below HA2.out HB1.out.size (by have := HBE.out; omega) (fun k hk => by simp [Value.ownBlock] at hk)).trans (Go.Law.Aside.below HAQ.out (by have := HA2.out.size; have := HB1.out.size; omega) (by have := HBE.out; omega) (fun k hk => by simp [Value.ownBlock] at hk; have := HBE.out; omega))
    exact HB1.out.trans (hA.trans (HQ5.out.mono (by have := HBE.out; omega)))
end Go.Proofs.YtghbicajcffjhaaDoor.PC
