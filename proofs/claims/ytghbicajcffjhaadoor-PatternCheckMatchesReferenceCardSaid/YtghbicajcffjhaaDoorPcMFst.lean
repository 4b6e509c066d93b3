
/-
  The matcher at the pattern of a digit: first.
-/
import Derived.Test.YtghbicajcffjhaaDoorPcMFol
namespace Go.Law
open Go.RowKit
theorem Only.aside {R : Nat} {v : Value} {w a b : World} (h : Only R w a) (k : Go.Law.Aside R v a b) (hv : ∀ j, v.ownBlock = some j → w.heap.size ≤ j) : Only R w b :=
  ⟨k.os.trans h.os, k.tape.trans h.tape, k.output.trans h.output, Nat.le_trans h.size k.size, fun i hi h1 h2 => (k.block i (Nat.lt_of_lt_of_le hi h.size) h1 (fun e => by have := hv i e; omega)).trans (h.block i hi h1 (by simp [Value.ownBlock]))⟩
end Go.Law
namespace Go.Proofs.YtghbicajcffjhaaDoor.PC
open Go.RowKit Go.Law Go.Law.Pn
set_option linter.unusedVariables false
set_option linter.unusedSimpArgs false
set_option maxRecDepth 100000
theorem Mr.wide {w : World} {base b2 R C SN Pb S T cc : Nat} {s0 s1 : Int} (h : Mr w base R C SN Pb S T cc s0 s1) (hb : base ≤ b2) : Mr w b2 R C SN Pb S T cc s0 s1 :=
  ⟨h.r, h.c, h.s, h.p, h.g, h.t, h.ne, by have := h.lt; omega⟩
set_option maxHeartbeats 16000000 in
theorem first_any {base R C SN Pb S T cc : Nat} {w : World} (HM : Hid (Mr w base R C SN Pb S T cc 0 0)) (hb : base ≤ w.heap.size) :
    Calls Tryd.prog 80 #[.pointer (some ⟨R, 0, none⟩), .int .i64 0, .int .i64 2] w fun e w' => ∃ F, e = .returned (.tuple #[.int .i64 2, .slice (some ⟨F, 0, none⟩) 2 2]) ∧ Blk w' F #[.int .i64 1, .int .i64 (-1)] 3 ∧ Only SN w w' := by
  have hmk : ∀ w, (Instr.makeSlice 35 (.int .i64 2) (.int .i64 2)).run Tryd.prog w = .ok (.slice (some ⟨w.heap.size, 0, none⟩) 2 2) (w.alloc (.cells #[.int .i64 0, .int .i64 0] 3)) := fun w => by
    have h := Ref.make_ints 2 (by omega) w
    rw [show madeCells #[Value.int IntKind.i64 0] 2 = #[Value.int IntKind.i64 0, Value.int IntKind.i64 0] by kernel_rfl] at h
    exact h
  go_enter Tryd.func80, Tryd.ntmps80
  go_wp2_with fail
  refine wp_loop_rounds 4 ?_
  rw [rounds_succ]
  have HMz := Lib.hid (HM.out.wide hb)
  go_upto_region 7 with fail
  obtain ⟨w1F0, hw1F0⟩ : ∃ x : World, x = (w).alloc (.cells #[.int .i64 0, .int .i64 0] 3) := ⟨_, rfl⟩
  obtain ⟨F0, hF0⟩ : ∃ x, x = (w).heap.size := ⟨_, rfl⟩
  have HK1F0 := Lib.hid (show Blk w1F0 F0 #[.int .i64 0, .int .i64 0] 3 by rw [hw1F0, hF0]; exact Blk.new _ _ _)
  have HB1F0 := Lib.hid (show Below (w).heap.size w w1F0 by rw [hw1F0]; exact (Below.refl _ _).alloc (Nat.le_refl _) _)
  have HW1F0 := Lib.hid hw1F0
  have HFEF0 := Lib.hid hF0
  rw [← HW1F0.out, ← HFEF0.out]
  clear hw1F0 hF0
  go_upto_block 2 with fail
  go_cut [12] from 25 to 31 (fun _ wx => Blk wx F0 #[.int .i64 (-1), .int .i64 (-1)] 3 ∧ Below (w).heap.size w wx)
  case first =>
    have y0 := HK1F0.out.cell (i := 0) rfl
    have y1 := HK1F0.out.cell (i := 1) rfl
    have yf := HK1F0.out.frozen
    go_wp2_with fail
    refine wp_loop_rounds 3 ?_
    rw [rounds_succ]
    go_wp2_with fail
    rw [rounds_succ]
    go_wp2_with fail
    rw [rounds_succ]
    go_wp2_with fail
    go_meet
    exact ⟨(HK1F0.out.set 0 _).set 1 _, (HB1F0.out.setCell (by rw [HFEF0.out]; exact Nat.le_refl _) _).setCell (by rw [HFEF0.out]; exact Nat.le_refl _) _⟩
  case rest =>
  obtain ⟨hk2F0, hb2F0⟩ := hcut
  obtain ⟨w2F0, rfl⟩ : ∃ x : World, x = wc := ⟨_, rfl⟩
  have y0 := hk2F0.cell (i := 0) rfl
  have yf := hk2F0.frozen
  obtain ⟨wB0, hwB0⟩ : ∃ x : World, x = w2F0.setCell ⟨F0, 0, none⟩ (.int .i64 0) := ⟨_, rfl⟩
  have HKF0 := Lib.hid (show Blk wB0 F0 #[.int .i64 0, .int .i64 (-1)] 3 by rw [hwB0]; exact hk2F0.set 0 _)
  have HBwB0 := Lib.hid (show Below (w).heap.size w wB0 by rw [hwB0]; exact hb2F0.setCell (by rw [HFEF0.out]; exact Nat.le_refl _) _)
  have HEwB0 := Lib.hid hwB0
  go_upto_region 13 with fail
  rw [← HEwB0.out]
  clear hwB0 y0 yf hk2F0 hb2F0
  have HMB0 := Lib.hid (HMz.out.below HBwB0.out (Nat.le_refl _))
  have HOB0 := Lib.hid (show Only SN w wB0 from Only.of_below HBwB0.out (Nat.le_refl _))
  have hsB0 := HBwB0.out.size
  have HF0 := Lib.hid (follow0_any (v := .slice none 0 0) (sa := some ⟨F0, 0, none⟩) (k := 0) HMB0 (Lib.hid (RowL.nil wB0 w.heap.size 200 2)) hsB0 (by omega) (by omega) (by omega) (by rfl))
  go_upto_region 14 with (go_at_call 115; refine HF0.out.mono ?_; rintro e wC0 ⟨g0, c0, rfl, hr0, hm0, ha0, hg0⟩)
  have hsC0 : w.heap.size ≤ wC0.heap.size := Nat.le_trans hsB0 ha0.size
  have HMC0 := Lib.hid hm0
  have HOC0 := Lib.hid (Only.aside HOB0.out ha0 (fun j hj => by simp [Value.ownBlock] at hj))
  have HKF0 := Lib.hid (show Blk wC0 F0 #[.int .i64 0, .int .i64 (-1)] 3 from HKF0.out.block (ha0.block F0 HKF0.out.lt (by have := HMC0.out.lt; have := HFEF0.out; omega) (by simp [Value.ownBlock])))
  obtain ⟨_, _, hv0, hgz0, hgl0, _, _, _, hgc0⟩ := RowL.at hr0 (by omega)
  cases hv0
  have d0 : wC0.cell? ⟨g0, 0, none⟩ = some (.int .i64 0) := hgc0 0 _ rfl
  have d1 : wC0.cell? ⟨g0, 1, none⟩ = some (.slice (some ⟨F0, 0, none⟩) 2 2) := hgc0 1 _ rfl
  clear hr0 hm0 ha0 hg0 hgc0 HF0
  go_upto_block 4 with fail
  go_cut [9, 10, 13, 15, 16] from 42 to 91 (fun ev bv nv _ _ wx => ev = .int .i64 (-1) ∧ bv = .slice none 0 0 ∧ nv = .slice none 0 0 ∧ Below wC0.heap.size wC0 wx)
  case first =>
    go_wp2_with fail
    refine wp_loop_rounds 2 ?_
    rw [rounds_succ]
    have HMRa := HMC0
    have hzsa := hsC0
    have hr0a : (wC0).cell? ⟨R, 0, none⟩ = some (.slice (some ⟨C, 0, none⟩) 2 cc) := HMRa.out.r.cell (i := 0) rfl
    go_upto_region 18 with fail
    obtain ⟨w1a, hw1a⟩ : ∃ x : World, x = (wC0).alloc (.cells #[.int .i64 0, .slice (some ⟨F0, 0, none⟩) 2 2] 200) := ⟨_, rfl⟩
    obtain ⟨Xa, hXa⟩ : ∃ x, x = (wC0).heap.size := ⟨_, rfl⟩
    have HXa := Lib.hid (show Blk w1a Xa #[.int .i64 0, .slice (some ⟨F0, 0, none⟩) 2 2] 200 by rw [hw1a, hXa]; exact Blk.new _ _ _)
    have HB1a := Lib.hid (show Below (wC0).heap.size wC0 w1a by rw [hw1a]; exact (Below.refl _ _).alloc (Nat.le_refl _) _)
    have HM1a := Lib.hid (HMRa.out.below HB1a.out hzsa)
    have HW1a := Lib.hid hw1a
    have HXEa := Lib.hid hXa
    rw [← HW1a.out, ← HXEa.out]
    clear hw1a hXa hr0a
    have b0 : w1a.cell? ⟨R, 0, none⟩ = some (.slice (some ⟨C, 0, none⟩) 2 cc) := HM1a.out.r.cell (i := 0) rfl
    have b1 : w1a.cell? ⟨Xa, 0, none⟩ = some (.int .i64 0) := HXa.out.cell (i := 0) rfl
    have b2 : w1a.cell? ⟨C, 4 * 0, none⟩ = some (.int .i64 0) := HM1a.out.c (4 * 0) _ rfl
    have b3 : w1a.cell? ⟨C, 4 * 0 + 1, none⟩ = some (.int .i64 0) := HM1a.out.c (4 * 0 + 1) _ rfl
    have b4 : w1a.cell? ⟨C, 4 * 0 + 2, none⟩ = some (.int .i64 0) := HM1a.out.c (4 * 0 + 2) _ rfl
    have b5 : w1a.cell? ⟨C, 4 * 0 + 3, none⟩ = some (.pointer (some ⟨Pb, 0, none⟩)) := HM1a.out.c (4 * 0 + 3) _ rfl
    have hXla := HXa.out.lt
    have hRla := HM1a.out.r.lt
    have hCla := lt_of_cell b2
    simp only at hCla
    simp only [Nat.mul_zero, Nat.zero_add, Nat.mul_one, Nat.reduceAdd] at b2 b3 b4 b5
    refine wp_region_held_drew (S := fun w' => w'.cell? ⟨R, 0, none⟩ = some (.slice (some ⟨C, 0, none⟩) 2 cc) ∧ w'.cell? ⟨Xa, 0, none⟩ = some (.int .i64 0) ∧ w'.cell? ⟨C, 4 * 0, none⟩ = some (.int .i64 0) ∧ w'.cell? ⟨C, 4 * 0 + 1, none⟩ = some (.int .i64 0) ∧ w'.cell? ⟨C, 4 * 0 + 2, none⟩ = some (.int .i64 0) ∧ w'.cell? ⟨C, 4 * 0 + 3, none⟩ = some (.pointer (some ⟨Pb, 0, none⟩))) (by kernel_rfl) (by exact ⟨b0, b1, b2, b3, b4, b5⟩) ?_
    simp only [Nat.mul_zero, Nat.zero_add, Nat.mul_one, Nat.reduceAdd]
    intro hHeld
    refine takeD (i := 0) (oi := { dst := some 46, op := _, type := _, pos := _, after := _, guard := _ }) (d := some 46) (v := ?vva46) rfl rfl (by kernel_rfl) (by kernel_rfl) (by kernel_rfl) ?dda46 (by rfl) ?yya46 hHeld ?rra46
    case dda46 => first | exact fun _ _ _ h => h | exact fun _ _ _ h => HQ.out _ _ _ _ (by rfl) h
    case yya46 => (intro wx hSw; obtain ⟨y0, y1, y2, y3, y4, y5⟩ := hSw; go_simp; try (with_reducible rfl))
    try simp (maxSteps := 1000000) only [Act.put, List.setIfInBounds_toArray, List.set_cons_zero, List.set_cons_succ]
    refine takeD (i := 1) (oi := { dst := some 47, op := _, type := _, pos := _, after := _, guard := _ }) (d := some 47) (v := ?vva47) rfl rfl (by kernel_rfl) (by kernel_rfl) (by kernel_rfl) ?dda47 (by rfl) ?yya47 hHeld ?rra47
    case dda47 => first | exact fun _ _ _ h => h | exact fun _ _ _ h => HQ.out _ _ _ _ (by rfl) h
    case yya47 => (intro wx hSw; obtain ⟨y0, y1, y2, y3, y4, y5⟩ := hSw; go_simp; try (with_reducible rfl))
    try simp (maxSteps := 1000000) only [Act.put, List.setIfInBounds_toArray, List.set_cons_zero, List.set_cons_succ]
    refine takeD (i := 2) (oi := { dst := some 48, op := _, type := _, pos := _, after := _, guard := _ }) (d := some 48) (v := ?vva48) rfl rfl (by kernel_rfl) (by kernel_rfl) (by kernel_rfl) ?dda48 (by rfl) ?yya48 hHeld ?rra48
    case dda48 => first | exact fun _ _ _ h => h | exact fun _ _ _ h => HQ.out _ _ _ _ (by rfl) h
    case yya48 => (intro wx hSw; obtain ⟨y0, y1, y2, y3, y4, y5⟩ := hSw; go_simp; try (with_reducible rfl))
    try simp (maxSteps := 1000000) only [Act.put, List.setIfInBounds_toArray, List.set_cons_zero, List.set_cons_succ]
    refine takeD (i := 3) (oi := { dst := some 49, op := _, type := _, pos := _, after := _, guard := _ }) (d := some 49) (v := ?vva49) rfl rfl (by kernel_rfl) (by kernel_rfl) (by kernel_rfl) ?dda49 (by rfl) ?yya49 hHeld ?rra49
    case dda49 => first | exact fun _ _ _ h => h | exact fun _ _ _ h => HQ.out _ _ _ _ (by rfl) h
    case yya49 => (intro wx hSw; obtain ⟨y0, y1, y2, y3, y4, y5⟩ := hSw; go_simp; try (with_reducible rfl))
    try simp (maxSteps := 1000000) only [Act.put, List.setIfInBounds_toArray, List.set_cons_zero, List.set_cons_succ]
    refine takeD (i := 4) (oi := { dst := some 50, op := _, type := _, pos := _, after := _, guard := _ }) (d := some 50) (v := ?vva50) rfl rfl (by kernel_rfl) (by kernel_rfl) (by kernel_rfl) ?dda50 (by rfl) ?yya50 hHeld ?rra50
    case dda50 => first | exact fun _ _ _ h => h | exact fun _ _ _ h => HQ.out _ _ _ _ (by rfl) h
    case yya50 => (intro wx hSw; obtain ⟨y0, y1, y2, y3, y4, y5⟩ := hSw; go_simp; try (with_reducible rfl))
    try simp (maxSteps := 1000000) only [Act.put, List.setIfInBounds_toArray, List.set_cons_zero, List.set_cons_succ]
    refine takeD (i := 5) (oi := { dst := some 51, op := _, type := _, pos := _, after := _, guard := _ }) (d := some 51) (v := ?vva51) rfl rfl (by kernel_rfl) (by kernel_rfl) (by kernel_rfl) ?dda51 (by rfl) ?yya51 hHeld ?rra51
    case dda51 => first | exact fun _ _ _ h => h | exact fun _ _ _ h => HQ.out _ _ _ _ (by rfl) h
    case yya51 => (intro wx hSw; obtain ⟨y0, y1, y2, y3, y4, y5⟩ := hSw; go_simp; try (with_reducible rfl))
    try simp (maxSteps := 1000000) only [Act.put, List.setIfInBounds_toArray, List.set_cons_zero, List.set_cons_succ]
    refine takeD (i := 6) (oi := { dst := some 52, op := _, type := _, pos := _, after := _, guard := _ }) (d := some 52) (v := ?vva52) rfl rfl (by kernel_rfl) (by kernel_rfl) (by kernel_rfl) ?dda52 (by rfl) ?yya52 hHeld ?rra52
    case dda52 => first | exact fun _ _ _ h => h | exact fun _ _ _ h => HQ.out _ _ _ _ (by rfl) h
    case yya52 => (intro wx hSw; obtain ⟨y0, y1, y2, y3, y4, y5⟩ := hSw; go_simp; try (with_reducible rfl))
    try simp (maxSteps := 1000000) only [Act.put, List.setIfInBounds_toArray, List.set_cons_zero, List.set_cons_succ]
    refine takeD (i := 7) (oi := { dst := some 53, op := _, type := _, pos := _, after := _, guard := _ }) (d := some 53) (v := ?vva53) rfl rfl (by kernel_rfl) (by kernel_rfl) (by kernel_rfl) ?dda53 (by rfl) ?yya53 hHeld ?rra53
    case dda53 => first | exact fun _ _ _ h => h | exact fun _ _ _ h => HQ.out _ _ _ _ (by rfl) h
    case yya53 => (intro wx hSw; obtain ⟨y0, y1, y2, y3, y4, y5⟩ := hSw; go_simp; try (with_reducible rfl))
    try simp (maxSteps := 1000000) only [Act.put, List.setIfInBounds_toArray, List.set_cons_zero, List.set_cons_succ]
    refine wpAnyH_ready (rs := [8]) (by kernel_rfl) (by simp) ?_
    refine AllReadyH.cons (o := { dst := some 16, op := _, type := _, pos := _, after := _, guard := _ }) rfl (fun K hK => ?_) AllReadyH.nil
    obtain ⟨wqa, hwqa⟩ : ∃ x : World, x = w1a.drew := ⟨_, rfl⟩
    have HBqa := Lib.hid (show Below (wC0).heap.size wC0 wqa by rw [hwqa]; exact HB1a.out.drew)
    have HXqa := Lib.hid (show Blk wqa Xa #[.int .i64 0, .slice (some ⟨F0, 0, none⟩) 2 2] 200 by rw [hwqa]; exact HXa.out.drew)
    rw [← hwqa]
    clear hwqa b0 b1 b2 b3 b4 b5 hHeld
    go_simp
    obtain ⟨w2a, hw2a⟩ : ∃ x : World, x = wqa.alloc (.cells #[.int .i64 0, .int .i64 0, .int .i64 0, .pointer none] 169) := ⟨_, rfl⟩
    obtain ⟨Ia, hIa⟩ : ∃ x, x = wqa.heap.size := ⟨_, rfl⟩
    have HI2a := Lib.hid (show Blk w2a Ia #[.int .i64 0, .int .i64 0, .int .i64 0, .pointer none] 169 by rw [hw2a, hIa]; exact Blk.new _ _ _)
    have HB2a := Lib.hid (show Below (wC0).heap.size wC0 w2a by rw [hw2a]; exact HBqa.out.alloc HBqa.out.size _)
    have HX2a := Lib.hid (show Blk w2a Xa #[.int .i64 0, .slice (some ⟨F0, 0, none⟩) 2 2] 200 by rw [hw2a]; exact HXqa.out.alloc _)
    have HM2a := Lib.hid (HMRa.out.below HB2a.out hzsa)
    have hIXa : Xa < Ia := by rw [hIa]; exact HXqa.out.lt
    have hIWa : (wC0).heap.size ≤ Ia := by rw [hIa]; exact HBqa.out.size
    have HW2a := Lib.hid hw2a
    have HIEa := Lib.hid hIa
    rw [← HW2a.out, ← HIEa.out]
    clear hw2a hIa
    refine hK.out _ _ (by exact ⟨HM2a.out.r.cell (i := 0) rfl, HX2a.out.cell (i := 0) rfl, HM2a.out.c (4 * 0) _ rfl, HM2a.out.c (4 * 0 + 1) _ rfl, HM2a.out.c (4 * 0 + 2) _ rfl, HM2a.out.c (4 * 0 + 3) _ rfl⟩) (fun hHeld2 => ?_)
    clear hK K
    try simp only [Act.put, List.setIfInBounds_toArray, List.set_cons_zero, List.set_cons_succ]
    have i0 : w2a.cell? ⟨Ia, 0, none⟩ = some (.int .i64 0) := HI2a.out.cell (i := 0) rfl
    have i1 : w2a.cell? ⟨Ia, 1, none⟩ = some (.int .i64 0) := HI2a.out.cell (i := 1) rfl
    have i2 : w2a.cell? ⟨Ia, 2, none⟩ = some (.int .i64 0) := HI2a.out.cell (i := 2) rfl
    have i3 : w2a.cell? ⟨Ia, 3, none⟩ = some (.pointer none) := HI2a.out.cell (i := 3) rfl
    have ifr := HI2a.out.frozen
    refine wpAnyH_ready (rs := [9]) (by kernel_rfl) (by simp) ?_
    refine AllReadyH.cons (o := { dst := none, op := _, type := _, pos := _, after := _, guard := _ }) rfl (fun K hK => ?_) AllReadyH.nil
    go_simp
    obtain ⟨w3a, hw3a⟩ : ∃ x : World, x = (((w2a.setCell ⟨Ia, 0, none⟩ (.int .i64 0)).setCell ⟨Ia, 1, none⟩ (.int .i64 0)).setCell ⟨Ia, 2, none⟩ (.int .i64 0)).setCell ⟨Ia, 3, none⟩ (.pointer (some ⟨Pb, 0, none⟩)) := ⟨_, rfl⟩
    have HI3a := Lib.hid (show Blk w3a Ia #[.int .i64 0, .int .i64 0, .int .i64 0, .pointer (some ⟨Pb, 0, none⟩)] 169 by rw [hw3a]; exact (((HI2a.out.set 0 _).set 1 _).set 2 _).set 3 _)
    have HB3a := Lib.hid (show Below (wC0).heap.size wC0 w3a by rw [hw3a]; exact (((HB2a.out.setCell hIWa _).setCell hIWa _).setCell hIWa _).setCell hIWa _)
    have HX3a := Lib.hid (show Blk w3a Xa #[.int .i64 0, .slice (some ⟨F0, 0, none⟩) 2 2] 200 by rw [hw3a]; exact (((HX2a.out.other (Nat.ne_of_lt hIXa) _).other (Nat.ne_of_lt hIXa) _).other (Nat.ne_of_lt hIXa) _).other (Nat.ne_of_lt hIXa) _)
    have HM3a := Lib.hid (HMRa.out.below HB3a.out hzsa)
    have HW3a := Lib.hid hw3a
    rw [← HW3a.out]
    clear hw3a
    refine hK.out _ _ (by exact ⟨HM3a.out.r.cell (i := 0) rfl, HX3a.out.cell (i := 0) rfl, HM3a.out.c (4 * 0) _ rfl, HM3a.out.c (4 * 0 + 1) _ rfl, HM3a.out.c (4 * 0 + 2) _ rfl, HM3a.out.c (4 * 0 + 3) _ rfl⟩) (fun hHeld3 => ?_)
    clear hK K hHeld2 hHeld3 i0 i1 i2 i3 ifr
    try simp only [Act.put, List.setIfInBounds_toArray, List.set_cons_zero, List.set_cons_succ]
    refine wpAnyH_done (by kernel_rfl) ?_ _
    have i0 : w3a.cell? ⟨Ia, 0, none⟩ = some (.int .i64 0) := HI3a.out.cell (i := 0) rfl
    go_upto_region 21 with fail
    have b0 : w3a.cell? ⟨R, 1, none⟩ = some (.slice (some ⟨T, 0, none⟩) 2 2) := HM3a.out.r.cell (i := 1) rfl
    have b1 : w3a.cell? ⟨Ia, 3, none⟩ = some (.pointer (some ⟨Pb, 0, none⟩)) := HI3a.out.cell (i := 3) rfl
    have b2 : w3a.cell? ⟨Pb, 0, none⟩ = some (.int .i64 0) := HM3a.out.p.cell (i := 0) rfl
    have b3 : w3a.cell? ⟨Pb, 1, none⟩ = some (.bool false) := HM3a.out.p.cell (i := 1) rfl
    have b4 : w3a.cell? ⟨Pb, 2, none⟩ = some (.bool false) := HM3a.out.p.cell (i := 2) rfl
    have b5 : w3a.cell? ⟨Pb, 3, none⟩ = some (.int .i64 0) := HM3a.out.p.cell (i := 3) rfl
    have b6 : w3a.cell? ⟨Pb, 4, none⟩ = some (.int .i64 0) := HM3a.out.p.cell (i := 4) rfl
    have b7 : w3a.cell? ⟨Pb, 5, none⟩ = some (.slice (some ⟨S, 0, none⟩) 1 1) := HM3a.out.p.cell (i := 5) rfl
    have b8 : w3a.cell? ⟨Pb, 6, none⟩ = some (.slice none 0 0) := HM3a.out.p.cell (i := 6) rfl
    have b9 : w3a.cell? ⟨T, 0, none⟩ = some (.int .i64 97) := HM3a.out.t.cell (i := 0) rfl
    refine wp_region_held_drew (S := fun w' => w'.cell? ⟨R, 1, none⟩ = some (.slice (some ⟨T, 0, none⟩) 2 2) ∧ w'.cell? ⟨Ia, 3, none⟩ = some (.pointer (some ⟨Pb, 0, none⟩)) ∧ w'.cell? ⟨Pb, 0, none⟩ = some (.int .i64 0) ∧ w'.cell? ⟨Pb, 1, none⟩ = some (.bool false) ∧ w'.cell? ⟨Pb, 2, none⟩ = some (.bool false) ∧ w'.cell? ⟨Pb, 3, none⟩ = some (.int .i64 0) ∧ w'.cell? ⟨Pb, 4, none⟩ = some (.int .i64 0) ∧ w'.cell? ⟨Pb, 5, none⟩ = some (.slice (some ⟨S, 0, none⟩) 1 1) ∧ w'.cell? ⟨Pb, 6, none⟩ = some (.slice none 0 0) ∧ w'.cell? ⟨T, 0, none⟩ = some (.int .i64 97)) (by kernel_rfl) (by exact ⟨b0, b1, b2, b3, b4, b5, b6, b7, b8, b9⟩) ?_
    intro hHeld
    refine takeD (i := 0) (oi := { dst := some 60, op := _, type := _, pos := _, after := _, guard := _ }) (d := some 60) (v := ?vvha60) rfl rfl (by kernel_rfl) (by kernel_rfl) (by kernel_rfl) ?ddha60 (by rfl) ?yyha60 hHeld ?rrha60
    case ddha60 => first | exact fun _ _ _ h => h | exact fun _ _ _ h => HQ.out _ _ _ _ (by rfl) h
    case yyha60 => (intro wx hSw; obtain ⟨y0, y1, y2, y3, y4, y5, y6, y7, y8, y9⟩ := hSw; go_simp; try (with_reducible rfl))
    try simp (maxSteps := 1000000) only [Act.put, List.setIfInBounds_toArray, List.set_cons_zero, List.set_cons_succ]
    refine takeD (i := 1) (oi := { dst := some 61, op := _, type := _, pos := _, after := _, guard := _ }) (d := some 61) (v := ?vvha61) rfl rfl (by kernel_rfl) (by kernel_rfl) (by kernel_rfl) ?ddha61 (by rfl) ?yyha61 hHeld ?rrha61
    case ddha61 => first | exact fun _ _ _ h => h | exact fun _ _ _ h => HQ.out _ _ _ _ (by rfl) h
    case yyha61 => (intro wx hSw; obtain ⟨y0, y1, y2, y3, y4, y5, y6, y7, y8, y9⟩ := hSw; go_simp; try (with_reducible rfl))
    try simp (maxSteps := 1000000) only [Act.put, List.setIfInBounds_toArray, List.set_cons_zero, List.set_cons_succ]
    refine takeD (i := 2) (oi := { dst := some 62, op := _, type := _, pos := _, after := _, guard := _ }) (d := some 62) (v := ?vvha62) rfl rfl (by kernel_rfl) (by kernel_rfl) (by kernel_rfl) ?ddha62 (by rfl) ?yyha62 hHeld ?rrha62
    case ddha62 => first | exact fun _ _ _ h => h | exact fun _ _ _ h => HQ.out _ _ _ _ (by rfl) h
    case yyha62 => (intro wx hSw; obtain ⟨y0, y1, y2, y3, y4, y5, y6, y7, y8, y9⟩ := hSw; go_simp; try (with_reducible rfl))
    try simp (maxSteps := 1000000) only [Act.put, List.setIfInBounds_toArray, List.set_cons_zero, List.set_cons_succ]
    refine takeD (i := 3) (oi := { dst := some 63, op := _, type := _, pos := _, after := _, guard := _ }) (d := some 63) (v := ?vvha63) rfl rfl (by kernel_rfl) (by kernel_rfl) (by kernel_rfl) ?ddha63 (by rfl) ?yyha63 hHeld ?rrha63
    case ddha63 => first | exact fun _ _ _ h => h | exact fun _ _ _ h => HQ.out _ _ _ _ (by rfl) h
    case yyha63 => (intro wx hSw; obtain ⟨y0, y1, y2, y3, y4, y5, y6, y7, y8, y9⟩ := hSw; go_simp; try (with_reducible rfl))
    try simp (maxSteps := 1000000) only [Act.put, List.setIfInBounds_toArray, List.set_cons_zero, List.set_cons_succ]
    refine takeD (i := 4) (oi := { dst := some 64, op := _, type := _, pos := _, after := _, guard := _ }) (d := some 64) (v := ?vvha64) rfl rfl (by kernel_rfl) (by kernel_rfl) (by kernel_rfl) ?ddha64 (by rfl) ?yyha64 hHeld ?rrha64
    case ddha64 => first | exact fun _ _ _ h => h | exact fun _ _ _ h => HQ.out _ _ _ _ (by rfl) h
    case yyha64 => (intro wx hSw; obtain ⟨y0, y1, y2, y3, y4, y5, y6, y7, y8, y9⟩ := hSw; go_simp; try (with_reducible rfl))
    try simp (maxSteps := 1000000) only [Act.put, List.setIfInBounds_toArray, List.set_cons_zero, List.set_cons_succ]
    refine takeD (i := 5) (oi := { dst := some 65, op := _, type := _, pos := _, after := _, guard := _ }) (d := some 65) (v := ?vvha65) rfl rfl (by kernel_rfl) (by kernel_rfl) (by kernel_rfl) ?ddha65 (by rfl) ?yyha65 hHeld ?rrha65
    case ddha65 => first | exact fun _ _ _ h => h | exact fun _ _ _ h => HQ.out _ _ _ _ (by rfl) h
    case yyha65 => (intro wx hSw; obtain ⟨y0, y1, y2, y3, y4, y5, y6, y7, y8, y9⟩ := hSw; go_simp; try (with_reducible rfl))
    try simp (maxSteps := 1000000) only [Act.put, List.setIfInBounds_toArray, List.set_cons_zero, List.set_cons_succ]
    refine takeD (i := 6) (oi := { dst := some 66, op := _, type := _, pos := _, after := _, guard := _ }) (d := some 66) (v := ?vvha66) rfl rfl (by kernel_rfl) (by kernel_rfl) (by kernel_rfl) ?ddha66 (by rfl) ?yyha66 hHeld ?rrha66
    case ddha66 => first | exact fun _ _ _ h => h | exact fun _ _ _ h => HQ.out _ _ _ _ (by rfl) h
    case yyha66 => (intro wx hSw; obtain ⟨y0, y1, y2, y3, y4, y5, y6, y7, y8, y9⟩ := hSw; go_simp; try (with_reducible rfl))
    try simp (maxSteps := 1000000) only [Act.put, List.setIfInBounds_toArray, List.set_cons_zero, List.set_cons_succ]
    refine takeD (i := 7) (oi := { dst := some 67, op := _, type := _, pos := _, after := _, guard := _ }) (d := some 67) (v := ?vvha67) rfl rfl (by kernel_rfl) (by kernel_rfl) (by kernel_rfl) ?ddha67 (by rfl) ?yyha67 hHeld ?rrha67
    case ddha67 => first | exact fun _ _ _ h => h | exact fun _ _ _ h => HQ.out _ _ _ _ (by rfl) h
    case yyha67 => (intro wx hSw; obtain ⟨y0, y1, y2, y3, y4, y5, y6, y7, y8, y9⟩ := hSw; go_simp; try (with_reducible rfl))
    try simp (maxSteps := 1000000) only [Act.put, List.setIfInBounds_toArray, List.set_cons_zero, List.set_cons_succ]
    refine takeD (i := 8) (oi := { dst := some 68, op := _, type := _, pos := _, after := _, guard := _ }) (d := some 68) (v := ?vvha68) rfl rfl (by kernel_rfl) (by kernel_rfl) (by kernel_rfl) ?ddha68 (by rfl) ?yyha68 hHeld ?rrha68
    case ddha68 => first | exact fun _ _ _ h => h | exact fun _ _ _ h => HQ.out _ _ _ _ (by rfl) h
    case yyha68 => (intro wx hSw; obtain ⟨y0, y1, y2, y3, y4, y5, y6, y7, y8, y9⟩ := hSw; go_simp; try (with_reducible rfl))
    try simp (maxSteps := 1000000) only [Act.put, List.setIfInBounds_toArray, List.set_cons_zero, List.set_cons_succ]
    refine takeD (i := 9) (oi := { dst := some 69, op := _, type := _, pos := _, after := _, guard := _ }) (d := some 69) (v := ?vvha69) rfl rfl (by kernel_rfl) (by kernel_rfl) (by kernel_rfl) ?ddha69 (by rfl) ?yyha69 hHeld ?rrha69
    case ddha69 => first | exact fun _ _ _ h => h | exact fun _ _ _ h => HQ.out _ _ _ _ (by rfl) h
    case yyha69 => (intro wx hSw; obtain ⟨y0, y1, y2, y3, y4, y5, y6, y7, y8, y9⟩ := hSw; go_simp; try (with_reducible rfl))
    try simp (maxSteps := 1000000) only [Act.put, List.setIfInBounds_toArray, List.set_cons_zero, List.set_cons_succ]
    refine takeD (i := 10) (oi := { dst := some 70, op := _, type := _, pos := _, after := _, guard := _ }) (d := some 70) (v := ?vvha70) rfl rfl (by kernel_rfl) (by kernel_rfl) (by kernel_rfl) ?ddha70 (by rfl) ?yyha70 hHeld ?rrha70
    case ddha70 => first | exact fun _ _ _ h => h | exact fun _ _ _ h => HQ.out _ _ _ _ (by rfl) h
    case yyha70 => (intro wx hSw; obtain ⟨y0, y1, y2, y3, y4, y5, y6, y7, y8, y9⟩ := hSw; go_simp; try (with_reducible rfl))
    try simp (maxSteps := 1000000) only [Act.put, List.setIfInBounds_toArray, List.set_cons_zero, List.set_cons_succ]
    refine takeD (i := 11) (oi := { dst := some 71, op := _, type := _, pos := _, after := _, guard := _ }) (d := some 71) (v := ?vvha71) rfl rfl (by kernel_rfl) (by kernel_rfl) (by kernel_rfl) ?ddha71 (by rfl) ?yyha71 hHeld ?rrha71
    case ddha71 => first | exact fun _ _ _ h => h | exact fun _ _ _ h => HQ.out _ _ _ _ (by rfl) h
    case yyha71 => (intro wx hSw; obtain ⟨y0, y1, y2, y3, y4, y5, y6, y7, y8, y9⟩ := hSw; go_simp; try (with_reducible rfl))
    try simp (maxSteps := 1000000) only [Act.put, List.setIfInBounds_toArray, List.set_cons_zero, List.set_cons_succ]
    refine takeD (i := 12) (oi := { dst := some 72, op := _, type := _, pos := _, after := _, guard := _ }) (d := some 72) (v := ?vvha72) rfl rfl (by kernel_rfl) (by kernel_rfl) (by kernel_rfl) ?ddha72 (by rfl) ?yyha72 hHeld ?rrha72
    case ddha72 => first | exact fun _ _ _ h => h | exact fun _ _ _ h => HQ.out _ _ _ _ (by rfl) h
    case yyha72 => (intro wx hSw; obtain ⟨y0, y1, y2, y3, y4, y5, y6, y7, y8, y9⟩ := hSw; go_simp; try (with_reducible rfl))
    try simp (maxSteps := 1000000) only [Act.put, List.setIfInBounds_toArray, List.set_cons_zero, List.set_cons_succ]
    refine takeD (i := 13) (oi := { dst := some 73, op := _, type := _, pos := _, after := _, guard := _ }) (d := some 73) (v := ?vvha73) rfl rfl (by kernel_rfl) (by kernel_rfl) (by kernel_rfl) ?ddha73 (by rfl) ?yyha73 hHeld ?rrha73
    case ddha73 => first | exact fun _ _ _ h => h | exact fun _ _ _ h => HQ.out _ _ _ _ (by rfl) h
    case yyha73 => (intro wx hSw; obtain ⟨y0, y1, y2, y3, y4, y5, y6, y7, y8, y9⟩ := hSw; go_simp; try (with_reducible rfl))
    try simp (maxSteps := 1000000) only [Act.put, List.setIfInBounds_toArray, List.set_cons_zero, List.set_cons_succ]
    refine takeD (i := 14) (oi := { dst := some 74, op := _, type := _, pos := _, after := _, guard := _ }) (d := some 74) (v := ?vvha74) rfl rfl (by kernel_rfl) (by kernel_rfl) (by kernel_rfl) ?ddha74 (by rfl) ?yyha74 hHeld ?rrha74
    case ddha74 => first | exact fun _ _ _ h => h | exact fun _ _ _ h => HQ.out _ _ _ _ (by rfl) h
    case yyha74 => (intro wx hSw; obtain ⟨y0, y1, y2, y3, y4, y5, y6, y7, y8, y9⟩ := hSw; go_simp; try (with_reducible rfl))
    try simp (maxSteps := 1000000) only [Act.put, List.setIfInBounds_toArray, List.set_cons_zero, List.set_cons_succ]
    refine takeD (i := 15) (oi := { dst := some 75, op := _, type := _, pos := _, after := _, guard := _ }) (d := some 75) (v := ?vvha75) rfl rfl (by kernel_rfl) (by kernel_rfl) (by kernel_rfl) ?ddha75 (by rfl) ?yyha75 hHeld ?rrha75
    case ddha75 => first | exact fun _ _ _ h => h | exact fun _ _ _ h => HQ.out _ _ _ _ (by rfl) h
    case yyha75 => (intro wx hSw; obtain ⟨y0, y1, y2, y3, y4, y5, y6, y7, y8, y9⟩ := hSw; go_simp; try (with_reducible rfl))
    try simp (maxSteps := 1000000) only [Act.put, List.setIfInBounds_toArray, List.set_cons_zero, List.set_cons_succ]
    refine takeD (i := 16) (oi := { dst := some 76, op := _, type := _, pos := _, after := _, guard := _ }) (d := some 76) (v := ?vvha76) rfl rfl (by kernel_rfl) (by kernel_rfl) (by kernel_rfl) ?ddha76 (by rfl) ?yyha76 hHeld ?rrha76
    case ddha76 => first | exact fun _ _ _ h => h | exact fun _ _ _ h => HQ.out _ _ _ _ (by rfl) h
    case yyha76 => (intro wx hSw; obtain ⟨y0, y1, y2, y3, y4, y5, y6, y7, y8, y9⟩ := hSw; go_simp; try (with_reducible rfl))
    try simp (maxSteps := 1000000) only [Act.put, List.setIfInBounds_toArray, List.set_cons_zero, List.set_cons_succ]
    refine takeD (i := 17) (oi := { dst := some 77, op := _, type := _, pos := _, after := _, guard := _ }) (d := some 77) (v := ?vvha77) rfl rfl (by kernel_rfl) (by kernel_rfl) (by kernel_rfl) ?ddha77 (by rfl) ?yyha77 hHeld ?rrha77
    case ddha77 => first | exact fun _ _ _ h => h | exact fun _ _ _ h => HQ.out _ _ _ _ (by rfl) h
    case yyha77 => (intro wx hSw; obtain ⟨y0, y1, y2, y3, y4, y5, y6, y7, y8, y9⟩ := hSw; go_simp; try (with_reducible rfl))
    try simp (maxSteps := 1000000) only [Act.put, List.setIfInBounds_toArray, List.set_cons_zero, List.set_cons_succ]
    refine takeD (i := 18) (oi := { dst := some 78, op := _, type := _, pos := _, after := _, guard := _ }) (d := some 78) (v := ?vvha78) rfl rfl (by kernel_rfl) (by kernel_rfl) (by kernel_rfl) ?ddha78 (by rfl) ?yyha78 hHeld ?rrha78
    case ddha78 => first | exact fun _ _ _ h => h | exact fun _ _ _ h => HQ.out _ _ _ _ (by rfl) h
    case yyha78 => (intro wx hSw; obtain ⟨y0, y1, y2, y3, y4, y5, y6, y7, y8, y9⟩ := hSw; go_simp; try (with_reducible rfl))
    try simp (maxSteps := 1000000) only [Act.put, List.setIfInBounds_toArray, List.set_cons_zero, List.set_cons_succ]
    refine wpAnyH_ready (rs := [19]) (by kernel_rfl) (by simp) ?_
    refine AllReadyH.cons (o := { dst := some 79, op := _, type := _, pos := _, after := _, guard := _ }) rfl (fun K hK => ?_) AllReadyH.nil
    have HMDa := Lib.hid (HM3a.out.drewN 1)
    have HBDa := Lib.hid (HB3a.out.drew)
    go_simp
    refine (holds_no S w3a.drew HMDa.out.g).mono ?_
    rintro e w4a ⟨rfl, hb4⟩
    have HB4a := Lib.hid (HBDa.out.trans (hb4.mono HBDa.out.size))
    have HM4a := Lib.hid (HMRa.out.below HB4a.out hzsa)
    have HBSa := Lib.hid (show Below w3a.heap.size w3a w4a from ((Below.refl _ _).drew).trans hb4)
    have HI4a := Lib.hid (HI3a.out.below HBSa.out HI3a.out.lt)
    have HX4a := Lib.hid (HX3a.out.below HBSa.out HX3a.out.lt)
    refine hK.out _ _ (by exact ⟨HM4a.out.r.cell (i := 1) rfl, HI4a.out.cell (i := 3) rfl, HM4a.out.p.cell (i := 0) rfl, HM4a.out.p.cell (i := 1) rfl, HM4a.out.p.cell (i := 2) rfl, HM4a.out.p.cell (i := 3) rfl, HM4a.out.p.cell (i := 4) rfl, HM4a.out.p.cell (i := 5) rfl, HM4a.out.p.cell (i := 6) rfl, HM4a.out.t.cell (i := 0) rfl⟩) (fun hHeld2 => ?_)
    clear hK K hHeld hb4 b0 b1 b2 b3 b4 b5 b6 b7 b8 b9 i0
    try simp only [Act.put, List.setIfInBounds_toArray, List.set_cons_zero, List.set_cons_succ]
    refine takeD (i := 20) (oi := { dst := some 80, op := _, type := _, pos := _, after := _, guard := _ }) (d := some 80) (v := ?vvia80) rfl rfl (by kernel_rfl) (by kernel_rfl) (by kernel_rfl) ?ddia80 (by rfl) ?yyia80 hHeld2 ?rria80
    case ddia80 => first | exact fun _ _ _ h => h | exact fun _ _ _ h => HQ.out _ _ _ _ (by rfl) h
    case yyia80 => (intro wx hSw; obtain ⟨y0, y1, y2, y3, y4, y5, y6, y7, y8, y9⟩ := hSw; go_simp; try (with_reducible rfl))
    try simp (maxSteps := 1000000) only [Act.put, List.setIfInBounds_toArray, List.set_cons_zero, List.set_cons_succ]
    refine wpAnyH_done (by kernel_rfl) ?_ _
    clear hHeld2
    go_wp2_with fail
    rw [rounds_succ]
    go_wp2_with fail
    go_meet
    exact ⟨rfl, rfl, rfl, HB4a.out⟩
  case rest =>
  obtain ⟨rfl, rfl, rfl, hbD0⟩ := hcut
  obtain ⟨wD0, rfl⟩ : ∃ x : World, x = wc := ⟨_, rfl⟩
  have hsD0 : w.heap.size ≤ wD0.heap.size := Nat.le_trans hsC0 hbD0.size
  have HMD0 := Lib.hid (HMC0.out.below hbD0 hsC0)
  have HOD0 := Lib.hid (Only.more HOC0.out hbD0 (Nat.le_refl _))
  clear hbD0 d0 d1
  have r1 : wD0.cell? ⟨R, 1, none⟩ = some (.slice (some ⟨T, 0, none⟩) 2 2) := HMD0.out.r.cell (i := 1) rfl
  go_wp2_with fail
  rw [rounds_succ]
  clear r1
  go_upto_region 7 with fail
  obtain ⟨w1F1, hw1F1⟩ : ∃ x : World, x = (wD0).alloc (.cells #[.int .i64 0, .int .i64 0] 3) := ⟨_, rfl⟩
  obtain ⟨F1, hF1⟩ : ∃ x, x = (wD0).heap.size := ⟨_, rfl⟩
  have HK1F1 := Lib.hid (show Blk w1F1 F1 #[.int .i64 0, .int .i64 0] 3 by rw [hw1F1, hF1]; exact Blk.new _ _ _)
  have HB1F1 := Lib.hid (show Below (wD0).heap.size wD0 w1F1 by rw [hw1F1]; exact (Below.refl _ _).alloc (Nat.le_refl _) _)
  have HW1F1 := Lib.hid hw1F1
  have HFEF1 := Lib.hid hF1
  rw [← HW1F1.out, ← HFEF1.out]
  clear hw1F1 hF1
  go_upto_block 2 with fail
  go_cut [12] from 25 to 31 (fun _ wx => Blk wx F1 #[.int .i64 (-1), .int .i64 (-1)] 3 ∧ Below (wD0).heap.size wD0 wx)
  case first =>
    have y0 := HK1F1.out.cell (i := 0) rfl
    have y1 := HK1F1.out.cell (i := 1) rfl
    have yf := HK1F1.out.frozen
    go_wp2_with fail
    refine wp_loop_rounds 3 ?_
    rw [rounds_succ]
    go_wp2_with fail
    rw [rounds_succ]
    go_wp2_with fail
    rw [rounds_succ]
    go_wp2_with fail
    go_meet
    exact ⟨(HK1F1.out.set 0 _).set 1 _, (HB1F1.out.setCell (by rw [HFEF1.out]; exact Nat.le_refl _) _).setCell (by rw [HFEF1.out]; exact Nat.le_refl _) _⟩
  case rest =>
  obtain ⟨hk2F1, hb2F1⟩ := hcut
  obtain ⟨w2F1, rfl⟩ : ∃ x : World, x = wc := ⟨_, rfl⟩
  have y0 := hk2F1.cell (i := 0) rfl
  have yf := hk2F1.frozen
  obtain ⟨wB1, hwB1⟩ : ∃ x : World, x = w2F1.setCell ⟨F1, 0, none⟩ (.int .i64 1) := ⟨_, rfl⟩
  have HKF1 := Lib.hid (show Blk wB1 F1 #[.int .i64 1, .int .i64 (-1)] 3 by rw [hwB1]; exact hk2F1.set 0 _)
  have HBwB1 := Lib.hid (show Below (wD0).heap.size wD0 wB1 by rw [hwB1]; exact hb2F1.setCell (by rw [HFEF1.out]; exact Nat.le_refl _) _)
  have HEwB1 := Lib.hid hwB1
  go_upto_region 13 with fail
  rw [← HEwB1.out]
  clear hwB1 y0 yf hk2F1 hb2F1
  have HMB1 := Lib.hid (HMD0.out.below HBwB1.out hsD0)
  have HOB1 := Lib.hid (Only.more HOD0.out HBwB1.out (Nat.le_refl _))
  have hsB1 : w.heap.size ≤ wB1.heap.size := Nat.le_trans hsD0 HBwB1.out.size
  have HF1 := Lib.hid (follow0_any (v := .slice none 0 0) (sa := some ⟨F1, 0, none⟩) (k := 1) HMB1 (Lib.hid (RowL.nil wB1 w.heap.size 200 2)) hsB1 (by omega) (by omega) (by omega) (by rfl))
  go_upto_region 14 with (go_at_call 115; refine HF1.out.mono ?_; rintro e wC1 ⟨g1, c1, rfl, hr1, hm1, ha1, hg1⟩)
  have hsC1 : w.heap.size ≤ wC1.heap.size := Nat.le_trans hsB1 ha1.size
  have HMC1 := Lib.hid hm1
  have HOC1 := Lib.hid (Only.aside HOB1.out ha1 (fun j hj => by simp [Value.ownBlock] at hj))
  have HKC1 := Lib.hid (show Blk wC1 F1 #[.int .i64 1, .int .i64 (-1)] 3 from HKF1.out.block (ha1.block F1 HKF1.out.lt (by have := HMC1.out.lt; have := HFEF1.out; omega) (by simp [Value.ownBlock])))
  obtain ⟨_, _, hv1, hgz1, hgl1, _, _, _, hgc1⟩ := RowL.at hr1 (by omega)
  cases hv1
  have d0 : wC1.cell? ⟨g1, 0, none⟩ = some (.int .i64 0) := hgc1 0 _ rfl
  have d1 : wC1.cell? ⟨g1, 1, none⟩ = some (.slice (some ⟨F1, 0, none⟩) 2 2) := hgc1 1 _ rfl
  clear hr1 hm1 ha1 hg1 hgc1 HF1
  go_upto_block 4 with fail
  go_cut [9, 10, 13, 15, 16] from 42 to 91 (fun ev bv nv _ _ wx => ev = .int .i64 (-1) ∧ bv = .slice none 0 0 ∧ ∃ h hc, nv = .slice (some ⟨h, 0, none⟩) 1 hc ∧ RowL wx w.heap.size 200 2 (.slice (some ⟨h, 0, none⟩) 1 hc) 1 [.int .i64 1, .slice (some ⟨F1, 0, none⟩) 2 2] ∧ Mr wx w.heap.size R C SN Pb S T cc 2 3 ∧ Only SN wC1 wx ∧ wC1.heap.size ≤ h)
  case first =>
    go_wp2_with fail
    refine wp_loop_rounds 2 ?_
    rw [rounds_succ]
    have HMRb := HMC1
    have hzsb := hsC1
    have hr0b : (wC1).cell? ⟨R, 0, none⟩ = some (.slice (some ⟨C, 0, none⟩) 2 cc) := HMRb.out.r.cell (i := 0) rfl
    go_upto_region 18 with fail
    obtain ⟨w1b, hw1b⟩ : ∃ x : World, x = (wC1).alloc (.cells #[.int .i64 0, .slice (some ⟨F1, 0, none⟩) 2 2] 200) := ⟨_, rfl⟩
    obtain ⟨Xb, hXb⟩ : ∃ x, x = (wC1).heap.size := ⟨_, rfl⟩
    have HXb := Lib.hid (show Blk w1b Xb #[.int .i64 0, .slice (some ⟨F1, 0, none⟩) 2 2] 200 by rw [hw1b, hXb]; exact Blk.new _ _ _)
    have HB1b := Lib.hid (show Below (wC1).heap.size wC1 w1b by rw [hw1b]; exact (Below.refl _ _).alloc (Nat.le_refl _) _)
    have HM1b := Lib.hid (HMRb.out.below HB1b.out hzsb)
    have HW1b := Lib.hid hw1b
    have HXEb := Lib.hid hXb
    rw [← HW1b.out, ← HXEb.out]
    clear hw1b hXb hr0b
    have b0 : w1b.cell? ⟨R, 0, none⟩ = some (.slice (some ⟨C, 0, none⟩) 2 cc) := HM1b.out.r.cell (i := 0) rfl
    have b1 : w1b.cell? ⟨Xb, 0, none⟩ = some (.int .i64 0) := HXb.out.cell (i := 0) rfl
    have b2 : w1b.cell? ⟨C, 4 * 0, none⟩ = some (.int .i64 0) := HM1b.out.c (4 * 0) _ rfl
    have b3 : w1b.cell? ⟨C, 4 * 0 + 1, none⟩ = some (.int .i64 0) := HM1b.out.c (4 * 0 + 1) _ rfl
    have b4 : w1b.cell? ⟨C, 4 * 0 + 2, none⟩ = some (.int .i64 0) := HM1b.out.c (4 * 0 + 2) _ rfl
    have b5 : w1b.cell? ⟨C, 4 * 0 + 3, none⟩ = some (.pointer (some ⟨Pb, 0, none⟩)) := HM1b.out.c (4 * 0 + 3) _ rfl
    have hXlb := HXb.out.lt
    have hRlb := HM1b.out.r.lt
    have hClb := lt_of_cell b2
    simp only at hClb
    simp only [Nat.mul_zero, Nat.zero_add, Nat.mul_one, Nat.reduceAdd] at b2 b3 b4 b5
    refine wp_region_held_drew (S := fun w' => w'.cell? ⟨R, 0, none⟩ = some (.slice (some ⟨C, 0, none⟩) 2 cc) ∧ w'.cell? ⟨Xb, 0, none⟩ = some (.int .i64 0) ∧ w'.cell? ⟨C, 4 * 0, none⟩ = some (.int .i64 0) ∧ w'.cell? ⟨C, 4 * 0 + 1, none⟩ = some (.int .i64 0) ∧ w'.cell? ⟨C, 4 * 0 + 2, none⟩ = some (.int .i64 0) ∧ w'.cell? ⟨C, 4 * 0 + 3, none⟩ = some (.pointer (some ⟨Pb, 0, none⟩))) (by kernel_rfl) (by exact ⟨b0, b1, b2, b3, b4, b5⟩) ?_
    simp only [Nat.mul_zero, Nat.zero_add, Nat.mul_one, Nat.reduceAdd]
    intro hHeld
    refine takeD (i := 0) (oi := { dst := some 46, op := _, type := _, pos := _, after := _, guard := _ }) (d := some 46) (v := ?vvb46) rfl rfl (by kernel_rfl) (by kernel_rfl) (by kernel_rfl) ?ddb46 (by rfl) ?yyb46 hHeld ?rrb46
    case ddb46 => first | exact fun _ _ _ h => h | exact fun _ _ _ h => HQ.out _ _ _ _ (by rfl) h
    case yyb46 => (intro wx hSw; obtain ⟨y0, y1, y2, y3, y4, y5⟩ := hSw; go_simp; try (with_reducible rfl))
    try simp (maxSteps := 1000000) only [Act.put, List.setIfInBounds_toArray, List.set_cons_zero, List.set_cons_succ]
    refine takeD (i := 1) (oi := { dst := some 47, op := _, type := _, pos := _, after := _, guard := _ }) (d := some 47) (v := ?vvb47) rfl rfl (by kernel_rfl) (by kernel_rfl) (by kernel_rfl) ?ddb47 (by rfl) ?yyb47 hHeld ?rrb47
    case ddb47 => first | exact fun _ _ _ h => h | exact fun _ _ _ h => HQ.out _ _ _ _ (by rfl) h
    case yyb47 => (intro wx hSw; obtain ⟨y0, y1, y2, y3, y4, y5⟩ := hSw; go_simp; try (with_reducible rfl))
    try simp (maxSteps := 1000000) only [Act.put, List.setIfInBounds_toArray, List.set_cons_zero, List.set_cons_succ]
    refine takeD (i := 2) (oi := { dst := some 48, op := _, type := _, pos := _, after := _, guard := _ }) (d := some 48) (v := ?vvb48) rfl rfl (by kernel_rfl) (by kernel_rfl) (by kernel_rfl) ?ddb48 (by rfl) ?yyb48 hHeld ?rrb48
    case ddb48 => first | exact fun _ _ _ h => h | exact fun _ _ _ h => HQ.out _ _ _ _ (by rfl) h
    case yyb48 => (intro wx hSw; obtain ⟨y0, y1, y2, y3, y4, y5⟩ := hSw; go_simp; try (with_reducible rfl))
    try simp (maxSteps := 1000000) only [Act.put, List.setIfInBounds_toArray, List.set_cons_zero, List.set_cons_succ]
    refine takeD (i := 3) (oi := { dst := some 49, op := _, type := _, pos := _, after := _, guard := _ }) (d := some 49) (v := ?vvb49) rfl rfl (by kernel_rfl) (by kernel_rfl) (by kernel_rfl) ?ddb49 (by rfl) ?yyb49 hHeld ?rrb49
    case ddb49 => first | exact fun _ _ _ h => h | exact fun _ _ _ h => HQ.out _ _ _ _ (by rfl) h
    case yyb49 => (intro wx hSw; obtain ⟨y0, y1, y2, y3, y4, y5⟩ := hSw; go_simp; try (with_reducible rfl))
    try simp (maxSteps := 1000000) only [Act.put, List.setIfInBounds_toArray, List.set_cons_zero, List.set_cons_succ]
    refine takeD (i := 4) (oi := { dst := some 50, op := _, type := _, pos := _, after := _, guard := _ }) (d := some 50) (v := ?vvb50) rfl rfl (by kernel_rfl) (by kernel_rfl) (by kernel_rfl) ?ddb50 (by rfl) ?yyb50 hHeld ?rrb50
    case ddb50 => first | exact fun _ _ _ h => h | exact fun _ _ _ h => HQ.out _ _ _ _ (by rfl) h
    case yyb50 => (intro wx hSw; obtain ⟨y0, y1, y2, y3, y4, y5⟩ := hSw; go_simp; try (with_reducible rfl))
    try simp (maxSteps := 1000000) only [Act.put, List.setIfInBounds_toArray, List.set_cons_zero, List.set_cons_succ]
    refine takeD (i := 5) (oi := { dst := some 51, op := _, type := _, pos := _, after := _, guard := _ }) (d := some 51) (v := ?vvb51) rfl rfl (by kernel_rfl) (by kernel_rfl) (by kernel_rfl) ?ddb51 (by rfl) ?yyb51 hHeld ?rrb51
    case ddb51 => first | exact fun _ _ _ h => h | exact fun _ _ _ h => HQ.out _ _ _ _ (by rfl) h
    case yyb51 => (intro wx hSw; obtain ⟨y0, y1, y2, y3, y4, y5⟩ := hSw; go_simp; try (with_reducible rfl))
    try simp (maxSteps := 1000000) only [Act.put, List.setIfInBounds_toArray, List.set_cons_zero, List.set_cons_succ]
    refine takeD (i := 6) (oi := { dst := some 52, op := _, type := _, pos := _, after := _, guard := _ }) (d := some 52) (v := ?vvb52) rfl rfl (by kernel_rfl) (by kernel_rfl) (by kernel_rfl) ?ddb52 (by rfl) ?yyb52 hHeld ?rrb52
    case ddb52 => first | exact fun _ _ _ h => h | exact fun _ _ _ h => HQ.out _ _ _ _ (by rfl) h
    case yyb52 => (intro wx hSw; obtain ⟨y0, y1, y2, y3, y4, y5⟩ := hSw; go_simp; try (with_reducible rfl))
    try simp (maxSteps := 1000000) only [Act.put, List.setIfInBounds_toArray, List.set_cons_zero, List.set_cons_succ]
    refine takeD (i := 7) (oi := { dst := some 53, op := _, type := _, pos := _, after := _, guard := _ }) (d := some 53) (v := ?vvb53) rfl rfl (by kernel_rfl) (by kernel_rfl) (by kernel_rfl) ?ddb53 (by rfl) ?yyb53 hHeld ?rrb53
    case ddb53 => first | exact fun _ _ _ h => h | exact fun _ _ _ h => HQ.out _ _ _ _ (by rfl) h
    case yyb53 => (intro wx hSw; obtain ⟨y0, y1, y2, y3, y4, y5⟩ := hSw; go_simp; try (with_reducible rfl))
    try simp (maxSteps := 1000000) only [Act.put, List.setIfInBounds_toArray, List.set_cons_zero, List.set_cons_succ]
    refine wpAnyH_ready (rs := [8]) (by kernel_rfl) (by simp) ?_
    refine AllReadyH.cons (o := { dst := some 16, op := _, type := _, pos := _, after := _, guard := _ }) rfl (fun K hK => ?_) AllReadyH.nil
    obtain ⟨wqb, hwqb⟩ : ∃ x : World, x = w1b.drew := ⟨_, rfl⟩
    have HBqb := Lib.hid (show Below (wC1).heap.size wC1 wqb by rw [hwqb]; exact HB1b.out.drew)
    have HXqb := Lib.hid (show Blk wqb Xb #[.int .i64 0, .slice (some ⟨F1, 0, none⟩) 2 2] 200 by rw [hwqb]; exact HXb.out.drew)
    rw [← hwqb]
    clear hwqb b0 b1 b2 b3 b4 b5 hHeld
    go_simp
    obtain ⟨w2b, hw2b⟩ : ∃ x : World, x = wqb.alloc (.cells #[.int .i64 0, .int .i64 0, .int .i64 0, .pointer none] 169) := ⟨_, rfl⟩
    obtain ⟨Ib, hIb⟩ : ∃ x, x = wqb.heap.size := ⟨_, rfl⟩
    have HI2b := Lib.hid (show Blk w2b Ib #[.int .i64 0, .int .i64 0, .int .i64 0, .pointer none] 169 by rw [hw2b, hIb]; exact Blk.new _ _ _)
    have HB2b := Lib.hid (show Below (wC1).heap.size wC1 w2b by rw [hw2b]; exact HBqb.out.alloc HBqb.out.size _)
    have HX2b := Lib.hid (show Blk w2b Xb #[.int .i64 0, .slice (some ⟨F1, 0, none⟩) 2 2] 200 by rw [hw2b]; exact HXqb.out.alloc _)
    have HM2b := Lib.hid (HMRb.out.below HB2b.out hzsb)
    have hIXb : Xb < Ib := by rw [hIb]; exact HXqb.out.lt
    have hIWb : (wC1).heap.size ≤ Ib := by rw [hIb]; exact HBqb.out.size
    have HW2b := Lib.hid hw2b
    have HIEb := Lib.hid hIb
    rw [← HW2b.out, ← HIEb.out]
    clear hw2b hIb
    refine hK.out _ _ (by exact ⟨HM2b.out.r.cell (i := 0) rfl, HX2b.out.cell (i := 0) rfl, HM2b.out.c (4 * 0) _ rfl, HM2b.out.c (4 * 0 + 1) _ rfl, HM2b.out.c (4 * 0 + 2) _ rfl, HM2b.out.c (4 * 0 + 3) _ rfl⟩) (fun hHeld2 => ?_)
    clear hK K
    try simp only [Act.put, List.setIfInBounds_toArray, List.set_cons_zero, List.set_cons_succ]
    have i0 : w2b.cell? ⟨Ib, 0, none⟩ = some (.int .i64 0) := HI2b.out.cell (i := 0) rfl
    have i1 : w2b.cell? ⟨Ib, 1, none⟩ = some (.int .i64 0) := HI2b.out.cell (i := 1) rfl
    have i2 : w2b.cell? ⟨Ib, 2, none⟩ = some (.int .i64 0) := HI2b.out.cell (i := 2) rfl
    have i3 : w2b.cell? ⟨Ib, 3, none⟩ = some (.pointer none) := HI2b.out.cell (i := 3) rfl
    have ifr := HI2b.out.frozen
    refine wpAnyH_ready (rs := [9]) (by kernel_rfl) (by simp) ?_
    refine AllReadyH.cons (o := { dst := none, op := _, type := _, pos := _, after := _, guard := _ }) rfl (fun K hK => ?_) AllReadyH.nil
    go_simp
    obtain ⟨w3b, hw3b⟩ : ∃ x : World, x = (((w2b.setCell ⟨Ib, 0, none⟩ (.int .i64 0)).setCell ⟨Ib, 1, none⟩ (.int .i64 0)).setCell ⟨Ib, 2, none⟩ (.int .i64 0)).setCell ⟨Ib, 3, none⟩ (.pointer (some ⟨Pb, 0, none⟩)) := ⟨_, rfl⟩
    have HI3b := Lib.hid (show Blk w3b Ib #[.int .i64 0, .int .i64 0, .int .i64 0, .pointer (some ⟨Pb, 0, none⟩)] 169 by rw [hw3b]; exact (((HI2b.out.set 0 _).set 1 _).set 2 _).set 3 _)
    have HB3b := Lib.hid (show Below (wC1).heap.size wC1 w3b by rw [hw3b]; exact (((HB2b.out.setCell hIWb _).setCell hIWb _).setCell hIWb _).setCell hIWb _)
    have HX3b := Lib.hid (show Blk w3b Xb #[.int .i64 0, .slice (some ⟨F1, 0, none⟩) 2 2] 200 by rw [hw3b]; exact (((HX2b.out.other (Nat.ne_of_lt hIXb) _).other (Nat.ne_of_lt hIXb) _).other (Nat.ne_of_lt hIXb) _).other (Nat.ne_of_lt hIXb) _)
    have HM3b := Lib.hid (HMRb.out.below HB3b.out hzsb)
    have HW3b := Lib.hid hw3b
    rw [← HW3b.out]
    clear hw3b
    refine hK.out _ _ (by exact ⟨HM3b.out.r.cell (i := 0) rfl, HX3b.out.cell (i := 0) rfl, HM3b.out.c (4 * 0) _ rfl, HM3b.out.c (4 * 0 + 1) _ rfl, HM3b.out.c (4 * 0 + 2) _ rfl, HM3b.out.c (4 * 0 + 3) _ rfl⟩) (fun hHeld3 => ?_)
    clear hK K hHeld2 hHeld3 i0 i1 i2 i3 ifr
    try simp only [Act.put, List.setIfInBounds_toArray, List.set_cons_zero, List.set_cons_succ]
    refine wpAnyH_done (by kernel_rfl) ?_ _
    have i0 : w3b.cell? ⟨Ib, 0, none⟩ = some (.int .i64 0) := HI3b.out.cell (i := 0) rfl
    go_upto_region 21 with fail
    have b0 : w3b.cell? ⟨R, 1, none⟩ = some (.slice (some ⟨T, 0, none⟩) 2 2) := HM3b.out.r.cell (i := 1) rfl
    have b1 : w3b.cell? ⟨Ib, 3, none⟩ = some (.pointer (some ⟨Pb, 0, none⟩)) := HI3b.out.cell (i := 3) rfl
    have b2 : w3b.cell? ⟨Pb, 0, none⟩ = some (.int .i64 0) := HM3b.out.p.cell (i := 0) rfl
    have b3 : w3b.cell? ⟨Pb, 1, none⟩ = some (.bool false) := HM3b.out.p.cell (i := 1) rfl
    have b4 : w3b.cell? ⟨Pb, 2, none⟩ = some (.bool false) := HM3b.out.p.cell (i := 2) rfl
    have b5 : w3b.cell? ⟨Pb, 3, none⟩ = some (.int .i64 0) := HM3b.out.p.cell (i := 3) rfl
    have b6 : w3b.cell? ⟨Pb, 4, none⟩ = some (.int .i64 0) := HM3b.out.p.cell (i := 4) rfl
    have b7 : w3b.cell? ⟨Pb, 5, none⟩ = some (.slice (some ⟨S, 0, none⟩) 1 1) := HM3b.out.p.cell (i := 5) rfl
    have b8 : w3b.cell? ⟨Pb, 6, none⟩ = some (.slice none 0 0) := HM3b.out.p.cell (i := 6) rfl
    have b9 : w3b.cell? ⟨T, 1, none⟩ = some (.int .i64 49) := HM3b.out.t.cell (i := 1) rfl
    refine wp_region_held_drew (S := fun w' => w'.cell? ⟨R, 1, none⟩ = some (.slice (some ⟨T, 0, none⟩) 2 2) ∧ w'.cell? ⟨Ib, 3, none⟩ = some (.pointer (some ⟨Pb, 0, none⟩)) ∧ w'.cell? ⟨Pb, 0, none⟩ = some (.int .i64 0) ∧ w'.cell? ⟨Pb, 1, none⟩ = some (.bool false) ∧ w'.cell? ⟨Pb, 2, none⟩ = some (.bool false) ∧ w'.cell? ⟨Pb, 3, none⟩ = some (.int .i64 0) ∧ w'.cell? ⟨Pb, 4, none⟩ = some (.int .i64 0) ∧ w'.cell? ⟨Pb, 5, none⟩ = some (.slice (some ⟨S, 0, none⟩) 1 1) ∧ w'.cell? ⟨Pb, 6, none⟩ = some (.slice none 0 0) ∧ w'.cell? ⟨T, 1, none⟩ = some (.int .i64 49)) (by kernel_rfl) (by exact ⟨b0, b1, b2, b3, b4, b5, b6, b7, b8, b9⟩) ?_
    intro hHeld
    refine takeD (i := 0) (oi := { dst := some 60, op := _, type := _, pos := _, after := _, guard := _ }) (d := some 60) (v := ?vvhb60) rfl rfl (by kernel_rfl) (by kernel_rfl) (by kernel_rfl) ?ddhb60 (by rfl) ?yyhb60 hHeld ?rrhb60
    case ddhb60 => first | exact fun _ _ _ h => h | exact fun _ _ _ h => HQ.out _ _ _ _ (by rfl) h
    case yyhb60 => (intro wx hSw; obtain ⟨y0, y1, y2, y3, y4, y5, y6, y7, y8, y9⟩ := hSw; go_simp; try (with_reducible rfl))
    try simp (maxSteps := 1000000) only [Act.put, List.setIfInBounds_toArray, List.set_cons_zero, List.set_cons_succ]
    refine takeD (i := 1) (oi := { dst := some 61, op := _, type := _, pos := _, after := _, guard := _ }) (d := some 61) (v := ?vvhb61) rfl rfl (by kernel_rfl) (by kernel_rfl) (by kernel_rfl) ?ddhb61 (by rfl) ?yyhb61 hHeld ?rrhb61
    case ddhb61 => first | exact fun _ _ _ h => h | exact fun _ _ _ h => HQ.out _ _ _ _ (by rfl) h
    case yyhb61 => (intro wx hSw; obtain ⟨y0, y1, y2, y3, y4, y5, y6, y7, y8, y9⟩ := hSw; go_simp; try (with_reducible rfl))
    try simp (maxSteps := 1000000) only [Act.put, List.setIfInBounds_toArray, List.set_cons_zero, List.set_cons_succ]
    refine takeD (i := 2) (oi := { dst := some 62, op := _, type := _, pos := _, after := _, guard := _ }) (d := some 62) (v := ?vvhb62) rfl rfl (by kernel_rfl) (by kernel_rfl) (by kernel_rfl) ?ddhb62 (by rfl) ?yyhb62 hHeld ?rrhb62
    case ddhb62 => first | exact fun _ _ _ h => h | exact fun _ _ _ h => HQ.out _ _ _ _ (by rfl) h
    case yyhb62 => (intro wx hSw; obtain ⟨y0, y1, y2, y3, y4, y5, y6, y7, y8, y9⟩ := hSw; go_simp; try (with_reducible rfl))
    try simp (maxSteps := 1000000) only [Act.put, List.setIfInBounds_toArray, List.set_cons_zero, List.set_cons_succ]
    refine takeD (i := 3) (oi := { dst := some 63, op := _, type := _, pos := _, after := _, guard := _ }) (d := some 63) (v := ?vvhb63) rfl rfl (by kernel_rfl) (by kernel_rfl) (by kernel_rfl) ?ddhb63 (by rfl) ?yyhb63 hHeld ?rrhb63
    case ddhb63 => first | exact fun _ _ _ h => h | exact fun _ _ _ h => HQ.out _ _ _ _ (by rfl) h
    case yyhb63 => (intro wx hSw; obtain ⟨y0, y1, y2, y3, y4, y5, y6, y7, y8, y9⟩ := hSw; go_simp; try (with_reducible rfl))
    try simp (maxSteps := 1000000) only [Act.put, List.setIfInBounds_toArray, List.set_cons_zero, List.set_cons_succ]
    refine takeD (i := 4) (oi := { dst := some 64, op := _, type := _, pos := _, after := _, guard := _ }) (d := some 64) (v := ?vvhb64) rfl rfl (by kernel_rfl) (by kernel_rfl) (by kernel_rfl) ?ddhb64 (by rfl) ?yyhb64 hHeld ?rrhb64
    case ddhb64 => first | exact fun _ _ _ h => h | exact fun _ _ _ h => HQ.out _ _ _ _ (by rfl) h
    case yyhb64 => (intro wx hSw; obtain ⟨y0, y1, y2, y3, y4, y5, y6, y7, y8, y9⟩ := hSw; go_simp; try (with_reducible rfl))
    try simp (maxSteps := 1000000) only [Act.put, List.setIfInBounds_toArray, List.set_cons_zero, List.set_cons_succ]
    refine takeD (i := 5) (oi := { dst := some 65, op := _, type := _, pos := _, after := _, guard := _ }) (d := some 65) (v := ?vvhb65) rfl rfl (by kernel_rfl) (by kernel_rfl) (by kernel_rfl) ?ddhb65 (by rfl) ?yyhb65 hHeld ?rrhb65
    case ddhb65 => first | exact fun _ _ _ h => h | exact fun _ _ _ h => HQ.out _ _ _ _ (by rfl) h
    case yyhb65 => (intro wx hSw; obtain ⟨y0, y1, y2, y3, y4, y5, y6, y7, y8, y9⟩ := hSw; go_simp; try (with_reducible rfl))
    try simp (maxSteps := 1000000) only [Act.put, List.setIfInBounds_toArray, List.set_cons_zero, List.set_cons_succ]
    refine takeD (i := 6) (oi := { dst := some 66, op := _, type := _, pos := _, after := _, guard := _ }) (d := some 66) (v := ?vvhb66) rfl rfl (by kernel_rfl) (by kernel_rfl) (by kernel_rfl) ?ddhb66 (by rfl) ?yyhb66 hHeld ?rrhb66
    case ddhb66 => first | exact fun _ _ _ h => h | exact fun _ _ _ h => HQ.out _ _ _ _ (by rfl) h
    case yyhb66 => (intro wx hSw; obtain ⟨y0, y1, y2, y3, y4, y5, y6, y7, y8, y9⟩ := hSw; go_simp; try (with_reducible rfl))
    try simp (maxSteps := 1000000) only [Act.put, List.setIfInBounds_toArray, List.set_cons_zero, List.set_cons_succ]
    refine takeD (i := 7) (oi := { dst := some 67, op := _, type := _, pos := _, after := _, guard := _ }) (d := some 67) (v := ?vvhb67) rfl rfl (by kernel_rfl) (by kernel_rfl) (by kernel_rfl) ?ddhb67 (by rfl) ?yyhb67 hHeld ?rrhb67
    case ddhb67 => first | exact fun _ _ _ h => h | exact fun _ _ _ h => HQ.out _ _ _ _ (by rfl) h
    case yyhb67 => (intro wx hSw; obtain ⟨y0, y1, y2, y3, y4, y5, y6, y7, y8, y9⟩ := hSw; go_simp; try (with_reducible rfl))
    try simp (maxSteps := 1000000) only [Act.put, List.setIfInBounds_toArray, List.set_cons_zero, List.set_cons_succ]
    refine takeD (i := 8) (oi := { dst := some 68, op := _, type := _, pos := _, after := _, guard := _ }) (d := some 68) (v := ?vvhb68) rfl rfl (by kernel_rfl) (by kernel_rfl) (by kernel_rfl) ?ddhb68 (by rfl) ?yyhb68 hHeld ?rrhb68
    case ddhb68 => first | exact fun _ _ _ h => h | exact fun _ _ _ h => HQ.out _ _ _ _ (by rfl) h
    case yyhb68 => (intro wx hSw; obtain ⟨y0, y1, y2, y3, y4, y5, y6, y7, y8, y9⟩ := hSw; go_simp; try (with_reducible rfl))
    try simp (maxSteps := 1000000) only [Act.put, List.setIfInBounds_toArray, List.set_cons_zero, List.set_cons_succ]
    refine takeD (i := 9) (oi := { dst := some 69, op := _, type := _, pos := _, after := _, guard := _ }) (d := some 69) (v := ?vvhb69) rfl rfl (by kernel_rfl) (by kernel_rfl) (by kernel_rfl) ?ddhb69 (by rfl) ?yyhb69 hHeld ?rrhb69
    case ddhb69 => first | exact fun _ _ _ h => h | exact fun _ _ _ h => HQ.out _ _ _ _ (by rfl) h
    case yyhb69 => (intro wx hSw; obtain ⟨y0, y1, y2, y3, y4, y5, y6, y7, y8, y9⟩ := hSw; go_simp; try (with_reducible rfl))
    try simp (maxSteps := 1000000) only [Act.put, List.setIfInBounds_toArray, List.set_cons_zero, List.set_cons_succ]
    refine takeD (i := 10) (oi := { dst := some 70, op := _, type := _, pos := _, after := _, guard := _ }) (d := some 70) (v := ?vvhb70) rfl rfl (by kernel_rfl) (by kernel_rfl) (by kernel_rfl) ?ddhb70 (by rfl) ?yyhb70 hHeld ?rrhb70
    case ddhb70 => first | exact fun _ _ _ h => h | exact fun _ _ _ h => HQ.out _ _ _ _ (by rfl) h
    case yyhb70 => (intro wx hSw; obtain ⟨y0, y1, y2, y3, y4, y5, y6, y7, y8, y9⟩ := hSw; go_simp; try (with_reducible rfl))
    try simp (maxSteps := 1000000) only [Act.put, List.setIfInBounds_toArray, List.set_cons_zero, List.set_cons_succ]
    refine takeD (i := 11) (oi := { dst := some 71, op := _, type := _, pos := _, after := _, guard := _ }) (d := some 71) (v := ?vvhb71) rfl rfl (by kernel_rfl) (by kernel_rfl) (by kernel_rfl) ?ddhb71 (by rfl) ?yyhb71 hHeld ?rrhb71
    case ddhb71 => first | exact fun _ _ _ h => h | exact fun _ _ _ h => HQ.out _ _ _ _ (by rfl) h
    case yyhb71 => (intro wx hSw; obtain ⟨y0, y1, y2, y3, y4, y5, y6, y7, y8, y9⟩ := hSw; go_simp; try (with_reducible rfl))
    try simp (maxSteps := 1000000) only [Act.put, List.setIfInBounds_toArray, List.set_cons_zero, List.set_cons_succ]
    refine takeD (i := 12) (oi := { dst := some 72, op := _, type := _, pos := _, after := _, guard := _ }) (d := some 72) (v := ?vvhb72) rfl rfl (by kernel_rfl) (by kernel_rfl) (by kernel_rfl) ?ddhb72 (by rfl) ?yyhb72 hHeld ?rrhb72
    case ddhb72 => first | exact fun _ _ _ h => h | exact fun _ _ _ h => HQ.out _ _ _ _ (by rfl) h
    case yyhb72 => (intro wx hSw; obtain ⟨y0, y1, y2, y3, y4, y5, y6, y7, y8, y9⟩ := hSw; go_simp; try (with_reducible rfl))
    try simp (maxSteps := 1000000) only [Act.put, List.setIfInBounds_toArray, List.set_cons_zero, List.set_cons_succ]
    refine takeD (i := 13) (oi := { dst := some 73, op := _, type := _, pos := _, after := _, guard := _ }) (d := some 73) (v := ?vvhb73) rfl rfl (by kernel_rfl) (by kernel_rfl) (by kernel_rfl) ?ddhb73 (by rfl) ?yyhb73 hHeld ?rrhb73
    case ddhb73 => first | exact fun _ _ _ h => h | exact fun _ _ _ h => HQ.out _ _ _ _ (by rfl) h
    case yyhb73 => (intro wx hSw; obtain ⟨y0, y1, y2, y3, y4, y5, y6, y7, y8, y9⟩ := hSw; go_simp; try (with_reducible rfl))
    try simp (maxSteps := 1000000) only [Act.put, List.setIfInBounds_toArray, List.set_cons_zero, List.set_cons_succ]
    refine takeD (i := 14) (oi := { dst := some 74, op := _, type := _, pos := _, after := _, guard := _ }) (d := some 74) (v := ?vvhb74) rfl rfl (by kernel_rfl) (by kernel_rfl) (by kernel_rfl) ?ddhb74 (by rfl) ?yyhb74 hHeld ?rrhb74
    case ddhb74 => first | exact fun _ _ _ h => h | exact fun _ _ _ h => HQ.out _ _ _ _ (by rfl) h
    case yyhb74 => (intro wx hSw; obtain ⟨y0, y1, y2, y3, y4, y5, y6, y7, y8, y9⟩ := hSw; go_simp; try (with_reducible rfl))
    try simp (maxSteps := 1000000) only [Act.put, List.setIfInBounds_toArray, List.set_cons_zero, List.set_cons_succ]
    refine takeD (i := 15) (oi := { dst := some 75, op := _, type := _, pos := _, after := _, guard := _ }) (d := some 75) (v := ?vvhb75) rfl rfl (by kernel_rfl) (by kernel_rfl) (by kernel_rfl) ?ddhb75 (by rfl) ?yyhb75 hHeld ?rrhb75
    case ddhb75 => first | exact fun _ _ _ h => h | exact fun _ _ _ h => HQ.out _ _ _ _ (by rfl) h
    case yyhb75 => (intro wx hSw; obtain ⟨y0, y1, y2, y3, y4, y5, y6, y7, y8, y9⟩ := hSw; go_simp; try (with_reducible rfl))
    try simp (maxSteps := 1000000) only [Act.put, List.setIfInBounds_toArray, List.set_cons_zero, List.set_cons_succ]
    refine takeD (i := 16) (oi := { dst := some 76, op := _, type := _, pos := _, after := _, guard := _ }) (d := some 76) (v := ?vvhb76) rfl rfl (by kernel_rfl) (by kernel_rfl) (by kernel_rfl) ?ddhb76 (by rfl) ?yyhb76 hHeld ?rrhb76
    case ddhb76 => first | exact fun _ _ _ h => h | exact fun _ _ _ h => HQ.out _ _ _ _ (by rfl) h
    case yyhb76 => (intro wx hSw; obtain ⟨y0, y1, y2, y3, y4, y5, y6, y7, y8, y9⟩ := hSw; go_simp; try (with_reducible rfl))
    try simp (maxSteps := 1000000) only [Act.put, List.setIfInBounds_toArray, List.set_cons_zero, List.set_cons_succ]
    refine takeD (i := 17) (oi := { dst := some 77, op := _, type := _, pos := _, after := _, guard := _ }) (d := some 77) (v := ?vvhb77) rfl rfl (by kernel_rfl) (by kernel_rfl) (by kernel_rfl) ?ddhb77 (by rfl) ?yyhb77 hHeld ?rrhb77
    case ddhb77 => first | exact fun _ _ _ h => h | exact fun _ _ _ h => HQ.out _ _ _ _ (by rfl) h
    case yyhb77 => (intro wx hSw; obtain ⟨y0, y1, y2, y3, y4, y5, y6, y7, y8, y9⟩ := hSw; go_simp; try (with_reducible rfl))
    try simp (maxSteps := 1000000) only [Act.put, List.setIfInBounds_toArray, List.set_cons_zero, List.set_cons_succ]
    refine takeD (i := 18) (oi := { dst := some 78, op := _, type := _, pos := _, after := _, guard := _ }) (d := some 78) (v := ?vvhb78) rfl rfl (by kernel_rfl) (by kernel_rfl) (by kernel_rfl) ?ddhb78 (by rfl) ?yyhb78 hHeld ?rrhb78
    case ddhb78 => first | exact fun _ _ _ h => h | exact fun _ _ _ h => HQ.out _ _ _ _ (by rfl) h
    case yyhb78 => (intro wx hSw; obtain ⟨y0, y1, y2, y3, y4, y5, y6, y7, y8, y9⟩ := hSw; go_simp; try (with_reducible rfl))
    try simp (maxSteps := 1000000) only [Act.put, List.setIfInBounds_toArray, List.set_cons_zero, List.set_cons_succ]
    refine wpAnyH_ready (rs := [19]) (by kernel_rfl) (by simp) ?_
    refine AllReadyH.cons (o := { dst := some 79, op := _, type := _, pos := _, after := _, guard := _ }) rfl (fun K hK => ?_) AllReadyH.nil
    have HMDb := Lib.hid (HM3b.out.drewN 1)
    have HBDb := Lib.hid (HB3b.out.drew)
    go_simp
    refine (holds_yes S w3b.drew HMDb.out.g).mono ?_
    rintro e w4b ⟨rfl, hb4⟩
    have HB4b := Lib.hid (HBDb.out.trans (hb4.mono HBDb.out.size))
    have HM4b := Lib.hid (HMRb.out.below HB4b.out hzsb)
    have HBSb := Lib.hid (show Below w3b.heap.size w3b w4b from ((Below.refl _ _).drew).trans hb4)
    have HI4b := Lib.hid (HI3b.out.below HBSb.out HI3b.out.lt)
    have HX4b := Lib.hid (HX3b.out.below HBSb.out HX3b.out.lt)
    refine hK.out _ _ (by exact ⟨HM4b.out.r.cell (i := 1) rfl, HI4b.out.cell (i := 3) rfl, HM4b.out.p.cell (i := 0) rfl, HM4b.out.p.cell (i := 1) rfl, HM4b.out.p.cell (i := 2) rfl, HM4b.out.p.cell (i := 3) rfl, HM4b.out.p.cell (i := 4) rfl, HM4b.out.p.cell (i := 5) rfl, HM4b.out.p.cell (i := 6) rfl, HM4b.out.t.cell (i := 1) rfl⟩) (fun hHeld2 => ?_)
    clear hK K hHeld hb4 b0 b1 b2 b3 b4 b5 b6 b7 b8 b9 i0
    try simp only [Act.put, List.setIfInBounds_toArray, List.set_cons_zero, List.set_cons_succ]
    refine takeD (i := 20) (oi := { dst := some 80, op := _, type := _, pos := _, after := _, guard := _ }) (d := some 80) (v := ?vvib80) rfl rfl (by kernel_rfl) (by kernel_rfl) (by kernel_rfl) ?ddib80 (by rfl) ?yyib80 hHeld2 ?rrib80
    case ddib80 => first | exact fun _ _ _ h => h | exact fun _ _ _ h => HQ.out _ _ _ _ (by rfl) h
    case yyib80 => (intro wx hSw; obtain ⟨y0, y1, y2, y3, y4, y5, y6, y7, y8, y9⟩ := hSw; go_simp; try (with_reducible rfl))
    try simp (maxSteps := 1000000) only [Act.put, List.setIfInBounds_toArray, List.set_cons_zero, List.set_cons_succ]
    refine wpAnyH_done (by kernel_rfl) ?_ _
    clear hHeld2
    have x0 : w4b.cell? ⟨Xb, 0, none⟩ = some (.int .i64 0) := HX4b.out.cell (i := 0) rfl
    have x1 : w4b.cell? ⟨Xb, 1, none⟩ = some (.slice (some ⟨F1, 0, none⟩) 2 2) := HX4b.out.cell (i := 1) rfl
    have HG1 := Lib.hid (follow1_any (v := .slice none 0 0) (sa := some ⟨F1, 0, none⟩) (k := 2) HM4b (Lib.hid (RowL.nil w4b w.heap.size 200 2)) (Nat.le_trans hsC1 HB4b.out.size) (by omega) (by omega) (by omega) (by rfl))
    go_wp2_with (go_at_call 115; refine HG1.out.mono ?_; rintro e w5 ⟨h1, hc1, rfl, hq1, hq2, hq3, hq4⟩)
    rw [rounds_succ]
    go_wp2_with fail
    go_meet
    refine ⟨rfl, rfl, h1, hc1, rfl, hq1, hq2, Only.aside (Only.of_below HB4b.out (Nat.le_refl _)) hq3 (fun j hj => by simp [Value.ownBlock] at hj), ?_⟩
    rcases hq4 with hq | hq
    · simp [Value.ownBlock] at hq
    · exact Nat.le_trans HB4b.out.size hq
  case rest =>
  obtain ⟨rfl, rfl, h1, hc1, rfl, hq1, hq2, hq3, hq4⟩ := hcut
  obtain ⟨wD1, rfl⟩ : ∃ x : World, x = wc := ⟨_, rfl⟩
  have hsD1 : w.heap.size ≤ wD1.heap.size := Nat.le_trans hsC1 hq3.size
  have HMD1 := Lib.hid hq2
  have HRD1 := Lib.hid hq1
  have HOD1 := Lib.hid (Only.aside HOC1.out hq3 (fun j hj => by simp [Value.ownBlock] at hj))
  have HKD1 := Lib.hid (show Blk wD1 F1 #[.int .i64 1, .int .i64 (-1)] 3 from HKC1.out.block (hq3.block F1 HKC1.out.lt (by have := HMC1.out.lt; have := HFEF1.out; omega) (by simp [Value.ownBlock])))
  have hF1h : F1 < h1 := Nat.lt_of_lt_of_le HKC1.out.lt hq4
  clear hq1 hq2 hq3 hq4 d0 d1
  have r1 : wD1.cell? ⟨R, 1, none⟩ = some (.slice (some ⟨T, 0, none⟩) 2 2) := HMD1.out.r.cell (i := 1) rfl
  go_wp2_with fail
  rw [rounds_succ]
  clear r1
  go_upto_region 7 with fail
  obtain ⟨w1F2, hw1F2⟩ : ∃ x : World, x = (wD1).alloc (.cells #[.int .i64 0, .int .i64 0] 3) := ⟨_, rfl⟩
  obtain ⟨F2, hF2⟩ : ∃ x, x = (wD1).heap.size := ⟨_, rfl⟩
  have HK1F2 := Lib.hid (show Blk w1F2 F2 #[.int .i64 0, .int .i64 0] 3 by rw [hw1F2, hF2]; exact Blk.new _ _ _)
  have HB1F2 := Lib.hid (show Below (wD1).heap.size wD1 w1F2 by rw [hw1F2]; exact (Below.refl _ _).alloc (Nat.le_refl _) _)
  have HW1F2 := Lib.hid hw1F2
  have HFEF2 := Lib.hid hF2
  rw [← HW1F2.out, ← HFEF2.out]
  clear hw1F2 hF2
  go_upto_block 2 with fail
  go_cut [12] from 25 to 31 (fun _ wx => Blk wx F2 #[.int .i64 (-1), .int .i64 (-1)] 3 ∧ Below (wD1).heap.size wD1 wx)
  case first =>
    have y0 := HK1F2.out.cell (i := 0) rfl
    have y1 := HK1F2.out.cell (i := 1) rfl
    have yf := HK1F2.out.frozen
    go_wp2_with fail
    refine wp_loop_rounds 3 ?_
    rw [rounds_succ]
    go_wp2_with fail
    rw [rounds_succ]
    go_wp2_with fail
    rw [rounds_succ]
    go_wp2_with fail
    go_meet
    exact ⟨(HK1F2.out.set 0 _).set 1 _, (HB1F2.out.setCell (by rw [HFEF2.out]; exact Nat.le_refl _) _).setCell (by rw [HFEF2.out]; exact Nat.le_refl _) _⟩
  case rest =>
  obtain ⟨hk2F2, hb2F2⟩ := hcut
  obtain ⟨w2F2, rfl⟩ : ∃ x : World, x = wc := ⟨_, rfl⟩
  have y0 := hk2F2.cell (i := 0) rfl
  have yf := hk2F2.frozen
  obtain ⟨wB2, hwB2⟩ : ∃ x : World, x = w2F2.setCell ⟨F2, 0, none⟩ (.int .i64 2) := ⟨_, rfl⟩
  have HKF2 := Lib.hid (show Blk wB2 F2 #[.int .i64 2, .int .i64 (-1)] 3 by rw [hwB2]; exact hk2F2.set 0 _)
  have HBwB2 := Lib.hid (show Below (wD1).heap.size wD1 wB2 by rw [hwB2]; exact hb2F2.setCell (by rw [HFEF2.out]; exact Nat.le_refl _) _)
  have HEwB2 := Lib.hid hwB2
  go_upto_region 13 with fail
  rw [← HEwB2.out]
  clear hwB2 y0 yf hk2F2 hb2F2
  have HMB2 := Lib.hid (HMD1.out.below HBwB2.out hsD1)
  have HRB2 := Lib.hid (HRD1.out.below HBwB2.out (Nat.le_refl _))
  have HOB2 := Lib.hid (Only.more HOD1.out HBwB2.out (Nat.le_refl _))
  have HKB2 := Lib.hid (HKD1.out.below HBwB2.out HKD1.out.lt)
  have hsB2 : w.heap.size ≤ wB2.heap.size := Nat.le_trans hsD1 HBwB2.out.size
  have HF2 := Lib.hid (follow0_any (sa := some ⟨F2, 0, none⟩) (k := 2) HMB2 HRB2 hsB2 (by omega) (by omega) (by omega) (by rfl))
  go_upto_region 14 with (go_at_call 115; refine HF2.out.mono ?_; rintro e wC2 ⟨g2, c2, rfl, hr2, hm2, ha2, hg2⟩)
  have hsC2 : w.heap.size ≤ wC2.heap.size := Nat.le_trans hsB2 ha2.size
  have HMC2 := Lib.hid hm2
  have HOC2 := Lib.hid (Only.aside HOB2.out ha2 (fun j hj => RowL.ge HRB2.out j hj))
  have HKC2 := Lib.hid (show Blk wC2 F1 #[.int .i64 1, .int .i64 (-1)] 3 from HKB2.out.block (ha2.block F1 HKB2.out.lt (by have := HMC2.out.lt; have := HFEF1.out; omega) (by simp [Value.ownBlock]; omega)))
  obtain ⟨_, _, hv2, hgz2, hgl2, _, _, _, hgc2⟩ := RowL.at hr2 (by omega)
  cases hv2
  have d0 : wC2.cell? ⟨g2, 0, none⟩ = some (.int .i64 1) := hgc2 0 _ rfl
  have d1 : wC2.cell? ⟨g2, 1, none⟩ = some (.slice (some ⟨F1, 0, none⟩) 2 2) := hgc2 1 _ rfl
  clear hr2 hm2 ha2 hg2 hgc2 HF2
  go_upto_block 4 with fail
  go_cut [9, 10, 13, 15, 16] from 42 to 91 (fun ev bv nv _ _ wx => ev = .int .i64 2 ∧ bv = .slice (some ⟨F1, 0, none⟩) 2 2 ∧ nv = .slice none 0 0 ∧ Below wC2.heap.size wC2 wx)
  case first =>
    go_wp2_with fail
    refine wp_loop_rounds 3 ?_
    rw [rounds_succ]
    have HMRd := HMC2
    have hzsd := hsC2
    have hr0d : (wC2).cell? ⟨R, 0, none⟩ = some (.slice (some ⟨C, 0, none⟩) 2 cc) := HMRd.out.r.cell (i := 0) rfl
    go_upto_region 18 with fail
    obtain ⟨w1d, hw1d⟩ : ∃ x : World, x = (wC2).alloc (.cells #[.int .i64 1, .slice (some ⟨F1, 0, none⟩) 2 2] 200) := ⟨_, rfl⟩
    obtain ⟨Xd, hXd⟩ : ∃ x, x = (wC2).heap.size := ⟨_, rfl⟩
    have HXd := Lib.hid (show Blk w1d Xd #[.int .i64 1, .slice (some ⟨F1, 0, none⟩) 2 2] 200 by rw [hw1d, hXd]; exact Blk.new _ _ _)
    have HB1d := Lib.hid (show Below (wC2).heap.size wC2 w1d by rw [hw1d]; exact (Below.refl _ _).alloc (Nat.le_refl _) _)
    have HM1d := Lib.hid (HMRd.out.below HB1d.out hzsd)
    have HW1d := Lib.hid hw1d
    have HXEd := Lib.hid hXd
    rw [← HW1d.out, ← HXEd.out]
    clear hw1d hXd hr0d
    have b0 : w1d.cell? ⟨R, 0, none⟩ = some (.slice (some ⟨C, 0, none⟩) 2 cc) := HM1d.out.r.cell (i := 0) rfl
    have b1 : w1d.cell? ⟨Xd, 0, none⟩ = some (.int .i64 1) := HXd.out.cell (i := 0) rfl
    have b2 : w1d.cell? ⟨C, 4 * 1, none⟩ = some (.int .i64 7) := HM1d.out.c (4 * 1) _ rfl
    have b3 : w1d.cell? ⟨C, 4 * 1 + 1, none⟩ = some (.int .i64 0) := HM1d.out.c (4 * 1 + 1) _ rfl
    have b4 : w1d.cell? ⟨C, 4 * 1 + 2, none⟩ = some (.int .i64 0) := HM1d.out.c (4 * 1 + 2) _ rfl
    have b5 : w1d.cell? ⟨C, 4 * 1 + 3, none⟩ = some (.pointer none) := HM1d.out.c (4 * 1 + 3) _ rfl
    have hXld := HXd.out.lt
    have hRld := HM1d.out.r.lt
    have hCld := lt_of_cell b2
    simp only at hCld
    simp only [Nat.mul_zero, Nat.zero_add, Nat.mul_one, Nat.reduceAdd] at b2 b3 b4 b5
    refine wp_region_held_drew (S := fun w' => w'.cell? ⟨R, 0, none⟩ = some (.slice (some ⟨C, 0, none⟩) 2 cc) ∧ w'.cell? ⟨Xd, 0, none⟩ = some (.int .i64 1) ∧ w'.cell? ⟨C, 4 * 1, none⟩ = some (.int .i64 7) ∧ w'.cell? ⟨C, 4 * 1 + 1, none⟩ = some (.int .i64 0) ∧ w'.cell? ⟨C, 4 * 1 + 2, none⟩ = some (.int .i64 0) ∧ w'.cell? ⟨C, 4 * 1 + 3, none⟩ = some (.pointer none)) (by kernel_rfl) (by exact ⟨b0, b1, b2, b3, b4, b5⟩) ?_
    simp only [Nat.mul_zero, Nat.zero_add, Nat.mul_one, Nat.reduceAdd]
    intro hHeld
    refine takeD (i := 0) (oi := { dst := some 46, op := _, type := _, pos := _, after := _, guard := _ }) (d := some 46) (v := ?vvd46) rfl rfl (by kernel_rfl) (by kernel_rfl) (by kernel_rfl) ?ddd46 (by rfl) ?yyd46 hHeld ?rrd46
    case ddd46 => first | exact fun _ _ _ h => h | exact fun _ _ _ h => HQ.out _ _ _ _ (by rfl) h
    case yyd46 => (intro wx hSw; obtain ⟨y0, y1, y2, y3, y4, y5⟩ := hSw; go_simp; try (with_reducible rfl))
    try simp (maxSteps := 1000000) only [Act.put, List.setIfInBounds_toArray, List.set_cons_zero, List.set_cons_succ]
    refine takeD (i := 1) (oi := { dst := some 47, op := _, type := _, pos := _, after := _, guard := _ }) (d := some 47) (v := ?vvd47) rfl rfl (by kernel_rfl) (by kernel_rfl) (by kernel_rfl) ?ddd47 (by rfl) ?yyd47 hHeld ?rrd47
    case ddd47 => first | exact fun _ _ _ h => h | exact fun _ _ _ h => HQ.out _ _ _ _ (by rfl) h
    case yyd47 => (intro wx hSw; obtain ⟨y0, y1, y2, y3, y4, y5⟩ := hSw; go_simp; try (with_reducible rfl))
    try simp (maxSteps := 1000000) only [Act.put, List.setIfInBounds_toArray, List.set_cons_zero, List.set_cons_succ]
    refine takeD (i := 2) (oi := { dst := some 48, op := _, type := _, pos := _, after := _, guard := _ }) (d := some 48) (v := ?vvd48) rfl rfl (by kernel_rfl) (by kernel_rfl) (by kernel_rfl) ?ddd48 (by rfl) ?yyd48 hHeld ?rrd48
    case ddd48 => first | exact fun _ _ _ h => h | exact fun _ _ _ h => HQ.out _ _ _ _ (by rfl) h
    case yyd48 => (intro wx hSw; obtain ⟨y0, y1, y2, y3, y4, y5⟩ := hSw; go_simp; try (with_reducible rfl))
    try simp (maxSteps := 1000000) only [Act.put, List.setIfInBounds_toArray, List.set_cons_zero, List.set_cons_succ]
    refine takeD (i := 3) (oi := { dst := some 49, op := _, type := _, pos := _, after := _, guard := _ }) (d := some 49) (v := ?vvd49) rfl rfl (by kernel_rfl) (by kernel_rfl) (by kernel_rfl) ?ddd49 (by rfl) ?yyd49 hHeld ?rrd49
    case ddd49 => first | exact fun _ _ _ h => h | exact fun _ _ _ h => HQ.out _ _ _ _ (by rfl) h
    case yyd49 => (intro wx hSw; obtain ⟨y0, y1, y2, y3, y4, y5⟩ := hSw; go_simp; try (with_reducible rfl))
    try simp (maxSteps := 1000000) only [Act.put, List.setIfInBounds_toArray, List.set_cons_zero, List.set_cons_succ]
    refine takeD (i := 4) (oi := { dst := some 50, op := _, type := _, pos := _, after := _, guard := _ }) (d := some 50) (v := ?vvd50) rfl rfl (by kernel_rfl) (by kernel_rfl) (by kernel_rfl) ?ddd50 (by rfl) ?yyd50 hHeld ?rrd50
    case ddd50 => first | exact fun _ _ _ h => h | exact fun _ _ _ h => HQ.out _ _ _ _ (by rfl) h
    case yyd50 => (intro wx hSw; obtain ⟨y0, y1, y2, y3, y4, y5⟩ := hSw; go_simp; try (with_reducible rfl))
    try simp (maxSteps := 1000000) only [Act.put, List.setIfInBounds_toArray, List.set_cons_zero, List.set_cons_succ]
    refine takeD (i := 5) (oi := { dst := some 51, op := _, type := _, pos := _, after := _, guard := _ }) (d := some 51) (v := ?vvd51) rfl rfl (by kernel_rfl) (by kernel_rfl) (by kernel_rfl) ?ddd51 (by rfl) ?yyd51 hHeld ?rrd51
    case ddd51 => first | exact fun _ _ _ h => h | exact fun _ _ _ h => HQ.out _ _ _ _ (by rfl) h
    case yyd51 => (intro wx hSw; obtain ⟨y0, y1, y2, y3, y4, y5⟩ := hSw; go_simp; try (with_reducible rfl))
    try simp (maxSteps := 1000000) only [Act.put, List.setIfInBounds_toArray, List.set_cons_zero, List.set_cons_succ]
    refine takeD (i := 6) (oi := { dst := some 52, op := _, type := _, pos := _, after := _, guard := _ }) (d := some 52) (v := ?vvd52) rfl rfl (by kernel_rfl) (by kernel_rfl) (by kernel_rfl) ?ddd52 (by rfl) ?yyd52 hHeld ?rrd52
    case ddd52 => first | exact fun _ _ _ h => h | exact fun _ _ _ h => HQ.out _ _ _ _ (by rfl) h
    case yyd52 => (intro wx hSw; obtain ⟨y0, y1, y2, y3, y4, y5⟩ := hSw; go_simp; try (with_reducible rfl))
    try simp (maxSteps := 1000000) only [Act.put, List.setIfInBounds_toArray, List.set_cons_zero, List.set_cons_succ]
    refine takeD (i := 7) (oi := { dst := some 53, op := _, type := _, pos := _, after := _, guard := _ }) (d := some 53) (v := ?vvd53) rfl rfl (by kernel_rfl) (by kernel_rfl) (by kernel_rfl) ?ddd53 (by rfl) ?yyd53 hHeld ?rrd53
    case ddd53 => first | exact fun _ _ _ h => h | exact fun _ _ _ h => HQ.out _ _ _ _ (by rfl) h
    case yyd53 => (intro wx hSw; obtain ⟨y0, y1, y2, y3, y4, y5⟩ := hSw; go_simp; try (with_reducible rfl))
    try simp (maxSteps := 1000000) only [Act.put, List.setIfInBounds_toArray, List.set_cons_zero, List.set_cons_succ]
    refine wpAnyH_ready (rs := [8]) (by kernel_rfl) (by simp) ?_
    refine AllReadyH.cons (o := { dst := some 16, op := _, type := _, pos := _, after := _, guard := _ }) rfl (fun K hK => ?_) AllReadyH.nil
    obtain ⟨wqd, hwqd⟩ : ∃ x : World, x = w1d.drew := ⟨_, rfl⟩
    have HBqd := Lib.hid (show Below (wC2).heap.size wC2 wqd by rw [hwqd]; exact HB1d.out.drew)
    have HXqd := Lib.hid (show Blk wqd Xd #[.int .i64 1, .slice (some ⟨F1, 0, none⟩) 2 2] 200 by rw [hwqd]; exact HXd.out.drew)
    rw [← hwqd]
    clear hwqd b0 b1 b2 b3 b4 b5 hHeld
    go_simp
    obtain ⟨w2d, hw2d⟩ : ∃ x : World, x = wqd.alloc (.cells #[.int .i64 0, .int .i64 0, .int .i64 0, .pointer none] 169) := ⟨_, rfl⟩
    obtain ⟨Id, hId⟩ : ∃ x, x = wqd.heap.size := ⟨_, rfl⟩
    have HI2d := Lib.hid (show Blk w2d Id #[.int .i64 0, .int .i64 0, .int .i64 0, .pointer none] 169 by rw [hw2d, hId]; exact Blk.new _ _ _)
    have HB2d := Lib.hid (show Below (wC2).heap.size wC2 w2d by rw [hw2d]; exact HBqd.out.alloc HBqd.out.size _)
    have HX2d := Lib.hid (show Blk w2d Xd #[.int .i64 1, .slice (some ⟨F1, 0, none⟩) 2 2] 200 by rw [hw2d]; exact HXqd.out.alloc _)
    have HM2d := Lib.hid (HMRd.out.below HB2d.out hzsd)
    have hIXd : Xd < Id := by rw [hId]; exact HXqd.out.lt
    have hIWd : (wC2).heap.size ≤ Id := by rw [hId]; exact HBqd.out.size
    have HW2d := Lib.hid hw2d
    have HIEd := Lib.hid hId
    rw [← HW2d.out, ← HIEd.out]
    clear hw2d hId
    refine hK.out _ _ (by exact ⟨HM2d.out.r.cell (i := 0) rfl, HX2d.out.cell (i := 0) rfl, HM2d.out.c (4 * 1) _ rfl, HM2d.out.c (4 * 1 + 1) _ rfl, HM2d.out.c (4 * 1 + 2) _ rfl, HM2d.out.c (4 * 1 + 3) _ rfl⟩) (fun hHeld2 => ?_)
    clear hK K
    try simp only [Act.put, List.setIfInBounds_toArray, List.set_cons_zero, List.set_cons_succ]
    have i0 : w2d.cell? ⟨Id, 0, none⟩ = some (.int .i64 0) := HI2d.out.cell (i := 0) rfl
    have i1 : w2d.cell? ⟨Id, 1, none⟩ = some (.int .i64 0) := HI2d.out.cell (i := 1) rfl
    have i2 : w2d.cell? ⟨Id, 2, none⟩ = some (.int .i64 0) := HI2d.out.cell (i := 2) rfl
    have i3 : w2d.cell? ⟨Id, 3, none⟩ = some (.pointer none) := HI2d.out.cell (i := 3) rfl
    have ifr := HI2d.out.frozen
    refine wpAnyH_ready (rs := [9]) (by kernel_rfl) (by simp) ?_
    refine AllReadyH.cons (o := { dst := none, op := _, type := _, pos := _, after := _, guard := _ }) rfl (fun K hK => ?_) AllReadyH.nil
    go_simp
    obtain ⟨w3d, hw3d⟩ : ∃ x : World, x = (((w2d.setCell ⟨Id, 0, none⟩ (.int .i64 7)).setCell ⟨Id, 1, none⟩ (.int .i64 0)).setCell ⟨Id, 2, none⟩ (.int .i64 0)).setCell ⟨Id, 3, none⟩ (.pointer none) := ⟨_, rfl⟩
    have HI3d := Lib.hid (show Blk w3d Id #[.int .i64 7, .int .i64 0, .int .i64 0, .pointer none] 169 by rw [hw3d]; exact (((HI2d.out.set 0 _).set 1 _).set 2 _).set 3 _)
    have HB3d := Lib.hid (show Below (wC2).heap.size wC2 w3d by rw [hw3d]; exact (((HB2d.out.setCell hIWd _).setCell hIWd _).setCell hIWd _).setCell hIWd _)
    have HX3d := Lib.hid (show Blk w3d Xd #[.int .i64 1, .slice (some ⟨F1, 0, none⟩) 2 2] 200 by rw [hw3d]; exact (((HX2d.out.other (Nat.ne_of_lt hIXd) _).other (Nat.ne_of_lt hIXd) _).other (Nat.ne_of_lt hIXd) _).other (Nat.ne_of_lt hIXd) _)
    have HM3d := Lib.hid (HMRd.out.below HB3d.out hzsd)
    have HW3d := Lib.hid hw3d
    rw [← HW3d.out]
    clear hw3d
    refine hK.out _ _ (by exact ⟨HM3d.out.r.cell (i := 0) rfl, HX3d.out.cell (i := 0) rfl, HM3d.out.c (4 * 1) _ rfl, HM3d.out.c (4 * 1 + 1) _ rfl, HM3d.out.c (4 * 1 + 2) _ rfl, HM3d.out.c (4 * 1 + 3) _ rfl⟩) (fun hHeld3 => ?_)
    clear hK K hHeld2 hHeld3 i0 i1 i2 i3 ifr
    try simp only [Act.put, List.setIfInBounds_toArray, List.set_cons_zero, List.set_cons_succ]
    refine wpAnyH_done (by kernel_rfl) ?_ _
    have i0 : w3d.cell? ⟨Id, 0, none⟩ = some (.int .i64 7) := HI3d.out.cell (i := 0) rfl
    go_upto_region 20 with fail
    have x1 : w3d.cell? ⟨Xd, 1, none⟩ = some (.slice (some ⟨F1, 0, none⟩) 2 2) := HX3d.out.cell (i := 1) rfl
    go_quiet (fail)
    go_wp2_with fail
    go_meet
    exact ⟨rfl, rfl, rfl, below_drewN HB3d.out _⟩
  case rest =>
  obtain ⟨rfl, rfl, rfl, hbD2⟩ := hcut
  obtain ⟨wD2, rfl⟩ : ∃ x : World, x = wc := ⟨_, rfl⟩
  have HOD2 := Lib.hid (Only.more HOC2.out hbD2 (Nat.le_refl _))
  have HKD2 := Lib.hid (HKC2.out.below hbD2 HKC2.out.lt)
  have HMD2 := Lib.hid (HMC2.out.below hbD2 hsC2)
  clear hbD2 d0 d1
  have r1 : wD2.cell? ⟨R, 1, none⟩ = some (.slice (some ⟨T, 0, none⟩) 2 2) := HMD2.out.r.cell (i := 1) rfl
  go_wp2_with fail
  go_ret2
  exact ⟨F1, rfl, HKD2.out, HOD2.out⟩
end Go.Proofs.YtghbicajcffjhaaDoor.PC
