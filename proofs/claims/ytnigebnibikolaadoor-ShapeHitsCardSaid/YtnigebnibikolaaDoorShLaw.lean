

/-
  cutShapes, shaped.
-/
import Derived.Test.YtnigebnibikolaaDoorShBoundsOk
import Derived.Test.YtnigebnibikolaaDoorShOf
import Derived.Test.YtnigebnibikolaaDoorShErrR
namespace Go.Law.Sh
open Go.RowKit Go.Law
def E0 : Nat → Nat → Int := fun _ j => match j with
  | 0 => 1
  | 5 => 10
  | 6 => 20
  | 7 => 900
  | _ => 0
theorem e0_ok : shE 1 E0 = 0 := by decide +kernel
theorem e0_at : findV 1 E0 1 = 0 := by decide +kernel
theorem e0_0 : cornP 1 E0 0 0 = (15, 5) := by decide +kernel
theorem e0_2 : cornP 1 E0 0 2 = (-5, 15) := by decide +kernel
end Go.Law.Sh
namespace Go.Proofs.YtnigebnibikolaaDoor.ShT
open Go.RowKit Go.Law Go.Law.Sh
set_option linter.unusedVariables false
set_option linter.unusedSimpArgs false
set_option maxRecDepth 100000
theorem cut_any (n c : Nat) (a : Option Addr) (w : World) (hc : n ≤ c) (hm : c ≤ maxLen) :
    Calls Tryd.prog 29 #[.slice a n c] w fun e w' => e = .returned (.slice a (min n 20) c) ∧ w = w' := by
  unfold maxLen at hm
  by_cases h : 20 < n
  · rw [show min n 20 = 20 by omega]
    go_enter Tryd.func29, Tryd.ntmps29
    go_wp2_with fail
    go_ret
    exact ⟨rfl, rfl⟩
  · rw [show min n 20 = n by omega]
    go_enter Tryd.func29, Tryd.ntmps29
    go_wp2_with fail
    go_ret
    exact ⟨rfl, rfl⟩
set_option maxHeartbeats 1000000 in
theorem shaped_any (w : World) (ht : Arr w 3) :
    Calls Tryd.prog 28 #[] w fun e w' => e = .returned (.bool true) ∧ Below w.heap.size w w' := by
  have hc := fun a c w1 N (h : Arr w1 3) (ha : ShF w1 a 1 E0 N) (hc : 1 ≤ c) => cornersTop_ok 1 0 E0 N 1 a c w1 ha (by omega) hc e0_ok e0_at (by omega) h
  have HC := Lib.hid hc
  have HT := Lib.hid ht
  obtain ⟨P, hP⟩ : ∃ P, P = cornP 1 E0 0 := ⟨_, rfl⟩
  rw [← hP] at HC
  have p0 : P 0 = (15, 5) := by rw [hP]; exact e0_0
  have p2 : P 2 = (-5, 15) := by rw [hP]; exact e0_2
  have HP0 := Lib.hid p0
  have HP2 := Lib.hid p2
  clear hc ht hP p0 p2
  go_enter Tryd.func28, Tryd.ntmps28
  go_wp2_with fail
  refine (HC.out _ _ _ (fun _ _ => ⟨#[]⟩) (HT.out.below (Nat.le_refl _) ((Below.refl _ _).alloc (Nat.le_refl _) _)) ?hx (by omega)).mono ?_
  case hx =>
    intro _
    refine ⟨w.heap.size, 0, rfl, fun i hi => ?_⟩
    obtain rfl : i = 0 := by omega
    refine ⟨fun j hj => ?_, by simp, by simp⟩
    obtain rfl | rfl | rfl | rfl | rfl | rfl | rfl | rfl | rfl | rfl : j = 0 ∨ j = 1 ∨ j = 2 ∨ j = 3 ∨ j = 4 ∨ j = 5 ∨ j = 6 ∨ j = 7 ∨ j = 8 ∨ j = 9 := by omega
    all_goals simp [E0]
  rintro e w1 ⟨g, rfl, hb, hg, hb1⟩
  have hbel : Below w.heap.size w w1 := ((Below.refl _ _).alloc (Nat.le_refl _) _).trans (hb1.mono (by simp))
  have c0 : w1.cell? ⟨g, 0, none⟩ = some (.int .i64 (P 0).1) := hb.cell (i := 0) rfl
  have c1 : w1.cell? ⟨g, 1, none⟩ = some (.int .i64 (P 0).2) := hb.cell (i := 1) rfl
  have c4 : w1.cell? ⟨g, 4, none⟩ = some (.int .i64 (P 2).1) := hb.cell (i := 4) rfl
  have c5 : w1.cell? ⟨g, 5, none⟩ = some (.int .i64 (P 2).2) := hb.cell (i := 5) rfl
  rw [HP0.out] at c0 c1
  rw [HP2.out] at c4 c5
  have zg := hb.lt
  simp only at c0 c1 c4 c5
  clear hb1 hb
  go_wp2_with fail
  go_ret
  exact ⟨rfl, hbel⟩
set_option maxHeartbeats 2000000 in
theorem law_err (n m : Nat) (E : Nat → Nat → Int) (N : Nat → Nat → ByteArray) (item : Int) (a : Option Addr) (c : Nat) (w : World) (ha : ShF w a m E N) (hmn : m = min n 20) (hc : n ≤ c) (hm : c ≤ maxLen) (ht : Arr w 3) (V F : Int) (hV : V ≠ 0) (hF : F = shE m E) (hVF : F ≠ 0 ∧ V = F ∨ F = 0 ∧ V = 7 ∧ findV m E item < 0)
    (hcall : ∀ w1, Below w.heap.size w w1 → Calls Tryd.prog 30 #[.slice a m c, .int .i64 item] w1 fun e w' => e = .returned (.tuple #[.slice none 0 0, .int .i64 V]) ∧ Below w1.heap.size w1 w') :
    Calls Tryd.prog 7 #[.slice a n c, .int .i64 item] w fun e w' => e = .returned (.bool true) ∧ Below w.heap.size w w' := by
  have HA := Lib.hid ha
  have HT := Lib.hid ht
  have HC := Lib.hid hcall
  have HF := Lib.hid hF
  have HB := Lib.hid (fun w1 (h : Below w.heap.size w w1) => bounds_err V hV item a m c w1 (fun w2 h2 => hcall w2 (h.trans (h2.mono h.size))))
  have HM := Lib.hid hmn
  have hm20 : m ≤ 20 := by omega
  have hmc : m ≤ c := by omega
  have v0 : ((V : Int) == 0) = false := by simpa using hV
  have v1 : (V != 0) = true := by simpa using hV
  have v2 : (V == V) = true := by simp
  have v3 : (V != V) = false := by simp
  have f2 : (F == F) = true := by simp
  have f3 : (F != F) = false := by simp
  clear ha ht hcall hF hmn
  go_enter Tryd.func7, Tryd.ntmps7
  go_wp2_with fail
  refine (shaped_any _ HT.out).mono ?_
  rintro e w1 ⟨rfl, hb1⟩
  go_wp2_with fail
  refine (cut_any _ _ _ _ hc hm).mono ?_
  rintro e w2 ⟨rfl, rfl⟩
  rw [← HM.out]
  go_wp2_with fail
  refine (HC.out w1 hb1).mono ?_
  rintro e w2 ⟨rfl, hb2⟩
  have hbel2 := hb1.trans (hb2.mono hb1.size)
  clear hb2
  go_wp2_with fail
  refine (HB.out w2 hbel2).mono ?_
  rintro e w3 ⟨rfl, hb3⟩
  have hbel3 := hbel2.trans (hb3.mono hbel2.size)
  clear hb3
  go_wp2_with fail
  obtain ⟨w4, hw4⟩ : ∃ w4, w4 = w3.alloc (.cells #[.int .i64 0, .int .i64 0, .int .i64 0, .int .i64 0] 57) := ⟨_, rfl⟩
  have hblk : Blk w4 w3.heap.size #[.int .i64 0, .int .i64 0, .int .i64 0, .int .i64 0] 57 := by rw [hw4]; exact Blk.new _ _ _
  have hbel4 : Below w.heap.size w w4 := by rw [hw4]; exact hbel3.alloc hbel3.size _
  rw [← hw4]
  obtain ⟨q, hq⟩ : ∃ q, q = w3.heap.size := ⟨_, rfl⟩
  rw [← hq] at hblk ⊢
  clear hw4 hq
  have H4 := Lib.hid hblk
  clear hblk
  refine (shapesError_any m E N a c w4 (HA.out.below (Nat.le_refl _) hbel4) (by omega) hmc).mono ?_
  rintro e w5 ⟨rfl, hb5⟩
  rw [← HF.out]
  have hbel5 := hbel4.trans (hb5.mono hbel4.size)
  have H5 := Lib.hid (H4.out.below hb5 H4.out.lt)
  clear hb5 H4
  go_wp2_with fail
  refine (check_any m E N a c w5 (HA.out.below (Nat.le_refl _) hbel5) (by omega) hmc).mono ?_
  rintro e w6 ⟨rfl, hb6⟩
  rw [← HF.out]
  have hbel6 := hbel5.trans (hb6.mono hbel5.size)
  have H6 := Lib.hid (H5.out.below hb6 H5.out.lt)
  clear hb6 H5
  go_wp2_with fail
  refine (shapeAt_any m E N item a c w6 (HA.out.below (Nat.le_refl _) hbel6) (by omega)).mono ?_
  rintro e w7 ⟨rfl, hb7⟩
  have hbel7 := hbel6.trans (hb7.mono hbel6.size)
  have h7 := H6.out.below hb7 H6.out.lt
  have c0 : w7.cell? ⟨q, 0, none⟩ = some (.int .i64 0) := h7.cell (i := 0) rfl
  have c1 : w7.cell? ⟨q, 1, none⟩ = some (.int .i64 0) := h7.cell (i := 1) rfl
  have c2 : w7.cell? ⟨q, 2, none⟩ = some (.int .i64 0) := h7.cell (i := 2) rfl
  have c3 : w7.cell? ⟨q, 3, none⟩ = some (.int .i64 0) := h7.cell (i := 3) rfl
  have z7 := h7.lt
  obtain ⟨U, hU⟩ : ∃ U, U = findV m E item := ⟨_, rfl⟩
  rw [← hU] at hVF ⊢
  clear hb7 h7 H6 hU
  rcases hVF with ⟨h1, h2⟩ | ⟨h1, h2, h3⟩
  · subst h2
    go_wp2_with fail
    go_ret
    exact ⟨rfl, hbel7⟩
  · subst h1
    subst h2
    clear v0 v1 v2 v3 f2 f3
    have d1 : decide (U < 0) = true := by simpa using h3
    go_wp2_with fail
    go_ret
    exact ⟨rfl, hbel7⟩
set_option maxHeartbeats 4000000 in
theorem law_ok (n m k : Nat) (E : Nat → Nat → Int) (N : Nat → Nat → ByteArray) (item : Int) (a : Option Addr) (c : Nat) (w : World) (ha : ShF w a m E N) (hmn : m = min n 20) (hc : n ≤ c) (hm : c ≤ maxLen) (ht : Arr w 3) (hts : Arr w 2) (he : shE m E = 0) (hf : findV m E item = k) (hk : k < m) :
    Calls Tryd.prog 7 #[.slice a n c, .int .i64 item] w fun e w' => e = .returned (.bool true) ∧ Below w.heap.size w w' := by
  have hm20 : m ≤ 20 := by omega
  have hmc : m ≤ c := by omega
  have HA := Lib.hid ha
  have HT := Lib.hid ht
  have HTS := Lib.hid hts
  have HALL := Lib.hid (fun j hj => right_of ((shE_zero he).2 j hj))
  have hcall := fun w1 (h : Below w.heap.size w w1) => cornersTop_ok m k E N item a c w1 (ha.below (Nat.le_refl _) h) (by omega) hmc he hf hk (ht.below (Nat.le_refl _) h)
  have HC := Lib.hid hcall
  have HB := Lib.hid (fun w1 (h : Below w.heap.size w w1) => bounds_ok (cornP m E k) item a m c w1 (fun w2 h2 => hcall w2 (h.trans (h2.mono h.size))))
  have HM := Lib.hid hmn
  have HE := Lib.hid he
  have HF := Lib.hid hf
  have HO := Lib.hid (fun w1 (h : Below w.heap.size w w1) => cornersOf_any m k E N a c w1 (ha.below (Nat.le_refl _) h) (by omega) hk (fun j hj => right_of ((shE_zero he).2 j hj)) (hts.below (Nat.le_refl _) h))
  obtain ⟨P, hP⟩ : ∃ P, P = cornP m E k := ⟨_, rfl⟩
  rw [← hP] at HC HB HO
  clear ha ht hts hcall hmn he hf hP
  go_enter Tryd.func7, Tryd.ntmps7
  go_wp2_with fail
  refine (shaped_any _ HT.out).mono ?_
  rintro e w1 ⟨rfl, hb1⟩
  go_wp2_with fail
  refine (cut_any _ _ _ _ hc hm).mono ?_
  rintro e w2 ⟨rfl, rfl⟩
  rw [← HM.out]
  go_wp2_with fail
  refine (HC.out w1 hb1).mono ?_
  rintro e w2 ⟨g, rfl, hg, hgl, hb2⟩
  have hbel2 := hb1.trans (hb2.mono hb1.size)
  have G2 := Lib.hid hg
  have hgg : w.heap.size ≤ g := Nat.le_trans hb1.size hgl
  clear hb2 hg hgl
  go_wp2_with fail
  refine (HB.out w2 hbel2).mono ?_
  rintro e w3 ⟨rfl, hb3⟩
  have hbel3 := hbel2.trans (hb3.mono hbel2.size)
  have G3 := Lib.hid (G2.out.below hb3 G2.out.lt)
  obtain ⟨b, hb⟩ : ∃ b, b = bndS P 4 := ⟨_, rfl⟩
  have hbc : bndC (bndS P 4) = #[.int .i64 b.1, .int .i64 b.2.1, .int .i64 b.2.2.1, .int .i64 b.2.2.2] := by rw [hb]; rfl
  rw [hbc]
  have HBN := Lib.hid hb
  clear hb3 hb hbc G2
  go_wp2_with fail
  obtain ⟨w4, hw4⟩ : ∃ w4, w4 = w3.alloc (.cells #[.int .i64 b.1, .int .i64 b.2.1, .int .i64 b.2.2.1, .int .i64 b.2.2.2] 57) := ⟨_, rfl⟩
  have hblk : Blk w4 w3.heap.size #[.int .i64 b.1, .int .i64 b.2.1, .int .i64 b.2.2.1, .int .i64 b.2.2.2] 57 := by rw [hw4]; exact Blk.new _ _ _
  have hg4 : Blk w4 g (cornC P 4) 83 := by rw [hw4]; exact G3.out.alloc _
  have hbel4 : Below w.heap.size w w4 := by rw [hw4]; exact hbel3.alloc hbel3.size _
  rw [← hw4]
  obtain ⟨q, hq⟩ : ∃ q, q = w3.heap.size := ⟨_, rfl⟩
  have hql : w.heap.size ≤ q := by rw [hq]; exact hbel3.size
  rw [← hq] at hblk ⊢
  clear hw4 hq G3
  have H4 := Lib.hid hblk
  have G4 := Lib.hid hg4
  clear hblk hg4
  refine (shapesError_any m E N a c w4 (HA.out.below (Nat.le_refl _) hbel4) (by omega) hmc).mono ?_
  rintro e w5 ⟨rfl, hb5⟩
  rw [HE.out]
  have hbel5 := hbel4.trans (hb5.mono hbel4.size)
  have H5 := Lib.hid (H4.out.below hb5 H4.out.lt)
  have G5 := Lib.hid (G4.out.below hb5 G4.out.lt)
  clear hb5 H4 G4
  go_wp2_with fail
  refine (check_any m E N a c w5 (HA.out.below (Nat.le_refl _) hbel5) (by omega) hmc).mono ?_
  rintro e w6 ⟨rfl, hb6⟩
  rw [HE.out]
  have hbel6 := hbel5.trans (hb6.mono hbel5.size)
  have H6 := Lib.hid (H5.out.below hb6 H5.out.lt)
  have G6 := Lib.hid (G5.out.below hb6 G5.out.lt)
  clear hb6 H5 G5
  go_wp2_with fail
  refine (shapeAt_any m E N item a c w6 (HA.out.below (Nat.le_refl _) hbel6) (by omega)).mono ?_
  rintro e w7 ⟨rfl, hb7⟩
  rw [HF.out]
  have hbel7 := hbel6.trans (hb7.mono hbel6.size)
  have H7 := Lib.hid (H6.out.below hb7 H6.out.lt)
  have G7 := Lib.hid (G6.out.below hb7 G6.out.lt)
  clear hb7 H6 G6
  go_wp2_with fail
  refine (HO.out w7 hbel7).mono ?_
  rintro e w8 ⟨p, rfl, ho, hpl, hb8⟩
  have hbel8 := hbel7.trans (hb8.mono hbel7.size)
  have hqp : q < p := Nat.lt_of_lt_of_le H7.out.lt hpl
  have hgp : g < p := Nat.lt_of_lt_of_le G7.out.lt hpl
  have H8 := Lib.hid (H7.out.below hb8 H7.out.lt)
  have G8 := Lib.hid (G7.out.below hb8 G7.out.lt)
  have zp := OwnF.lt ho
  have c0 : w8.cell? ⟨p, 0, none⟩ = some (.int .i64 (P 0).1) := ho.fst (i := 0) (by omega)
  have c1 : w8.cell? ⟨p, 1, none⟩ = some (.int .i64 (P 0).2) := ho.snd (i := 0) (by omega)
  have O8 := Lib.hid ho
  clear hb8 H7 G7 ho hpl
  go_wp2_with fail
  refine wp_region_held_drew (S := fun w' => w'.cell? ⟨p, 0, none⟩ = some (.int .i64 (P 0).1) ∧ w'.cell? ⟨p, 1, none⟩ = some (.int .i64 (P 0).2)) (by kernel_rfl) (by exact ⟨c0, c1⟩) ?_
  intro hHeld
  refine takeD (i := 0) (oi := { dst := some 80, op := _, type := _, pos := _, after := _, guard := _ }) (d := some 80) (v := ?vva80) rfl rfl (by kernel_rfl) (by kernel_rfl) (by kernel_rfl) ?dda80 (by rfl) ?yya80 hHeld ?rra80
  case dda80 => exact fun _ _ _ h => h
  case yya80 => (intro wx hSw; obtain ⟨y0, y1⟩ := hSw; go_simp; try (with_reducible rfl))
  try simp only [Act.put, List.setIfInBounds_toArray, List.set_cons_zero, List.set_cons_succ]
  refine takeD (i := 1) (oi := { dst := some 81, op := _, type := _, pos := _, after := _, guard := _ }) (d := some 81) (v := ?vva81) rfl rfl (by kernel_rfl) (by kernel_rfl) (by kernel_rfl) ?dda81 (by rfl) ?yya81 hHeld ?rra81
  case dda81 => exact fun _ _ _ h => h
  case yya81 => (intro wx hSw; obtain ⟨y0, y1⟩ := hSw; go_simp; try (with_reducible rfl))
  try simp only [Act.put, List.setIfInBounds_toArray, List.set_cons_zero, List.set_cons_succ]
  refine takeD (i := 2) (oi := { dst := some 82, op := _, type := _, pos := _, after := _, guard := _ }) (d := some 82) (v := ?vva82) rfl rfl (by kernel_rfl) (by kernel_rfl) (by kernel_rfl) ?dda82 (by rfl) ?yya82 hHeld ?rra82
  case dda82 => exact fun _ _ _ h => h
  case yya82 => (intro wx hSw; obtain ⟨y0, y1⟩ := hSw; go_simp; try (with_reducible rfl))
  try simp only [Act.put, List.setIfInBounds_toArray, List.set_cons_zero, List.set_cons_succ]
  refine takeD (i := 3) (oi := { dst := some 83, op := _, type := _, pos := _, after := _, guard := _ }) (d := some 83) (v := ?vva83) rfl rfl (by kernel_rfl) (by kernel_rfl) (by kernel_rfl) ?dda83 (by rfl) ?yya83 hHeld ?rra83
  case dda83 => exact fun _ _ _ h => h
  case yya83 => (intro wx hSw; obtain ⟨y0, y1⟩ := hSw; go_simp; try (with_reducible rfl))
  try simp only [Act.put, List.setIfInBounds_toArray, List.set_cons_zero, List.set_cons_succ]
  refine takeD (i := 4) (oi := { dst := some 84, op := _, type := _, pos := _, after := _, guard := _ }) (d := some 84) (v := ?vva84) rfl rfl (by kernel_rfl) (by kernel_rfl) (by kernel_rfl) ?dda84 (by rfl) ?yya84 hHeld ?rra84
  case dda84 => exact fun _ _ _ h => h
  case yya84 => (intro wx hSw; obtain ⟨y0, y1⟩ := hSw; go_simp; try (with_reducible rfl))
  try simp only [Act.put, List.setIfInBounds_toArray, List.set_cons_zero, List.set_cons_succ]
  refine takeD (i := 5) (oi := { dst := some 85, op := _, type := _, pos := _, after := _, guard := _ }) (d := some 85) (v := ?vva85) rfl rfl (by kernel_rfl) (by kernel_rfl) (by kernel_rfl) ?dda85 (by rfl) ?yya85 hHeld ?rra85
  case dda85 => exact fun _ _ _ h => h
  case yya85 => (intro wx hSw; obtain ⟨y0, y1⟩ := hSw; go_simp; try (with_reducible rfl))
  try simp only [Act.put, List.setIfInBounds_toArray, List.set_cons_zero, List.set_cons_succ]
  refine takeD (i := 6) (oi := { dst := some 86, op := _, type := _, pos := _, after := _, guard := _ }) (d := some 86) (v := ?vva86) rfl rfl (by kernel_rfl) (by kernel_rfl) (by kernel_rfl) ?dda86 (by rfl) ?yya86 hHeld ?rra86
  case dda86 => exact fun _ _ _ h => h
  case yya86 => (intro wx hSw; obtain ⟨y0, y1⟩ := hSw; go_simp; try (with_reducible rfl))
  try simp only [Act.put, List.setIfInBounds_toArray, List.set_cons_zero, List.set_cons_succ]
  refine takeD (i := 7) (oi := { dst := some 87, op := _, type := _, pos := _, after := _, guard := _ }) (d := some 87) (v := ?vva87) rfl rfl (by kernel_rfl) (by kernel_rfl) (by kernel_rfl) ?dda87 (by rfl) ?yya87 hHeld ?rra87
  case dda87 => exact fun _ _ _ h => h
  case yya87 => (intro wx hSw; obtain ⟨y0, y1⟩ := hSw; go_simp; try (with_reducible rfl))
  try simp only [Act.put, List.setIfInBounds_toArray, List.set_cons_zero, List.set_cons_succ]
  refine takeD (i := 8) (oi := { dst := some 88, op := _, type := _, pos := _, after := _, guard := _ }) (d := some 88) (v := ?vva88) rfl rfl (by kernel_rfl) (by kernel_rfl) (by kernel_rfl) ?dda88 (by rfl) ?yya88 hHeld ?rra88
  case dda88 => exact fun _ _ _ h => h
  case yya88 => (intro wx hSw; obtain ⟨y0, y1⟩ := hSw; go_simp; try (with_reducible rfl))
  try simp only [Act.put, List.setIfInBounds_toArray, List.set_cons_zero, List.set_cons_succ]
  refine takeD (i := 9) (oi := { dst := some 89, op := _, type := _, pos := _, after := _, guard := _ }) (d := some 89) (v := ?vva89) rfl rfl (by kernel_rfl) (by kernel_rfl) (by kernel_rfl) ?dda89 (by rfl) ?yya89 hHeld ?rra89
  case dda89 => exact fun _ _ _ h => h
  case yya89 => (intro wx hSw; obtain ⟨y0, y1⟩ := hSw; go_simp; try (with_reducible rfl))
  try simp only [Act.put, List.setIfInBounds_toArray, List.set_cons_zero, List.set_cons_succ]
  refine takeD (i := 10) (oi := { dst := some 90, op := _, type := _, pos := _, after := _, guard := _ }) (d := some 90) (v := ?vva90) rfl rfl (by kernel_rfl) (by kernel_rfl) (by kernel_rfl) ?dda90 (by rfl) ?yya90 hHeld ?rra90
  case dda90 => exact fun _ _ _ h => h
  case yya90 => (intro wx hSw; obtain ⟨y0, y1⟩ := hSw; go_simp; try (with_reducible rfl))
  try simp only [Act.put, List.setIfInBounds_toArray, List.set_cons_zero, List.set_cons_succ]
  refine takeD (i := 11) (oi := { dst := some 91, op := _, type := _, pos := _, after := _, guard := _ }) (d := some 91) (v := ?vva91) rfl rfl (by kernel_rfl) (by kernel_rfl) (by kernel_rfl) ?dda91 (by rfl) ?yya91 hHeld ?rra91
  case dda91 => exact fun _ _ _ h => h
  case yya91 => (intro wx hSw; obtain ⟨y0, y1⟩ := hSw; go_simp; try (with_reducible rfl))
  try simp only [Act.put, List.setIfInBounds_toArray, List.set_cons_zero, List.set_cons_succ]
  refine takeD (i := 12) (oi := { dst := some 92, op := _, type := _, pos := _, after := _, guard := _ }) (d := some 92) (v := ?vva92) rfl rfl (by kernel_rfl) (by kernel_rfl) (by kernel_rfl) ?dda92 (by rfl) ?yya92 hHeld ?rra92
  case dda92 => exact fun _ _ _ h => h
  case yya92 => (intro wx hSw; obtain ⟨y0, y1⟩ := hSw; go_simp; try (with_reducible rfl))
  try simp only [Act.put, List.setIfInBounds_toArray, List.set_cons_zero, List.set_cons_succ]
  refine takeD (i := 13) (oi := { dst := some 93, op := _, type := _, pos := _, after := _, guard := _ }) (d := some 93) (v := ?vva93) rfl rfl (by kernel_rfl) (by kernel_rfl) (by kernel_rfl) ?dda93 (by rfl) ?yya93 hHeld ?rra93
  case dda93 => exact fun _ _ _ h => h
  case yya93 => (intro wx hSw; obtain ⟨y0, y1⟩ := hSw; go_simp; try (with_reducible rfl))
  try simp only [Act.put, List.setIfInBounds_toArray, List.set_cons_zero, List.set_cons_succ]
  refine takeD (i := 14) (oi := { dst := some 94, op := _, type := _, pos := _, after := _, guard := _ }) (d := some 94) (v := ?vva94) rfl rfl (by kernel_rfl) (by kernel_rfl) (by kernel_rfl) ?dda94 (by rfl) ?yya94 hHeld ?rra94
  case dda94 => exact fun _ _ _ h => h
  case yya94 => (intro wx hSw; obtain ⟨y0, y1⟩ := hSw; go_simp; try (with_reducible rfl))
  try simp only [Act.put, List.setIfInBounds_toArray, List.set_cons_zero, List.set_cons_succ]
  refine takeD (i := 15) (oi := { dst := some 95, op := _, type := _, pos := _, after := _, guard := _ }) (d := some 95) (v := ?vva95) rfl rfl (by kernel_rfl) (by kernel_rfl) (by kernel_rfl) ?dda95 (by rfl) ?yya95 hHeld ?rra95
  case dda95 => exact fun _ _ _ h => h
  case yya95 => (intro wx hSw; obtain ⟨y0, y1⟩ := hSw; go_simp; try (with_reducible rfl))
  try simp only [Act.put, List.setIfInBounds_toArray, List.set_cons_zero, List.set_cons_succ]
  refine takeD (i := 16) (oi := { dst := some 96, op := _, type := _, pos := _, after := _, guard := _ }) (d := some 96) (v := ?vva96) rfl rfl (by kernel_rfl) (by kernel_rfl) (by kernel_rfl) ?dda96 (by rfl) ?yya96 hHeld ?rra96
  case dda96 => exact fun _ _ _ h => h
  case yya96 => (intro wx hSw; obtain ⟨y0, y1⟩ := hSw; go_simp; try (with_reducible rfl))
  try simp only [Act.put, List.setIfInBounds_toArray, List.set_cons_zero, List.set_cons_succ]
  refine wpAnyH_ready (rs := [17]) (by kernel_rfl) (by simp) ?_
  refine AllReadyH.cons (o := { dst := some 12, op := _, type := _, pos := _, after := _, guard := _ }) rfl (fun K hK => ?_) AllReadyH.nil
  go_simp
  obtain ⟨w9, hw9⟩ : ∃ w9, w9 = (w8.alloc (Obj.cells #[.int .i64 0, .int .i64 0, .int .i64 0, .int .i64 0] 57)).drew := ⟨_, rfl⟩
  rw [← hw9]
  have hxl := hbel8.size
  have x1 : Blk w9 w8.heap.size #[.int .i64 0, .int .i64 0, .int .i64 0, .int .i64 0] 57 := by rw [hw9]; exact (Blk.new _ _ _).drew
  have h9 := (H8.out.alloc (Obj.cells #[.int .i64 0, .int .i64 0, .int .i64 0, .int .i64 0] 57)).drew
  have g9 := (G8.out.alloc (Obj.cells #[.int .i64 0, .int .i64 0, .int .i64 0, .int .i64 0] 57)).drew
  have o9 : OwnP (w8.alloc (Obj.cells #[.int .i64 0, .int .i64 0, .int .i64 0, .int .i64 0] 57)).drew 64 p 4 P := OwnF.drew (OwnF.alloc O8.out _)
  rw [← hw9] at h9 g9 o9
  have hbel9 : Below w.heap.size w w9 := by rw [hw9]; exact (hbel8.alloc hxl _).drew
  obtain ⟨x, hx⟩ : ∃ x, x = w8.heap.size := ⟨_, rfl⟩
  have hpx : p < x := by rw [hx]; exact zp
  have hgx : g < x := by rw [hx]; exact G8.out.lt
  have hqx : q < x := by rw [hx]; exact H8.out.lt
  rw [← hx] at x1 hxl ⊢
  refine hK.out _ _ ⟨o9.fst (i := 0) (by omega), o9.snd (i := 0) (by omega)⟩ (fun hHeld2 => ?_)
  clear hK K
  try simp only [Act.put, List.setIfInBounds_toArray, List.set_cons_zero, List.set_cons_succ]
  clear hw9 hHeld O8 H8 G8 c0 c1 zp hx
  have y0 : w9.cell? ⟨x, 0, none⟩ = some (.int .i64 0) := x1.cell (i := 0) rfl
  have y1 : w9.cell? ⟨x, 1, none⟩ = some (.int .i64 0) := x1.cell (i := 1) rfl
  have y2 : w9.cell? ⟨x, 2, none⟩ = some (.int .i64 0) := x1.cell (i := 2) rfl
  have y3 : w9.cell? ⟨x, 3, none⟩ = some (.int .i64 0) := x1.cell (i := 3) rfl
  have fz := x1.frozen
  have zf := x1.lt
  refine wpAnyH_ready (rs := [18]) (by kernel_rfl) (by simp) ?_
  refine AllReadyH.cons (o := { dst := none, op := _, type := _, pos := _, after := _, guard := _ }) rfl (fun K hK => ?_) AllReadyH.nil
  go_simp
  obtain ⟨w10, hw10⟩ : ∃ w10, w10 = (((w9.setCell { block := x, off := 0 } (.int .i64 (P 0).1)).setCell { block := x, off := 1 } (.int .i64 (P 0).2)).setCell { block := x, off := 2 } (.int .i64 (P 0).1)).setCell { block := x, off := 3 } (.int .i64 (P 0).2) := ⟨_, rfl⟩
  rw [← hw10]
  have n1 : p ≠ x := by omega
  have n2 : g ≠ x := by omega
  have n3 : q ≠ x := by omega
  have x10 : Blk w10 x (bndC (bndS P 0)) 57 := by
    have := (((x1.set 0 (.int .i64 (P 0).1)).set 1 (.int .i64 (P 0).2)).set 2 (.int .i64 (P 0).1)).set 3 (.int .i64 (P 0).2)
    simp only [List.setIfInBounds_toArray, List.set_cons_zero, List.set_cons_succ] at this
    rw [hw10]; exact this
  have o10 : OwnP w10 64 p 4 P := by rw [hw10]; exact OwnF.other (OwnF.other (OwnF.other (OwnF.other o9 (by simpa using n1) _) (by simpa using n1) _) (by simpa using n1) _) (by simpa using n1) _
  have g10 : Blk w10 g (cornC P 4) 83 := by rw [hw10]; exact (((g9.other (by simpa using n2) _).other (by simpa using n2) _).other (by simpa using n2) _).other (by simpa using n2) _
  have h10 : Blk w10 q #[.int .i64 b.1, .int .i64 b.2.1, .int .i64 b.2.2.1, .int .i64 b.2.2.2] 57 := by rw [hw10]; exact (((h9.other (by simpa using n3) _).other (by simpa using n3) _).other (by simpa using n3) _).other (by simpa using n3) _
  have hbel10 : Below w.heap.size w w10 := by rw [hw10]; exact (((hbel9.setCell hxl _).setCell hxl _).setCell hxl _).setCell hxl _
  refine hK.out _ _ ⟨o10.fst (i := 0) (by omega), o10.snd (i := 0) (by omega)⟩ (fun hHeld3 => ?_)
  clear hK K
  try simp only [Act.put, List.setIfInBounds_toArray, List.set_cons_zero, List.set_cons_succ]
  refine wpAnyH_done (by kernel_rfl) ?_ _
  clear hHeld2 hHeld3 hw10 y0 y1 y2 y3 fz zf x1 h9 g9 o9 hbel9 HC HB HO
  have X10 := Lib.hid x10
  have O10 := Lib.hid o10
  have G10 := Lib.hid g10
  have H10 := Lib.hid h10
  have HBE := Lib.hid hbel10
  clear x10 o10 g10 h10 hbel10 hbel8 hbel7 hbel6 hbel5 hbel4 hbel3 hbel2 hb1
  go_wp2_with fail
  go_loopw [99] (fun ix wr => ∃ i : Nat, ix = .int .i64 i ∧ i ≤ 4 ∧ Blk wr x (bndC (bndS P i)) 57 ∧ OwnP wr 64 p 4 P ∧ Blk wr g (cornC P 4) 83 ∧ Blk wr q #[.int .i64 b.1, .int .i64 b.2.1, .int .i64 b.2.2.1, .int .i64 b.2.2.2] 57 ∧ Below w.heap.size w wr) (fun ix _ => 4 - (intOf ix).toNat)
  case atStart => exact ⟨0, rfl, by omega, X10.out, O10.out, G10.out, H10.out, HBE.out⟩
  case round =>
    obtain ⟨i, rfl, hi, h1, h2, h3, h4, hbel⟩ := hrel
    have XR := Lib.hid h1
    have OR := Lib.hid h2
    have GR := Lib.hid h3
    have HR := Lib.hid h4
    have hsz := hbel.size
    clear h1 h2 h3 h4 X10 O10 G10 H10 HBE
    by_cases hi4 : i < 4
    · obtain ⟨bb, hbb⟩ : ∃ bb, bb = bndS P i := ⟨_, rfl⟩
      have HBB := Lib.hid (show bndS P (i + 1) = (if (P i).1 < bb.1 then (P i).1 else bb.1, if (P i).2 < bb.2.1 then (P i).2 else bb.2.1, if bb.2.2.1 < (P i).1 then (P i).1 else bb.2.2.1, if bb.2.2.2 < (P i).2 then (P i).2 else bb.2.2.2) by rw [hbb]; rfl)
      have xr := XR.out
      rw [← hbb] at xr
      clear hbb
      have p0 : wr.cell? ⟨p, i * 2, none⟩ = some (.int .i64 (P i).1) := OR.out.fst hi4
      have p1 : wr.cell? ⟨p, i * 2 + 1, none⟩ = some (.int .i64 (P i).2) := OR.out.snd hi4
      have hg0 : wr.cell? ⟨g, i * 2, none⟩ = some (.int .i64 (P i).1) ∧ wr.cell? ⟨g, i * 2 + 1, none⟩ = some (.int .i64 (P i).2) := by
        obtain rfl | rfl | rfl | rfl : i = 0 ∨ i = 1 ∨ i = 2 ∨ i = 3 := by omega
        · exact ⟨GR.out.cell (i := 0) rfl, GR.out.cell (i := 1) rfl⟩
        · exact ⟨GR.out.cell (i := 2) rfl, GR.out.cell (i := 3) rfl⟩
        · exact ⟨GR.out.cell (i := 4) rfl, GR.out.cell (i := 5) rfl⟩
        · exact ⟨GR.out.cell (i := 6) rfl, GR.out.cell (i := 7) rfl⟩
      obtain ⟨q0, q1⟩ := hg0
      have zg := GR.out.lt
      have zp := OwnF.lt OR.out
      have zx := xr.lt
      obtain ⟨px, hpx⟩ : ∃ px, px = (P i).1 := ⟨_, rfl⟩
      obtain ⟨py, hpy⟩ : ∃ py, py = (P i).2 := ⟨_, rfl⟩
      rw [← hpx] at p0 q0
      rw [← hpy] at p1 q1
      rw [← hpx, ← hpy] at HBB
      clear hpx hpy
      have XX := Lib.hid xr
      clear xr
      go_wp2_with fail
      obtain ⟨ws, hws⟩ : ∃ ws, ws = (wr.alloc (Obj.cells #[.int .i64 px, .int .i64 py] 64)) := ⟨_, rfl⟩
      have bs : Blk ws wr.heap.size #[.int .i64 px, .int .i64 py] 64 := by rw [hws]; exact Blk.new _ _ _
      have xs := XX.out.alloc (Obj.cells #[.int .i64 px, .int .i64 py] 64)
      have os : OwnP (wr.alloc (Obj.cells #[.int .i64 px, .int .i64 py] 64)) 64 p 4 P := OwnF.alloc OR.out _
      have gs := GR.out.alloc (Obj.cells #[.int .i64 px, .int .i64 py] 64)
      have hs := HR.out.alloc (Obj.cells #[.int .i64 px, .int .i64 py] 64)
      rw [← hws] at xs os gs hs
      have hbs : Below w.heap.size w ws := by rw [hws]; exact hbel.alloc hsz _
      rw [← hws]
      have zs : wr.heap.size < ws.heap.size := bs.lt
      have u0 : ws.cell? ⟨wr.heap.size, 0, none⟩ = some (.int .i64 px) := bs.cell (i := 0) rfl
      have u1 : ws.cell? ⟨wr.heap.size, 1, none⟩ = some (.int .i64 py) := bs.cell (i := 1) rfl
      have t0 : ws.cell? ⟨g, i * 2, none⟩ = some (.int .i64 px) := by rw [hws]; exact ((Below.refl _ _).alloc (Nat.le_refl _) _ |>.cell (B := wr.heap.size) (p := ⟨g, i * 2, none⟩) zg).trans q0
      have t1 : ws.cell? ⟨g, i * 2 + 1, none⟩ = some (.int .i64 py) := by rw [hws]; exact ((Below.refl _ _).alloc (Nat.le_refl _) _ |>.cell (B := wr.heap.size) (p := ⟨g, i * 2 + 1, none⟩) zg).trans q1
      clear p0 p1 q0 q1 hws
      have XX := Lib.hid xs
      have OO := Lib.hid os
      have GG := Lib.hid gs
      have HH := Lib.hid hs
      have BB := Lib.hid bs
      have hne1 : wr.heap.size ≠ x := by omega
      have zgs := gs.lt
      have ee : (px == px) = true := by simp
      have ef : (py == py) = true := by simp
      clear xs os gs hs bs XR OR GR HR
      obtain ⟨r, hr⟩ : ∃ r, r = wr.heap.size := ⟨_, rfl⟩
      rw [← hr] at zs u0 u1 BB hne1 ⊢
      clear hr
      go_wp2_with fail
      go_quiet (fail)
      obtain ⟨wz, hwz⟩ : ∃ wz, wz = ws.drewN nq := ⟨_, rfl⟩
      rw [← hwz]
      have xs := XX.out.drewN nq
      have os : OwnP (ws.drewN nq) 64 p 4 P := OwnF.drewN OO.out nq
      have gs := GG.out.drewN nq
      have hs := HH.out.drewN nq
      have bs := BB.out.drewN nq
      have hbz := below_drewN hbs nq
      rw [← hwz] at xs os gs hs bs hbz
      clear hwz XX OO GG HH BB u0 u1 t0 t1 zs hbs zgs ee ef
      have u0 : wz.cell? ⟨r, 0, none⟩ = some (.int .i64 px) := bs.cell (i := 0) rfl
      have u1 : wz.cell? ⟨r, 1, none⟩ = some (.int .i64 py) := bs.cell (i := 1) rfl
      have o0 : wz.cell? ⟨x, 0, none⟩ = some (.int .i64 bb.1) := xs.cell (i := 0) rfl
      have o1 : wz.cell? ⟨x, 1, none⟩ = some (.int .i64 bb.2.1) := xs.cell (i := 1) rfl
      have o2 : wz.cell? ⟨x, 2, none⟩ = some (.int .i64 bb.2.2.1) := xs.cell (i := 2) rfl
      have o3 : wz.cell? ⟨x, 3, none⟩ = some (.int .i64 bb.2.2.2) := xs.cell (i := 3) rfl
      have zr := bs.lt
      have zxx := xs.lt
      have fz := xs.frozen
      have knew := (((xs.set 0 (.int .i64 (if px < bb.1 then px else bb.1))).set 1 (.int .i64 (if py < bb.2.1 then py else bb.2.1))).set 2 (.int .i64 (if bb.2.2.1 < px then px else bb.2.2.1))).set 3 (.int .i64 (if bb.2.2.2 < py then py else bb.2.2.2))
      have KN := Lib.hid knew
      have OO := Lib.hid os
      have GG := Lib.hid gs
      have HH := Lib.hid hs
      clear knew xs os gs hs bs
      go_wp2_with fail
      go_roundw
      case rel =>
        refine ⟨i + 1, by go_num, by omega, ?_, OwnF.other (OwnF.other (OwnF.other (OwnF.other OO.out (by simpa using n1) _) (by simpa using n1) _) (by simpa using n1) _) (by simpa using n1) _, (((GG.out.other (by simpa using n2) _).other (by simpa using n2) _).other (by simpa using n2) _).other (by simpa using n2) _, (((HH.out.other (by simpa using n3) _).other (by simpa using n3) _).other (by simpa using n3) _).other (by simpa using n3) _, ?_⟩
        · have h := KN.out
          rw [HBB.out]
          simp only [bndC, List.setIfInBounds_toArray, List.set_cons_zero, List.set_cons_succ] at h
          exact h
        · exact (((hbz.setCell hxl _).setCell hxl _).setCell hxl _).setCell hxl _
      case measure => simp [intOf]; omega
    · obtain rfl : i = 4 := by omega
      have xr := XR.out
      rw [← HBN.out] at xr
      have o0 : wr.cell? ⟨x, 0, none⟩ = some (.int .i64 b.1) := xr.cell (i := 0) rfl
      have o1 : wr.cell? ⟨x, 1, none⟩ = some (.int .i64 b.2.1) := xr.cell (i := 1) rfl
      have o2 : wr.cell? ⟨x, 2, none⟩ = some (.int .i64 b.2.2.1) := xr.cell (i := 2) rfl
      have o3 : wr.cell? ⟨x, 3, none⟩ = some (.int .i64 b.2.2.2) := xr.cell (i := 3) rfl
      have r0 : wr.cell? ⟨q, 0, none⟩ = some (.int .i64 b.1) := HR.out.cell (i := 0) rfl
      have r1 : wr.cell? ⟨q, 1, none⟩ = some (.int .i64 b.2.1) := HR.out.cell (i := 1) rfl
      have r2 : wr.cell? ⟨q, 2, none⟩ = some (.int .i64 b.2.2.1) := HR.out.cell (i := 2) rfl
      have r3 : wr.cell? ⟨q, 3, none⟩ = some (.int .i64 b.2.2.2) := HR.out.cell (i := 3) rfl
      have zr := HR.out.lt
      have zx := xr.lt
      clear xr
      go_wp2_with fail
      go_ret
      exact ⟨by simp, hbel⟩
end Go.Proofs.YtnigebnibikolaaDoor.ShT
