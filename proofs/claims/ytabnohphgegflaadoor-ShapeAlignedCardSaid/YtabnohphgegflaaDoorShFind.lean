

/-
  find and ShapeAt.
-/
import Derived.Test.YtabnohphgegflaaDoorShBase
namespace Go.Law.Sh
open Go.RowKit
/-- n shapes at an address: the ints of each, and its texts -/
def ShF (w : World) (a : Option Addr) (n : Nat) (E : Nat → Nat → Int) (N : Nat → Nat → ByteArray) : Prop :=
  0 < n → ∃ b off, a = some ⟨b, off, none⟩ ∧ ∀ i, i < n → (∀ j, j < 10 → w.cell? ⟨b, off + i * 12 + j, none⟩ = some (.int .i64 (E i j))) ∧ w.cell? ⟨b, off + i * 12 + 10, none⟩ = some (.string (N i 0)) ∧ w.cell? ⟨b, off + i * 12 + 11, none⟩ = some (.string (N i 1))
theorem ShF.below {W w : World} {B : Nat} {a : Option Addr} {n : Nat} {E : Nat → Nat → Int} {N : Nat → Nat → ByteArray} (h : ShF W a n E N) (hB : W.heap.size ≤ B) (hb : Below B W w) : ShF w a n E N := by
  intro hn
  obtain ⟨b, off, rfl, hh⟩ := h hn
  refine ⟨b, off, rfl, fun i hi => ?_⟩
  obtain ⟨h1, h2, h3⟩ := hh i hi
  have hlt : b < W.heap.size := lt_of_cell h2
  refine ⟨fun j hj => ?_, ?_, ?_⟩
  · rw [hb.cell (show b < B by omega)]; exact h1 j hj
  · rw [hb.cell (show b < B by omega)]; exact h2
  · rw [hb.cell (show b < B by omega)]; exact h3
theorem ShF.less {w : World} {a : Option Addr} {n m : Nat} {E : Nat → Nat → Int} {N : Nat → Nat → ByteArray} (h : ShF w a n E N) (hm : m ≤ n) : ShF w a m E N := by
  intro h0
  obtain ⟨b, off, rfl, hh⟩ := h (by omega)
  exact ⟨b, off, rfl, fun i hi => hh i (by omega)⟩
/-- the place of the first shape with a number, or -1 -/
def findV (n : Nat) (E : Nat → Nat → Int) (x : Int) : Int :=
  match (List.range n).find? (fun i => decide (E i 0 = x)) with
  | some k => k
  | none => -1
theorem findV_some {n k : Nat} {E : Nat → Nat → Int} {x : Int} (hk : k < n) (hn : ∀ j, j < k → ¬ E j 0 = x) (hx : E k 0 = x) : findV n E x = k := by
  have : (List.range n).find? (fun i => decide (E i 0 = x)) = some k := by
    rw [List.find?_eq_some_iff_getElem]
    refine ⟨by simpa using hx, k, by simpa using hk, by simp, fun j hj => by simp [hn j hj]⟩
  unfold findV
  rw [this]
theorem findV_none {n : Nat} {E : Nat → Nat → Int} {x : Int} (hn : ∀ j, j < n → ¬ E j 0 = x) : findV n E x = -1 := by
  have : (List.range n).find? (fun i => decide (E i 0 = x)) = none := by
    rw [List.find?_eq_none]
    intro i hi
    simp [hn i (by simpa using hi)]
  unfold findV
  rw [this]
theorem findV_cases (n : Nat) (E : Nat → Nat → Int) (x : Int) : (findV n E x = -1 ∧ ∀ j, j < n → ¬ E j 0 = x) ∨ ∃ k, k < n ∧ findV n E x = k ∧ E k 0 = x ∧ ∀ j, j < k → ¬ E j 0 = x := by
  by_cases h : ∃ k, k < n ∧ E k 0 = x
  · obtain ⟨k, hk⟩ := h
    have hex : ∃ k, k < n ∧ E k 0 = x := ⟨k, hk⟩
    obtain ⟨m, hm, hmin⟩ : ∃ m, (m < n ∧ E m 0 = x) ∧ ∀ j, j < m → ¬ (j < n ∧ E j 0 = x) := by
      clear hex
      induction k using Nat.strongRecOn with
      | _ k ih =>
        by_cases h2 : ∃ j, j < k ∧ (j < n ∧ E j 0 = x)
        · obtain ⟨j, hj, hj2⟩ := h2
          exact ih j hj hj2
        · exact ⟨k, hk, fun j hj h3 => h2 ⟨j, hj, h3⟩⟩
    have hno : ∀ j, j < m → ¬ E j 0 = x := fun j hj h => hmin j hj ⟨by omega, h⟩
    exact .inr ⟨m, hm.1, findV_some hm.1 hno hm.2, hm.2, hno⟩
  · have hno : ∀ j, j < n → ¬ E j 0 = x := fun j hj hx => h ⟨j, hj, hx⟩
    exact .inl ⟨findV_none hno, hno⟩
end Go.Law.Sh
namespace Go.Proofs.YtabnohphgegflaaDoor.ShT
open Go.RowKit Go.Law Go.Law.Sh
set_option linter.unusedVariables false
set_option linter.unusedSimpArgs false
set_option maxRecDepth 100000
set_option maxHeartbeats 1000000 in
theorem shapeAt_any (n : Nat) (E : Nat → Nat → Int) (N : Nat → Nat → ByteArray) (x : Int) (a : Option Addr) (c : Nat) (w : World) (ha : ShF w a n E N) (hn : n ≤ 1000000000000000000) :
    Calls Tryd.prog 27 #[.slice a n c, .int .i64 x] w fun e w' => e = .returned (.int .i64 (findV n E x)) ∧ Below w.heap.size w w' := by
  have HA := Lib.hid ha
  have HS := Lib.hid (fun k => @findV_some n k E x)
  have HN := Lib.hid (@findV_none n E x)
  obtain ⟨V, hV⟩ : ∃ V, V = findV n E x := ⟨_, rfl⟩
  rw [← hV] at HS HN ⊢
  clear ha hV
  go_enter Tryd.func27, Tryd.ntmps27
  go_wp2_with fail
  go_loopw [9] (fun ix wr => ∃ k : Nat, ix = .int .i64 k ∧ k ≤ n ∧ (∀ j, j < k → ¬ E j 0 = x) ∧ Below w.heap.size w wr) (fun ix _ => n - (intOf ix).toNat)
  case atStart => exact ⟨0, rfl, by omega, fun j hj => by omega, Below.refl _ _⟩
  case round =>
    obtain ⟨k, rfl, hk, hno, hbel⟩ := hrel
    have HNO := Lib.hid hno
    clear hno
    by_cases hkn : k < n
    · obtain ⟨b, off, rfl, hcellG⟩ := HA.out.below (Nat.le_refl _) hbel (by omega)
      have hcell := hcellG k hkn
      clear hcellG
      obtain ⟨hci, hc10, hc11⟩ := hcell
      have d0 := hci 0 (by omega)
      rw [Nat.add_zero] at d0
      have d1 := hci 1 (by omega)
      have d2 := hci 2 (by omega)
      have d3 := hci 3 (by omega)
      have d4 := hci 4 (by omega)
      have d5 := hci 5 (by omega)
      have d6 := hci 6 (by omega)
      have d7 := hci 7 (by omega)
      have d8 := hci 8 (by omega)
      have d9 := hci 9 (by omega)
      have zb := lt_of_cell d0
      simp only at zb
      clear hci
      obtain ⟨e0, he0⟩ : ∃ e, e = E k 0 := ⟨_, rfl⟩
      obtain ⟨e1, he1⟩ : ∃ e, e = E k 1 := ⟨_, rfl⟩
      obtain ⟨e2, he2⟩ : ∃ e, e = E k 2 := ⟨_, rfl⟩
      obtain ⟨e3, he3⟩ : ∃ e, e = E k 3 := ⟨_, rfl⟩
      obtain ⟨e4, he4⟩ : ∃ e, e = E k 4 := ⟨_, rfl⟩
      obtain ⟨e5, he5⟩ : ∃ e, e = E k 5 := ⟨_, rfl⟩
      obtain ⟨e6, he6⟩ : ∃ e, e = E k 6 := ⟨_, rfl⟩
      obtain ⟨e7, he7⟩ : ∃ e, e = E k 7 := ⟨_, rfl⟩
      obtain ⟨e8, he8⟩ : ∃ e, e = E k 8 := ⟨_, rfl⟩
      obtain ⟨e9, he9⟩ : ∃ e, e = E k 9 := ⟨_, rfl⟩
      obtain ⟨n0, hn0⟩ : ∃ e, e = N k 0 := ⟨_, rfl⟩
      obtain ⟨n1, hn1⟩ : ∃ e, e = N k 1 := ⟨_, rfl⟩
      rw [← he0] at d0
      rw [← he1] at d1
      rw [← he2] at d2
      rw [← he3] at d3
      rw [← he4] at d4
      rw [← he5] at d5
      rw [← he6] at d6
      rw [← he7] at d7
      rw [← he8] at d8
      rw [← he9] at d9
      rw [← hn0] at hc10
      rw [← hn1] at hc11
      have HE0 := Lib.hid he0
      have HE1 := Lib.hid he1
      have HE2 := Lib.hid he2
      have HE3 := Lib.hid he3
      have HE4 := Lib.hid he4
      have HE5 := Lib.hid he5
      have HE6 := Lib.hid he6
      have HE7 := Lib.hid he7
      have HE8 := Lib.hid he8
      have HE9 := Lib.hid he9
      have HN0 := Lib.hid hn0
      have HN1 := Lib.hid hn1
      clear he0 he1 he2 he3 he4 he5 he6 he7 he8 he9 hn0 hn1
      have hsz := hbel.size
      by_cases hx : e0 = x
      · have HL := Lib.hid (HS.out k hkn HNO.out (by rw [← HE0.out]; exact hx))
        subst hx
        go_wp2_with fail
        go_ret
        refine ⟨by rw [HL.out]; rfl, ?_⟩
        repeat' (with_reducible first | exact Below.refl _ _ | assumption | refine Below.setCell ?_ ?_ _ | refine Below.alloc ?_ ?_ _ | refine below_drewN ?_ _ | refine Below.drew ?_)
        all_goals first | omega | (simp; done) | (simp; omega)
      · go_wp2_with fail
        go_roundw
        case rel =>
          refine ⟨k + 1, by go_num, by omega, fun j hj => ?_, ?_⟩
          · rcases Nat.lt_or_ge j k with h | h
            · exact HNO.out j h
            · rw [show j = k by omega, ← HE0.out]; exact hx
          · repeat' (with_reducible first | exact Below.refl _ _ | assumption | refine Below.setCell ?_ ?_ _ | refine Below.alloc ?_ ?_ _ | refine below_drewN ?_ _ | refine Below.drew ?_)
            all_goals first | omega | (simp; done) | (simp; omega)
        case measure => simp [intOf]; omega
    · obtain rfl : k = n := by omega
      have HL := Lib.hid (HN.out HNO.out)
      go_wp2_with fail
      go_ret
      exact ⟨by rw [HL.out]; rfl, hbel⟩
theorem at_any (e0 e1 e2 e3 e4 e5 e6 e7 e8 e9 : Int) (n0 n1 : ByteArray) (x : Int) (p : Nat) (w : World) (hp : w.cell? ⟨p, 0, none⟩ = some (.int .i64 x)) :
    Calls Tryd.prog 50 #[.agg #[.int .i64 e0, .int .i64 e1, .int .i64 e2, .int .i64 e3, .int .i64 e4, .int .i64 e5, .int .i64 e6, .int .i64 e7, .int .i64 e8, .int .i64 e9, .string n0, .string n1], .pointer (some ⟨p, 0, none⟩)] w fun e w' => e = .returned (.bool (decide (e0 = x))) ∧ Below w.heap.size w w' := by
  have zp := lt_of_cell hp
  simp only at zp
  go_enter Tryd.func50, Tryd.ntmps50
  go_wp2_with fail
  go_ret
  exact ⟨rfl, (Below.refl _ _).alloc (Nat.le_refl _) _⟩
set_option maxHeartbeats 1000000 in
theorem index_any (n : Nat) (E : Nat → Nat → Int) (N : Nat → Nat → ByteArray) (x : Int) (a : Option Addr) (c p : Nat) (w : World) (ha : ShF w a n E N) (hn : n ≤ 1000000000000000000) (hp : w.cell? ⟨p, 0, none⟩ = some (.int .i64 x)) :
    Calls Tryd.prog 49 #[.slice a n c, .func (.func 50) #[] #[.pointer (some ⟨p, 0, none⟩)]] w fun e w' => e = .returned (.int .i64 (findV n E x)) ∧ Below w.heap.size w w' := by
  have HA := Lib.hid ha
  have HP := Lib.hid hp
  have HS := Lib.hid (fun k => @findV_some n k E x)
  have HN := Lib.hid (@findV_none n E x)
  have zp := lt_of_cell hp
  simp only at zp
  obtain ⟨V, hV⟩ : ∃ V, V = findV n E x := ⟨_, rfl⟩
  rw [← hV] at HS HN ⊢
  clear ha hV hp
  go_enter Tryd.func49, Tryd.ntmps49
  go_wp2_with fail
  go_loopw [8] (fun ix wr => ∃ k : Nat, ix = .int .i64 k ∧ k ≤ n ∧ (∀ j, j < k → ¬ E j 0 = x) ∧ Below w.heap.size w wr) (fun ix _ => n - (intOf ix).toNat)
  case atStart => exact ⟨0, rfl, by omega, fun j hj => by omega, Below.refl _ _⟩
  case round =>
    obtain ⟨k, rfl, hk, hno, hbel⟩ := hrel
    have HNO := Lib.hid hno
    clear hno
    by_cases hkn : k < n
    · obtain ⟨b, off, rfl, hcellG⟩ := HA.out.below (Nat.le_refl _) hbel (by omega)
      have hcell := hcellG k hkn
      clear hcellG
      obtain ⟨hci, hc10, hc11⟩ := hcell
      have d0 := hci 0 (by omega)
      rw [Nat.add_zero] at d0
      have d1 := hci 1 (by omega)
      have d2 := hci 2 (by omega)
      have d3 := hci 3 (by omega)
      have d4 := hci 4 (by omega)
      have d5 := hci 5 (by omega)
      have d6 := hci 6 (by omega)
      have d7 := hci 7 (by omega)
      have d8 := hci 8 (by omega)
      have d9 := hci 9 (by omega)
      have zb := lt_of_cell d0
      simp only at zb
      clear hci
      obtain ⟨e0, he0⟩ : ∃ e, e = E k 0 := ⟨_, rfl⟩
      obtain ⟨e1, he1⟩ : ∃ e, e = E k 1 := ⟨_, rfl⟩
      obtain ⟨e2, he2⟩ : ∃ e, e = E k 2 := ⟨_, rfl⟩
      obtain ⟨e3, he3⟩ : ∃ e, e = E k 3 := ⟨_, rfl⟩
      obtain ⟨e4, he4⟩ : ∃ e, e = E k 4 := ⟨_, rfl⟩
      obtain ⟨e5, he5⟩ : ∃ e, e = E k 5 := ⟨_, rfl⟩
      obtain ⟨e6, he6⟩ : ∃ e, e = E k 6 := ⟨_, rfl⟩
      obtain ⟨e7, he7⟩ : ∃ e, e = E k 7 := ⟨_, rfl⟩
      obtain ⟨e8, he8⟩ : ∃ e, e = E k 8 := ⟨_, rfl⟩
      obtain ⟨e9, he9⟩ : ∃ e, e = E k 9 := ⟨_, rfl⟩
      obtain ⟨n0, hn0⟩ : ∃ e, e = N k 0 := ⟨_, rfl⟩
      obtain ⟨n1, hn1⟩ : ∃ e, e = N k 1 := ⟨_, rfl⟩
      rw [← he0] at d0
      rw [← he1] at d1
      rw [← he2] at d2
      rw [← he3] at d3
      rw [← he4] at d4
      rw [← he5] at d5
      rw [← he6] at d6
      rw [← he7] at d7
      rw [← he8] at d8
      rw [← he9] at d9
      rw [← hn0] at hc10
      rw [← hn1] at hc11
      have HE0 := Lib.hid he0
      have HE1 := Lib.hid he1
      have HE2 := Lib.hid he2
      have HE3 := Lib.hid he3
      have HE4 := Lib.hid he4
      have HE5 := Lib.hid he5
      have HE6 := Lib.hid he6
      have HE7 := Lib.hid he7
      have HE8 := Lib.hid he8
      have HE9 := Lib.hid he9
      have HN0 := Lib.hid hn0
      have HN1 := Lib.hid hn1
      clear he0 he1 he2 he3 he4 he5 he6 he7 he8 he9 hn0 hn1
      have hsz := hbel.size
      have hp1 : wr.cell? ⟨p, 0, none⟩ = some (.int .i64 x) := (hbel.cell zp).trans HP.out
      by_cases hx : e0 = x
      · have HL := Lib.hid (HS.out k hkn HNO.out (by rw [← HE0.out]; exact hx))
        subst hx
        go_wp2_with fail
        refine (at_any _ _ _ _ _ _ _ _ _ _ _ _ e0 p wr hp1).mono ?_
        rintro e w1 ⟨rfl, hb1⟩
        have hd : decide (e0 = e0) = true := by simp
        rw [hd]
        go_wp2_with fail
        go_ret
        exact ⟨by rw [HL.out]; rfl, hbel.trans (hb1.mono hsz)⟩
      · go_wp2_with fail
        refine (at_any _ _ _ _ _ _ _ _ _ _ _ _ x p wr hp1).mono ?_
        rintro e w1 ⟨rfl, hb1⟩
        have hd : decide (e0 = x) = false := by simpa using hx
        rw [hd]
        go_wp2_with fail
        go_roundw
        case rel =>
          refine ⟨k + 1, by go_num, by omega, fun j hj => ?_, hbel.trans (hb1.mono hsz)⟩
          rcases Nat.lt_or_ge j k with h | h
          · exact HNO.out j h
          · rw [show j = k by omega, ← HE0.out]; exact hx
        case measure => simp [intOf]; omega
    · obtain rfl : k = n := by omega
      have HL := Lib.hid (HN.out HNO.out)
      go_wp2_with fail
      go_ret
      exact ⟨by rw [HL.out]; rfl, hbel⟩
theorem find_any (n : Nat) (E : Nat → Nat → Int) (N : Nat → Nat → ByteArray) (x : Int) (a : Option Addr) (c : Nat) (w : World) (ha : ShF w a n E N) (hn : n ≤ 1000000000000000000) :
    Calls Tryd.prog 35 #[.slice a n c, .int .i64 x] w fun e w' => e = .returned (.int .i64 (findV n E x)) ∧ Below w.heap.size w w' := by
  have hb0 : Below w.heap.size w (w.alloc (Obj.cells #[Value.int IntKind.i64 x] 3)) := (Below.refl _ _).alloc (Nat.le_refl _) _
  have HA := Lib.hid (ha.below (Nat.le_refl _) hb0)
  have HB := Lib.hid hb0
  clear ha hb0
  go_enter Tryd.func35, Tryd.ntmps35
  go_wp2_with fail
  refine (index_any n E N x a c _ _ HA.out hn (Blk.cell (Blk.new w #[.int .i64 x] 3) (i := 0) rfl)).mono ?_
  rintro e w1 ⟨rfl, hb1⟩
  go_wp2_with fail
  go_ret
  exact ⟨rfl, HB.out.trans (hb1.mono (by simp))⟩
end Go.Proofs.YtabnohphgegflaaDoor.ShT
