
/-
  PrintingOrders returns true for every input: the walk.
-/
import Derived.Test.YtpbnkkeplhgepaaPrOrdered
import Derived.Test.YtpbnkkeplhgepaaPrSided
namespace Go.Proofs.Ytpbnkkeplhgepaa.PO
open Go.RowKit Go.Law Ref
set_option linter.unusedVariables false
set_option linter.unusedSimpArgs false
set_option maxRecDepth 100000
theorem listE_zero {n : Nat} {f : Nat → Int} (h : listE n f = 0) : n ≤ 10000 := by
  rcases Nat.lt_or_ge 10000 n with h1 | h1
  · rw [listE_large h1] at h; omega
  · exact h1
/-- Order, and that ordered likes what it says -/
def OrderThen (n : Nat) (a : Option Addr) (c : Nat) (copies : Int) (co ba : Bool) (w : World) (e : Ending) (w' : World) : Prop :=
  Below w.heap.size w w' ∧ ∃ (a1 : Option Addr) (n1 c1 : Nat) (er : Int), e = .returned (.tuple #[.slice a1 n1 c1, .int .i64 er]) ∧
    ∀ w2, Below w'.heap.size w' w2 → Calls Try.prog 27 #[.slice a n c, .int .i64 copies, .bool co, .bool ba, .slice a1 n1 c1, .int .i64 er] w2 fun e w3 => e = .returned (.bool true) ∧ Below w2.heap.size w2 w3
theorem order_then (n : Nat) (f : Nat → Int) (a : Option Addr) (c : Nat) (copies : Int) (co ba : Bool) (w : World) (ha : IntsF w a n f) (h0 : a = none → c = 0) (he : listE n f = 0) :
    Calls Try.prog 24 #[.slice a n c, .int .i64 copies, .bool co, .bool ba] w (OrderThen n a c copies co ba w) := by
  have hn := listE_zero he
  by_cases hc : 1 ≤ copies ∧ copies ≤ 999
  · obtain ⟨cp, rfl⟩ : ∃ cp : Nat, copies = cp := ⟨copies.toNat, by omega⟩
    have hc' : 1 ≤ cp ∧ cp ≤ 999 := by omega
    have hN : (n : Int) * (cp : Int) = ((n * cp : Nat) : Int) := by simp
    by_cases ho : 10000 < n * cp
    · refine (order_over n cp (n * cp) f a c co ba w ha he hc' hn hN ho).mono ?_
      rintro e w1 ⟨rfl, rfl⟩
      exact ⟨Below.refl _ _, _, _, _, _, rfl, fun w2 hb => (ordered_over n cp (n * cp) a none c 0 co ba w2 hc' hn hN ho).mono fun e w3 ⟨h1, h2⟩ => ⟨h1, h2 ▸ Below.refl _ _⟩⟩
    · refine (order_ok n cp (n * cp) f a c co ba w ha he hc' hn hN (by omega)).mono ?_
      rintro e w1 ⟨hb, g, rfl, hg, hown⟩
      refine ⟨hb, _, _, _, _, rfl, fun w2 hb2 => ?_⟩
      rcases Nat.eq_zero_or_pos n with h | h
      · subst h
        rw [Nat.zero_mul]
        exact ordered_zero cp f a _ c _ co ba w2 h0 hc'
      · exact ordered_some n cp (n * cp) f a _ c _ co ba w2 h ((ha.below (Nat.le_refl _) hb).below (Nat.le_refl _) hb2) (hown.below hb2 hown.lt).ints hc' hn hN (by omega)
  · refine (order_range n f a c copies co ba w ha (by omega) he hc).mono ?_
    rintro e w1 ⟨rfl, rfl⟩
    exact ⟨Below.refl _ _, _, _, _, _, rfl, fun w2 hb => (ordered_range n a none c 0 copies co ba w2 hc).mono fun e w3 ⟨h1, h2⟩ => ⟨h1, h2 ▸ Below.refl _ _⟩⟩
def SeveralThen (n : Nat) (a : Option Addr) (c : Nat) (rows cols : Int) (dn : Bool) (w : World) (e : Ending) (w' : World) : Prop :=
  Below w.heap.size w w' ∧ ∃ (a1 : Option Addr) (n1 c1 : Nat) (er : Int), e = .returned (.tuple #[.slice a1 n1 c1, .int .i64 er]) ∧
    ∀ w2, Below w'.heap.size w' w2 → Calls Try.prog 28 #[.slice a n c, .int .i64 rows, .int .i64 cols, .bool dn, .slice a1 n1 c1, .int .i64 er] w2 fun e w3 => e = .returned (.bool true) ∧ w2 = w3
theorem SidesR.below {w w2 : World} {a : Option Addr} {cnt m n r c : Nat} {dn : Bool} {f : Nat → Int} (h : SidesR w a cnt m n r c dn f) (hm : 0 < m) (hb : Below w.heap.size w w2) : SidesR w2 a cnt m n r c dn f := by
  intro hc
  obtain ⟨gv, rfl, hq⟩ := h hc
  refine ⟨gv, rfl, fun q hq' => ?_⟩
  obtain ⟨gl, h1, h2⟩ := hq q hq'
  exact ⟨gl, (hb.cell (lt_of_cell h1)).trans h1, fun j hj => (hb.cell (lt_of_cell (h2 j hj))).trans (h2 j hj)⟩
theorem several_then (n : Nat) (f : Nat → Int) (a : Option Addr) (c : Nat) (rows cols : Int) (dn : Bool) (w : World) (ha : IntsF w a n f) (he : listE n f = 0) :
    Calls Try.prog 25 #[.slice a n c, .int .i64 rows, .int .i64 cols, .bool dn] w (SeveralThen n a c rows cols dn w) := by
  have hn := listE_zero he
  by_cases hc : 1 ≤ rows ∧ rows ≤ 8 ∧ 1 ≤ cols ∧ cols ≤ 8
  · obtain ⟨r, rfl⟩ : ∃ r : Nat, rows = r := ⟨rows.toNat, by omega⟩
    obtain ⟨q, rfl⟩ : ∃ q : Nat, cols = q := ⟨cols.toNat, by omega⟩
    have hr' : 1 ≤ r ∧ r ≤ 8 := by omega
    have hq' : 1 ≤ q ∧ q ≤ 8 := by omega
    have hm : (r : Int) * (q : Int) = ((r * q : Nat) : Int) := by simp
    have hm0 : 0 < r * q := Nat.mul_pos hr'.1 hq'.1
    refine (several_ok n r q (r * q) f a c dn w ha he hn hr' hq' hm).mono ?_
    rintro e w1 ⟨hb, v, cnt, rfl, hlo, hhi, hsev⟩
    obtain ⟨a1, c1, rfl, hs⟩ := SidesR.of hsev
    exact ⟨hb, _, _, _, _, rfl, fun w2 hb2 => sided_ok n r q (r * q) cnt f a a1 c c1 dn w2 ((ha.below (Nat.le_refl _) hb).below (Nat.le_refl _) hb2) hn hr' hq' hm hlo hhi (hs.below hm0 hb2)⟩
  · refine (several_range n f a c rows cols dn w ha (by omega) he hc).mono ?_
    rintro e w1 ⟨rfl, rfl⟩
    exact ⟨Below.refl _ _, _, _, _, _, rfl, fun w2 hb => sided_range n a none c 0 rows cols dn w2 hc⟩
def F12 : Nat → Int := fun i => if i = 0 then 1 else 2
def G2211 : Nat → Int := fun i => if i < 2 then 2 else 1
set_option maxHeartbeats 4000000 in
theorem law_bad (n : Nat) (f : Nat → Int) (a : Option Addr) (c : Nat) (copies : Int) (co ba : Bool) (rows cols : Int) (dn : Bool) (w : World) (ha : IntsF w a n f) (hn : n ≤ 1000000000000000000) (he : listE n f ≠ 0) :
    Calls Try.prog 7 #[.slice a n c, .int .i64 copies, .bool co, .bool ba, .int .i64 rows, .int .i64 cols, .bool dn] w fun e w' => e = .returned (.bool true) ∧ Below w.heap.size w w' := by
  have HA := Lib.hid ha
  clear ha
  have he' : (listE n f != 0) = true := by simpa using he
  have HE := Lib.hid he
  clear he
  go_enter Try.func7, Try.ntmps7
  go_wp2_with fail
  refine (order_ok 2 2 4 F12 _ _ false true _ ((OwnF.new 3 _ 2 F12 (by decide) (fun i hi => by
    have : i = 0 ∨ i = 1 := by omega
    rcases this with rfl | rfl <;> rfl)).ints) (listE_ok (by omega) (fun i hi => by unfold F12; split <;> omega)) (by omega) (by omega) (by decide) (by omega)).mono ?_
  rintro e w1 ⟨hb1, g1, rfl, hg1, hown1⟩
  have hs1 := hb1.size
  simp at hs1
  go_wp2_with fail
  refine (same_any 4 4 (ordF 2 2 false true F12) G2211 _ _ _ _ _ (hown1.alloc _).ints ((OwnF.new 3 _ 4 G2211 (by decide) (fun i hi => by
    have : i = 0 ∨ i = 1 ∨ i = 2 ∨ i = 3 := by omega
    rcases this with rfl | rfl | rfl | rfl <;> rfl)).ints) (by omega) (by omega)).mono ?_
  rintro e w2 ⟨rfl, hb2⟩
  rw [sameB_true.2 ⟨rfl, fun i hi => by
    have : i = 0 ∨ i = 1 ∨ i = 2 ∨ i = 3 := by omega
    rcases this with rfl | rfl | rfl | rfl <;> rfl⟩]
  have hs2 := hb2.size
  simp at hs2
  have hb12 : Below w.heap.size w w2 := ((((Below.refl _ _).alloc (Nat.le_refl _) _).trans (hb1.mono (by simp))).alloc (by omega) _).trans (hb2.mono (by simp; omega))
  have hsw : w.heap.size ≤ w2.heap.size := hb12.size
  have ha2 := HA.out.below (Nat.le_refl _) hb12
  clear hown1 hb1 hb2
  go_wp2_with fail
  refine (order_bad n f _ _ _ _ _ _ ha2 hn HE.out).mono ?_
  rintro e w3 ⟨rfl, rfl⟩
  go_wp2_with fail
  refine (several_bad n f _ _ _ _ _ _ ha2 hn HE.out).mono ?_
  rintro e w3 ⟨rfl, rfl⟩
  go_wp2_with fail
  refine (listError_any n f _ _ _ ha2 hn).mono ?_
  rintro e w3 ⟨rfl, rfl⟩
  go_wp2_with fail
  go_ret
  exact ⟨rfl, hb12⟩
set_option maxHeartbeats 4000000 in
theorem law_ok (n : Nat) (f : Nat → Int) (a : Option Addr) (c : Nat) (copies : Int) (co ba : Bool) (rows cols : Int) (dn : Bool) (w : World) (ha : IntsF w a n f) (h0 : a = none → c = 0) (hn : n ≤ 1000000000000000000) (he : listE n f = 0) :
    Calls Try.prog 7 #[.slice a n c, .int .i64 copies, .bool co, .bool ba, .int .i64 rows, .int .i64 cols, .bool dn] w fun e w' => e = .returned (.bool true) ∧ Below w.heap.size w w' := by
  have HA := Lib.hid ha
  have HE := Lib.hid he
  have H0 := Lib.hid h0
  clear ha he h0
  go_enter Try.func7, Try.ntmps7
  go_wp2_with fail
  refine (order_ok 2 2 4 F12 _ _ false true _ ((OwnF.new 3 _ 2 F12 (by decide) (fun i hi => by
    have : i = 0 ∨ i = 1 := by omega
    rcases this with rfl | rfl <;> rfl)).ints) (listE_ok (by omega) (fun i hi => by unfold F12; split <;> omega)) (by omega) (by omega) (by decide) (by omega)).mono ?_
  rintro e w1 ⟨hb1, g1, rfl, hg1, hown1⟩
  have hs1 := hb1.size
  simp at hs1
  go_wp2_with fail
  refine (same_any 4 4 (ordF 2 2 false true F12) G2211 _ _ _ _ _ (hown1.alloc _).ints ((OwnF.new 3 _ 4 G2211 (by decide) (fun i hi => by
    have : i = 0 ∨ i = 1 ∨ i = 2 ∨ i = 3 := by omega
    rcases this with rfl | rfl | rfl | rfl <;> rfl)).ints) (by omega) (by omega)).mono ?_
  rintro e w2 ⟨rfl, hb2⟩
  rw [sameB_true.2 ⟨rfl, fun i hi => by
    have : i = 0 ∨ i = 1 ∨ i = 2 ∨ i = 3 := by omega
    rcases this with rfl | rfl | rfl | rfl <;> rfl⟩]
  have hs2 := hb2.size
  simp at hs2
  have hb12 : Below w.heap.size w w2 := ((((Below.refl _ _).alloc (Nat.le_refl _) _).trans (hb1.mono (by simp))).alloc (by omega) _).trans (hb2.mono (by simp; omega))
  have hsw : w.heap.size ≤ w2.heap.size := hb12.size
  have ha2 := HA.out.below (Nat.le_refl _) hb12
  clear hown1 hb1 hb2
  go_wp2_with fail
  refine (order_then n f _ _ _ _ _ _ ha2 H0.out HE.out).mono ?_
  rintro e w3 ⟨hb3, a3, n3, c3, er3, rfl, h3⟩
  have hb13 := hb12.trans (hb3.mono hsw)
  have hs3 := hb13.size
  have ha3 := HA.out.below (Nat.le_refl _) hb13
  clear ha2 hb12
  go_wp2_with fail
  refine (several_then n f _ _ _ _ _ _ ha3 HE.out).mono ?_
  rintro e w4 ⟨hb4, a4, n4, c4, er4, rfl, h4⟩
  have hb14 := hb13.trans (hb4.mono hs3)
  have hs4 := hb14.size
  have ha4 := HA.out.below (Nat.le_refl _) hb14
  clear ha3
  go_wp2_with fail
  refine (listError_any n f _ _ _ ha4 hn).mono ?_
  rintro e w5 ⟨rfl, rfl⟩
  rw [HE.out]
  go_wp2_with fail
  refine (h3 _ hb4).mono ?_
  rintro e w6 ⟨rfl, hb6⟩
  have hb16 := hb14.trans (hb6.mono hs4)
  clear h3 hb14 ha4
  go_wp2_with fail
  refine (h4 _ hb6).mono ?_
  rintro e w7 ⟨rfl, rfl⟩
  go_wp2_with fail
  go_ret
  exact ⟨rfl, hb16⟩
end Go.Proofs.Ytpbnkkeplhgepaa.PO
