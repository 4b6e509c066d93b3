
/-
  printing.check, listError and printing.Order.
-/
import Derived.Test.YtpbnkkeplhgepaaMake
import Derived.Test.YtpbnkkeplhgepaaIn
namespace Go.Proofs.Ytpbnkkeplhgepaa.PO
open Go.RowKit Go.Law Ref
set_option linter.unusedVariables false
set_option linter.unusedSimpArgs false
set_option maxRecDepth 100000
def okL (n : Nat) (f : Nat → Int) : Prop := ∀ i, i < n → 0 ≤ f i ∧ f i ≤ 10000
open Classical in
/-- the error of a list of pages -/
noncomputable def listE (n : Nat) (f : Nat → Int) : Int := if 10000 < n then 3 else if okL n f then 0 else 2
theorem listE_large {n : Nat} {f : Nat → Int} (h : 10000 < n) : listE n f = 3 := by unfold listE; rw [if_pos h]
theorem listE_ok {n : Nat} {f : Nat → Int} (h : n ≤ 10000) (k : okL n f) : listE n f = 0 := by unfold listE; rw [if_neg (by omega), if_pos k]
theorem listE_bad {n : Nat} {f : Nat → Int} (h : n ≤ 10000) (k : ¬ okL n f) : listE n f = 2 := by unfold listE; rw [if_neg (by omega), if_neg k]
set_option maxHeartbeats 1000000 in
theorem check_any (n : Nat) (f : Nat → Int) (a : Option Addr) (c : Nat) (w : World) (ha : IntsF w a n f) (hb : n ≤ 1000000000000000000) :
    Calls Try.prog 46 #[.slice a n c] w fun e w' => e = .returned (.int .i64 (listE n f)) ∧ w = w' := by
  by_cases hn : 10000 < n
  · have HE := Lib.hid (listE_large (f := f) hn)
    go_enter Try.func46, Try.ntmps46
    go_wp2
    go_ret
    exact ⟨by rw [HE.out]; rfl, rfl⟩
  · go_enter Try.func46, Try.ntmps46
    go_wp2
    go_loop [10] (fun ix => ∃ k : Nat, ix = .int .i64 k ∧ k ≤ n ∧ ∀ j, j < k → 0 ≤ f j ∧ f j ≤ 10000) (fun ix => n - (intOf ix).toNat)
    case atStart => exact ⟨0, rfl, by omega, fun j hj => by omega⟩
    case round =>
      obtain ⟨k, rfl, hk, hall⟩ := hrel
      have HA := Lib.hid hall
      clear hall
      by_cases hkn : k < n
      · obtain ⟨b, off, rfl, hc⟩ := ha (by omega)
        have d1 := hc k hkn
        clear hc
        by_cases hr : 0 ≤ f k ∧ f k ≤ 10000
        · have dd : decide (0 ≤ f k ∧ f k ≤ 10000) = true := by simpa using hr
          go_wp2_with (go_at_call 14; refine (in_any _ _ _ _).mono ?_; rw [inB_true.2 hr]; rintro e w9 ⟨rfl, rfl⟩)
          go_round
          case rel => exact ⟨k + 1, by go_num, by omega, fun j hj => by rcases Nat.lt_or_ge j k with h | h; exact HA.out j h; rw [show j = k by omega]; exact hr⟩
          case measure => simp [intOf]; omega
        · have HE := Lib.hid (listE_bad (f := f) (show n ≤ 10000 by omega) (fun h => hr (h k hkn)))
          have HR := Lib.hid hr
          clear hr
          go_wp2_with (go_at_call 14; refine (in_any _ _ _ _).mono ?_; rw [inB_false.2 HR.out]; rintro e w9 ⟨rfl, rfl⟩)
          all_goals first | (exfalso; have := HR.out; omega) | skip
          all_goals
            go_ret
            exact ⟨by rw [HE.out]; rfl, rfl⟩
      · obtain rfl : k = n := by omega
        have HE := Lib.hid (listE_ok (f := f) (show k ≤ 10000 by omega) HA.out)
        go_wp2
        go_ret
        exact ⟨by rw [HE.out]; rfl, rfl⟩
set_option maxHeartbeats 1000000 in
theorem listError_any (n : Nat) (f : Nat → Int) (a : Option Addr) (c : Nat) (w : World) (ha : IntsF w a n f) (hb : n ≤ 1000000000000000000) :
    Calls Try.prog 26 #[.slice a n c] w fun e w' => e = .returned (.int .i64 (listE n f)) ∧ w = w' := by
  by_cases hn : 10000 < n
  · have HE := Lib.hid (listE_large (f := f) hn)
    go_enter Try.func26, Try.ntmps26
    go_wp2
    go_ret
    exact ⟨by rw [HE.out]; rfl, rfl⟩
  · go_enter Try.func26, Try.ntmps26
    go_wp2
    go_loop [10] (fun ix => ∃ k : Nat, ix = .int .i64 k ∧ k ≤ n ∧ ∀ j, j < k → 0 ≤ f j ∧ f j ≤ 10000) (fun ix => n - (intOf ix).toNat)
    case atStart => exact ⟨0, rfl, by omega, fun j hj => by omega⟩
    case round =>
      obtain ⟨k, rfl, hk, hall⟩ := hrel
      have HA := Lib.hid hall
      clear hall
      by_cases hkn : k < n
      · obtain ⟨b, off, rfl, hc⟩ := ha (by omega)
        have d1 := hc k hkn
        clear hc
        by_cases hr : 0 ≤ f k ∧ f k ≤ 10000
        · have dd : decide (0 ≤ f k ∧ f k ≤ 10000) = true := by simpa using hr
          go_wp2_with (go_at_call 14; refine (in_any _ _ _ _).mono ?_; rw [inB_true.2 hr]; rintro e w9 ⟨rfl, rfl⟩)
          go_round
          case rel => exact ⟨k + 1, by go_num, by omega, fun j hj => by rcases Nat.lt_or_ge j k with h | h; exact HA.out j h; rw [show j = k by omega]; exact hr⟩
          case measure => simp [intOf]; omega
        · have HE := Lib.hid (listE_bad (f := f) (show n ≤ 10000 by omega) (fun h => hr (h k hkn)))
          have HR := Lib.hid hr
          clear hr
          go_wp2_with (go_at_call 14; refine (in_any _ _ _ _).mono ?_; rw [inB_false.2 HR.out]; rintro e w9 ⟨rfl, rfl⟩)
          all_goals first | (exfalso; have := HR.out; omega) | skip
          all_goals
            go_ret
            exact ⟨by rw [HE.out]; rfl, rfl⟩
      · obtain rfl : k = n := by omega
        have HE := Lib.hid (listE_ok (f := f) (show k ≤ 10000 by omega) HA.out)
        go_wp2
        go_ret
        exact ⟨by rw [HE.out]; rfl, rfl⟩
/-- where the page at place j of the printed order stands in the list -/
def srcO (n cp : Nat) (co ba : Bool) (j : Nat) : Nat := if co then (if ba then n * cp - 1 - j else j) % n else (if ba then n * cp - 1 - j else j) / cp
def ordF (n cp : Nat) (co ba : Bool) (f : Nat → Int) : Nat → Int := fun j => f (srcO n cp co ba j)
theorem order_bad (n : Nat) (f : Nat → Int) (a : Option Addr) (c : Nat) (copies : Int) (co ba : Bool) (w : World) (ha : IntsF w a n f) (hb : n ≤ 1000000000000000000) (he : listE n f ≠ 0) :
    Calls Try.prog 24 #[.slice a n c, .int .i64 copies, .bool co, .bool ba] w fun e w' => e = .returned (.tuple #[.slice none 0 0, .int .i64 (listE n f)]) ∧ w = w' := by
  have he' : (listE n f != 0) = true := by simpa using he
  clear he
  go_enter Try.func24, Try.ntmps24
  go_wp2_with fail
  refine (check_any n f _ _ _ ha hb).mono ?_
  rintro e w1 ⟨rfl, rfl⟩
  go_wp2_with fail
  go_ret2
  exact ⟨rfl, rfl⟩
theorem order_range (n : Nat) (f : Nat → Int) (a : Option Addr) (c : Nat) (copies : Int) (co ba : Bool) (w : World) (ha : IntsF w a n f) (hb : n ≤ 1000000000000000000) (he : listE n f = 0) (hc : ¬ (1 ≤ copies ∧ copies ≤ 999)) :
    Calls Try.prog 24 #[.slice a n c, .int .i64 copies, .bool co, .bool ba] w fun e w' => e = .returned (.tuple #[.slice none 0 0, .int .i64 2]) ∧ w = w' := by
  have HC := Lib.hid hc
  clear hc
  go_enter Try.func24, Try.ntmps24
  go_wp2_with fail
  refine (check_any n f _ _ _ ha hb).mono ?_
  rintro e w1 ⟨rfl, rfl⟩
  go_wp2_with fail
  all_goals first | (exfalso; have := HC.out; omega) | skip
  all_goals
    go_ret2
    exact ⟨rfl, rfl⟩
theorem order_over (n cp N : Nat) (f : Nat → Int) (a : Option Addr) (c : Nat) (co ba : Bool) (w : World) (ha : IntsF w a n f) (he : listE n f = 0) (hc : 1 ≤ cp ∧ cp ≤ 999) (hn : n ≤ 10000) (hN : (n : Int) * (cp : Int) = (N : Int)) (ho : 10000 < N) :
    Calls Try.prog 24 #[.slice a n c, .int .i64 (cp : Int), .bool co, .bool ba] w fun e w' => e = .returned (.tuple #[.slice none 0 0, .int .i64 19]) ∧ w = w' := by
  have hNb : (N : Int) ≤ 9990000 := by rw [← hN]; exact Int.le_trans (Int.mul_le_mul (show (n : Int) ≤ 10000 by omega) (show (cp : Int) ≤ 999 by omega) (by omega) (by omega)) (by omega)
  go_enter Try.func24, Try.ntmps24
  go_wp2_with fail
  refine (check_any n f _ _ _ ha (by omega)).mono ?_
  rintro e w1 ⟨rfl, rfl⟩
  go_wp2_with fail
  go_ret2
  exact ⟨rfl, rfl⟩
/-- the step of the loop at which place j is filled -/
def idxO (N : Nat) (ba : Bool) (j : Nat) : Nat := if ba then N - 1 - j else j
theorem ord_step (N k j i n cp : Nat) (co ba : Bool) (f : Nat → Int) (hjN : j < N) (hj : idxO N ba j = k) (hs : srcO n cp co ba j = i) :
    ∀ x, x < N → upd (fun j => if idxO N ba j < k then ordF n cp co ba f j else 0) j (f i) x = if idxO N ba x < k + 1 then ordF n cp co ba f x else 0 := by
  intro x hx
  unfold upd
  by_cases h : x = j
  · subst h
    rw [if_pos rfl, hj, if_pos (by omega)]
    unfold ordF
    rw [hs]
  · rw [if_neg h]
    have hne : idxO N ba x ≠ k := by
      intro hh
      apply h
      unfold idxO at hh hj
      cases ba
      · simp at hh hj; omega
      · simp at hh hj
        omega
    by_cases h' : idxO N ba x < k
    · simp only [if_pos h', if_pos (show idxO N ba x < k + 1 by omega)]
    · simp only [if_neg h', if_neg (show ¬ idxO N ba x < k + 1 by omega)]
def OrderPost (n cp N : Nat) (co ba : Bool) (f : Nat → Int) (w : World) (e : Ending) (w' : World) : Prop :=
  Below w.heap.size w w' ∧ ∃ g, e = .returned (.tuple #[.slice (some ⟨g, 0, none⟩) N N, .int .i64 0]) ∧ w.heap.size ≤ g ∧ OwnF w' 3 g N (ordF n cp co ba f)
set_option maxHeartbeats 4000000 in
theorem order_ok (n cp N : Nat) (f : Nat → Int) (a : Option Addr) (c : Nat) (co ba : Bool) (w : World) (ha : IntsF w a n f) (he : listE n f = 0) (hc : 1 ≤ cp ∧ cp ≤ 999) (hn : n ≤ 10000) (hN : (n : Int) * (cp : Int) = (N : Int)) (ho : N ≤ 10000) :
    Calls Try.prog 24 #[.slice a n c, .int .i64 (cp : Int), .bool co, .bool ba] w (OrderPost n cp N co ba f w) := by
  have hmk := make_ints N (by omega)
  have HN := Lib.hid hN
  go_enter Try.func24, Try.ntmps24
  go_wp2_with fail
  refine (check_any n f _ _ _ ha (by omega)).mono ?_
  rintro e w1 ⟨rfl, rfl⟩
  go_wp2_with fail
  go_loopw [38] (fun ix wr => ∃ k : Nat, ix = .int .i64 k ∧ k ≤ N ∧ OwnF wr 3 w.heap.size N (fun j => if idxO N ba j < k then ordF n cp co ba f j else 0) ∧ Below w.heap.size w wr) (fun ix _ => N - (intOf ix).toNat)
  case atStart => exact ⟨0, rfl, by omega, (OwnF.make 3 N).congr fun i hi => by simp, (Below.refl _ _).alloc (Nat.le_refl _) _⟩
  case round =>
    obtain ⟨k, rfl, hk, hown, hbel⟩ := hrel
    by_cases hkN : k < N
    · have hn0 : 0 < n := by
        rcases Nat.eq_zero_or_pos n with h | h
        · have := HN.out; rw [h] at this; omega
        · exact h
      obtain ⟨b, off, rfl, hcell⟩ := ha hn0
      obtain ⟨i, hi⟩ : ∃ i : Nat, (k : Int) / (cp : Int) = (i : Int) := ⟨k / cp, by simp⟩
      obtain ⟨i2, hi2⟩ : ∃ i : Nat, (k : Int) % (n : Int) = (i : Int) := ⟨k % n, by simp⟩
      have hik : i = k / cp := by have : ((k / cp : Nat) : Int) = (i : Int) := by rw [← hi]; simp
                                  omega
      have hik2 : i2 = k % n := by have : ((k % n : Nat) : Int) = (i2 : Int) := by rw [← hi2]; simp
                                   omega
      have hin : i < n := by rw [hik]; exact Nat.div_lt_of_lt_mul (by rw [Nat.mul_comm]; have := HN.out; have e : n * cp = N := by exact_mod_cast this
                                                                      omega)
      have hin2 : i2 < n := by rw [hik2]; exact Nat.mod_lt _ hn0
      obtain ⟨j, hj⟩ : ∃ j : Nat, j + k + 1 = N := ⟨N - 1 - k, by omega⟩
      have hj' : (N : Int) - 1 - (k : Int) = (j : Int) := by omega
      have hjN : j < N := by omega
      have c1 := (hbel.cell (lt_of_cell (hcell i hin))).trans (hcell i hin)
      have c2 := (hbel.cell (lt_of_cell (hcell i2 hin2))).trans (hcell i2 hin2)
      have f1 := hown.frozen k
      have f2 := hown.frozen j
      have o1 := hown.cell hkN
      have o2 := hown.cell hjN
      have HI := Lib.hid hik
      have HI2 := Lib.hid hik2
      have HJ := Lib.hid hj
      have HO := Lib.hid hown
      clear hcell hik hik2 hj hown
      obtain ⟨y1, hy1⟩ : ∃ y, y = (if idxO N ba k < k then ordF n cp co ba f k else 0) := ⟨_, rfl⟩
      obtain ⟨y2, hy2⟩ : ∃ y, y = (if idxO N ba j < k then ordF n cp co ba f j else 0) := ⟨_, rfl⟩
      rw [← hy1] at o1
      rw [← hy2] at o2
      clear hy1 hy2
      have HE := Lib.hid (show n * cp = N by have h2 := HN.out; exact_mod_cast h2)
      cases co
      · cases ba
        · have HS := Lib.hid (show srcO n cp false false k = i by
            have h1 := HJ.out
            have h2 := HE.out
            have h3 : n * cp - 1 - j = k := by omega
            simp [srcO, HI.out, HI2.out, h3])
          have HX := Lib.hid (show idxO N false k = k by
            have h1 := HJ.out
            simp [idxO]
            try omega)
          go_wp2
          go_roundw
          case rel => exact ⟨k + 1, by go_num, by omega, (HO.out.set k (f i)).congr (ord_step N k k i n cp false false f (by omega) HX.out HS.out), hbel.setCell (Nat.le_refl _) _⟩
          case measure => simp [intOf]; omega
        · have HS := Lib.hid (show srcO n cp false true j = i by
            have h1 := HJ.out
            have h2 := HE.out
            have h3 : n * cp - 1 - j = k := by omega
            simp [srcO, HI.out, HI2.out, h3])
          have HX := Lib.hid (show idxO N true j = k by
            have h1 := HJ.out
            simp [idxO]
            try omega)
          go_wp2
          go_roundw
          case rel => exact ⟨k + 1, by go_num, by omega, (HO.out.set j (f i)).congr (ord_step N k j i n cp false true f (by omega) HX.out HS.out), hbel.setCell (Nat.le_refl _) _⟩
          case measure => simp [intOf]; omega
      · cases ba
        · have HS := Lib.hid (show srcO n cp true false k = i2 by
            have h1 := HJ.out
            have h2 := HE.out
            have h3 : n * cp - 1 - j = k := by omega
            simp [srcO, HI.out, HI2.out, h3])
          have HX := Lib.hid (show idxO N false k = k by
            have h1 := HJ.out
            simp [idxO]
            try omega)
          go_wp2
          go_roundw
          case rel => exact ⟨k + 1, by go_num, by omega, (HO.out.set k (f i2)).congr (ord_step N k k i2 n cp true false f (by omega) HX.out HS.out), hbel.setCell (Nat.le_refl _) _⟩
          case measure => simp [intOf]; omega
        · have HS := Lib.hid (show srcO n cp true true j = i2 by
            have h1 := HJ.out
            have h2 := HE.out
            have h3 : n * cp - 1 - j = k := by omega
            simp [srcO, HI.out, HI2.out, h3])
          have HX := Lib.hid (show idxO N true j = k by
            have h1 := HJ.out
            simp [idxO]
            try omega)
          go_wp2
          go_roundw
          case rel => exact ⟨k + 1, by go_num, by omega, (HO.out.set j (f i2)).congr (ord_step N k j i2 n cp true true f (by omega) HX.out HS.out), hbel.setCell (Nat.le_refl _) _⟩
          case measure => simp [intOf]; omega
    · obtain rfl : k = N := by omega
      have HO := Lib.hid hown
      clear hown
      go_wp2
      go_ret2
      refine ⟨hbel, _, rfl, Nat.le_refl _, HO.out.congr fun i hi => ?_⟩
      rw [if_pos]
      unfold idxO
      split <;> omega
end Go.Proofs.Ytpbnkkeplhgepaa.PO
