/-
  Turns of points: quotients that are rounded, sines.
-/
import Derived.Test.YtabnohphgegflaaDoorCommon
namespace Go.Law.Sh
open Go.RowKit
theorem wrap_in {x : Int} (h : -9223372036854775808 ≤ x ∧ x ≤ 9223372036854775807) : wrap64 x = x := by
  have := IntWalk.i64_in x h
  rwa [IntWalk.i64_left] at this
theorem wrap_range (x : Int) : -9223372036854775808 ≤ wrap64 x ∧ wrap64 x ≤ 9223372036854775807 := by unfold wrap64; omega
def In64 (x : Int) : Prop := -9223372036854775808 ≤ x ∧ x ≤ 9223372036854775807
theorem tmod_le {a c : Int} (h : 0 ≤ a) (hc : 0 < c) : a.tmod c ≤ a := by
  rw [Int.tmod_eq_emod_of_nonneg h, Int.emod_def]
  have := Int.mul_nonneg (Int.le_of_lt hc) (Int.ediv_nonneg h (Int.le_of_lt hc))
  omega
/-- the quotient that is rounded down, of a number in the range of an int -/
theorem quot {x c : Int} (hx : In64 x) (hc : 2 ≤ c ∧ c ≤ 4294967296) :
    (-4611686018427387904 ≤ x / c ∧ x / c ≤ 4611686018427387904) ∧ (x.tmod c < 0 → x.tdiv c = x / c + 1) ∧ (0 ≤ x.tmod c → x.tdiv c = x / c) ∧ (wrap64 (x.tdiv c) = x.tdiv c) ∧ wrap64 (x.tdiv c * c) = x - x.tmod c := by
  unfold In64 at hx
  have hc0 : 0 < c := by omega
  have l1 : -4611686018427387904 ≤ x / c := Int.le_ediv_of_mul_le hc0 (by omega)
  have l2 : x / c ≤ 4611686018427387904 := Int.ediv_le_of_le_mul hc0 (by omega)
  have e : c * x.tdiv c + x.tmod c = x := Int.mul_tdiv_add_tmod x c
  have r1 : x.tmod c < c := Int.tmod_lt_of_pos x hc0
  have r2 : -c < x.tmod c := by
    have := Int.lt_tmod_of_pos x hc0
    omega
  have a1 : x.tmod c < 0 → x.tdiv c = x / c + 1 := by
    intro h
    have := ((Int.ediv_emod_unique (a := x) (b := c) (r := c + x.tmod c) (q := x.tdiv c - 1) hc0).2 ⟨by rw [Int.mul_sub]; omega, by omega, by omega⟩).1
    omega
  have a2 : 0 ≤ x.tmod c → x.tdiv c = x / c := by
    intro h
    exact ((Int.ediv_emod_unique (a := x) (b := c) (r := x.tmod c) (q := x.tdiv c) hc0).2 ⟨by omega, by omega, by omega⟩).1.symm
  refine ⟨⟨l1, l2⟩, a1, a2, ?_, ?_⟩
  · apply wrap_in
    rcases Int.lt_or_le (x.tmod c) 0 with h | h
    · rw [a1 h]; omega
    · rw [a2 h]; omega
  · rw [Int.mul_comm, show c * x.tdiv c = x - x.tmod c by omega]
    apply wrap_in
    rcases Int.lt_or_le x 0 with h | h
    · have : x.tmod c ≤ 0 := by
        have := Int.tmod_nonneg (a := -x) c (by omega)
        rw [Int.neg_tmod] at this
        omega
      have h2 : x ≤ x.tmod c := by
        have := tmod_le (a := -x) (c := c) (by omega) hc0
        rw [Int.neg_tmod] at this
        omega
      omega
    · have := Int.tmod_nonneg c h
      have h2 : x.tmod c ≤ x := tmod_le h hc0
      omega
/-- a quotient, rounded half up -/
def rnd (a b : Int) : Int := wrap64 (wrap64 (2 * a) + b) / (b * 2)

def sinT : List Int := [0, 1144, 2287, 3430, 4572, 5712, 6850, 7987, 9121, 10252, 11380, 12505, 13626, 14742, 15855, 16962, 18064, 19161, 20252, 21336, 22415, 23486, 24550, 25607, 26656, 27697, 28729, 29753, 30767, 31772,
  32768, 33754, 34729, 35693, 36647, 37590, 38521, 39441, 40348, 41243, 42126, 42995, 43852, 44695, 45525, 46341, 47143, 47930, 48703, 49461, 50203, 50931, 51643, 52339, 53020, 53684, 54332, 54963, 55578, 56175,
  56756, 57319, 57865, 58393, 58903, 59396, 59870, 60326, 60764, 61183, 61584, 61966, 62328, 62672, 62997, 63303, 63589, 63856, 64104, 64332, 64540, 64729, 64898, 65048, 65177, 65287, 65376, 65446, 65496, 65526, 65536]
def sinA (i : Int) : Int := sinT.getD i.toNat 0
theorem sinA_range (i : Int) : 0 ≤ sinA i ∧ sinA i ≤ 65536 := by
  unfold sinA
  have h : ∀ k, k < 91 → 0 ≤ sinT.getD k 0 ∧ sinT.getD k 0 ≤ 65536 := by decide +kernel
  rcases Nat.lt_or_ge i.toNat 91 with h1 | h1
  · exact h _ h1
  · rw [List.getD_eq_getElem?_getD, List.getElem?_eq_none (show sinT.length ≤ _ from h1)]; decide
/-- the sine of tenths of a degree from 0 to 900 -/
def sin0 (t : Int) : Int := if t % 10 = 0 then sinA (t / 10) else (sinA (t / 10) * (10 - t % 10) + sinA (t / 10 + 1) * (t % 10) + 5) / 10
theorem sin0_range {t : Int} : 0 ≤ sin0 t ∧ sin0 t ≤ 65537 := by
  have h1 := sinA_range (t / 10)
  have h2 := sinA_range (t / 10 + 1)
  unfold sin0
  split
  · omega
  · have hr : 0 ≤ t % 10 ∧ t % 10 < 10 := by omega
    generalize t % 10 = r at *
    have a1 : 0 ≤ sinA (t / 10) * (10 - r) := Int.mul_nonneg h1.1 (by omega)
    have a2 : sinA (t / 10) * (10 - r) ≤ 65536 * (10 - r) := Int.mul_le_mul_of_nonneg_right h1.2 (by omega)
    have b1 : 0 ≤ sinA (t / 10 + 1) * r := Int.mul_nonneg h2.1 (by omega)
    have b2 : sinA (t / 10 + 1) * r ≤ 65536 * r := Int.mul_le_mul_of_nonneg_right h2.2 (by omega)
    omega
def sin (t : Int) : Int :=
  let u := t % 3600
  if 2700 < u then - sin0 (3600 - u) else if 1800 < u then - sin0 (u - 1800) else if 900 < u then sin0 (1800 - u) else sin0 u
theorem sin0_zero : sin0 0 = 0 := by decide
/-- the turn of a point around one that is given twice as large -/
def turnX (x y cx cy t : Int) : Int :=
  rnd (wrap64 (wrap64 (wrap64 (cx * 65536) + wrap64 (wrap64 (wrap64 (2 * x) - cx) * sin (t + 900))) - wrap64 (wrap64 (wrap64 (2 * y) - cy) * sin t))) 131072
def turnY (x y cx cy t : Int) : Int :=
  rnd (wrap64 (wrap64 (wrap64 (cy * 65536) + wrap64 (wrap64 (wrap64 (2 * x) - cx) * sin t)) + wrap64 (wrap64 (wrap64 (2 * y) - cy) * sin (t + 900)))) 131072
end Go.Law.Sh
