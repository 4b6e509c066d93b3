
/-
  scale.Place, scale.Marks and the reference's Near.
-/
import Derived.Test.YtpbnkkeplhgepaaScaleCheck
import Derived.Test.YtpbnkkeplhgepaaOwn
namespace Go.Proofs.Ytpbnkkeplhgepaa.SP
open Go.RowKit Go.Law Go.Law.Scale SF
set_option linter.unusedVariables false
set_option linter.unusedSimpArgs false
set_option maxRecDepth 100000

theorem chk_zero {lo hi st : Int} (h : chk lo hi st = 0) : InR lo hi st ∧ lo < hi ∧ (hi - lo) % st = 0 ∧ lo / st * st = lo ∧ (hi - lo) / st ≤ 500 := by
  unfold chk at h
  by_cases c1 : InR lo hi st
  · rw [if_neg (by simpa using c1)] at h
    by_cases c2 : hi ≤ lo
    · rw [if_pos c2] at h; omega
    · rw [if_neg c2] at h
      by_cases c3 : (hi - lo) % st ≠ 0 ∨ lo / st * st ≠ lo
      · rw [if_pos c3] at h; omega
      · rw [if_neg c3] at h
        by_cases c5 : 500 < (hi - lo) / st
        · rw [if_pos c5] at h; omega
        · refine ⟨c1, by omega, ?_, ?_, by omega⟩
          · exact Classical.byContradiction fun h => c3 (.inl h)
          · exact Classical.byContradiction fun h => c3 (.inr h)
  · rw [if_pos c1] at h; omega
/-- the rounded quotient -/
def near (a b : Int) : Int := (2 * a + b) / (2 * b)
theorem near_any (a b : Int) (w : World) (ha : 0 ≤ a ∧ a ≤ 900000000000000000) (hb : 1 ≤ b ∧ b ≤ 100000000000000000) :
    Calls Try.prog 23 #[.int .i64 a, .int .i64 b] w fun e w' => e = .returned (.int .i64 (near a b)) ∧ w = w' := by
  go_enter Try.func23, Try.ntmps23
  go_wp2_with fail
  refine (down_any _ _ _ (by omega) (by omega)).mono ?_
  rintro e w1 ⟨rfl, rfl⟩
  go_wp2_with fail
  go_ret
  exact ⟨rfl, rfl⟩
/-- the result of Place -/
def placeV (lo hi st value long : Int) : Value :=
  if chk lo hi st ≠ 0 then .tuple #[.int .i64 0, .int .i64 (chk lo hi st)]
  else if (0 ≤ long ∧ long ≤ 100000) ∧ lo ≤ value ∧ value ≤ hi then .tuple #[.int .i64 (near ((value - lo) * long) (hi - lo)), .int .i64 0]
  else .tuple #[.int .i64 0, .int .i64 2]
set_option maxHeartbeats 1000000 in
theorem place_any (lo hi st value long : Int) (w : World) :
    Calls Try.prog 20 #[.agg #[.int .i64 lo, .int .i64 hi, .int .i64 st], .int .i64 value, .int .i64 long] w fun e w' => e = .returned (placeV lo hi st value long) ∧ Below w.heap.size w w' := by
  by_cases k1 : chk lo hi st = 0
  · by_cases k2 : (0 ≤ long ∧ long ≤ 100000) ∧ lo ≤ value ∧ value ≤ hi
    · have HV := Lib.hid (show placeV lo hi st value long = .tuple #[.int .i64 (near ((value - lo) * long) (hi - lo)), .int .i64 0] by unfold placeV; rw [if_neg (by omega), if_pos k2])
      obtain ⟨h1, h2, _, _, _⟩ := chk_zero k1
      unfold InR at h1
      have HE := Lib.hid (show 2 * (value - lo) * long = 2 * ((value - lo) * long) from Int.mul_assoc _ _ _)
      have hp : 0 ≤ 2 * (value - lo) * long ∧ 2 * (value - lo) * long ≤ 1600000000000000000 :=
        ⟨Int.mul_nonneg (by omega) k2.1.1, Int.le_trans (Int.mul_le_mul (show 2 * (value - lo) ≤ 16000000000000 by omega) k2.1.2 k2.1.1 (by omega)) (by omega)⟩
      go_enter Try.func20, Try.ntmps20
      go_wp2_with fail
      refine (check_any _ _ _ _).mono ?_
      rintro e w1 ⟨rfl, hb1⟩
      have hs1 := hb1.size
      simp at hs1
      have z1 : w.heap.size < w1.heap.size := by omega
      have c0 : w1.cell? ⟨w.heap.size, 0, none⟩ = some (.int .i64 lo) := (hb1.cell (by simp)).trans (by simp)
      have c1 : w1.cell? ⟨w.heap.size, 1, none⟩ = some (.int .i64 hi) := (hb1.cell (by simp)).trans (by simp)
      have hbel : Below w.heap.size w w1 := ((Below.refl _ _).alloc (Nat.le_refl _) _).trans (hb1.mono (by simp))
      clear hb1
      go_wp2_with fail
      go_quiet (fail)
      go_wp2_with fail
      refine (floor_any _ _ _ (by omega) (by omega)).mono ?_
      rintro e w2 ⟨rfl, rfl⟩
      go_wp2_with fail
      go_ret2
      exact ⟨by rw [HV.out]; unfold near; rw [← HE.out]; rfl, below_drewN hbel _⟩
    · have HV := Lib.hid (show placeV lo hi st value long = .tuple #[.int .i64 0, .int .i64 2] by unfold placeV; rw [if_neg (by omega), if_neg k2])
      have H := Lib.hid k2
      clear k2
      go_enter Try.func20, Try.ntmps20
      go_wp2_with fail
      refine (check_any _ _ _ _).mono ?_
      rintro e w1 ⟨rfl, hb1⟩
      have hs1 := hb1.size
      simp at hs1
      have z1 : w.heap.size < w1.heap.size := by omega
      have c0 : w1.cell? ⟨w.heap.size, 0, none⟩ = some (.int .i64 lo) := (hb1.cell (by simp)).trans (by simp)
      have c1 : w1.cell? ⟨w.heap.size, 1, none⟩ = some (.int .i64 hi) := (hb1.cell (by simp)).trans (by simp)
      have hbel : Below w.heap.size w w1 := ((Below.refl _ _).alloc (Nat.le_refl _) _).trans (hb1.mono (by simp))
      clear hb1
      go_wp2_with fail
      all_goals first | (exfalso; have := H.out; omega) | skip
      all_goals
        go_ret2
        exact ⟨by rw [HV.out]; rfl, hbel⟩
  · have HV := Lib.hid (show placeV lo hi st value long = .tuple #[.int .i64 0, .int .i64 (chk lo hi st)] by unfold placeV; rw [if_pos k1])
    have k1' : (chk lo hi st != 0) = true := by simpa using k1
    clear k1
    go_enter Try.func20, Try.ntmps20
    go_wp2_with fail
    refine (check_any _ _ _ _).mono ?_
    rintro e w1 ⟨rfl, hb1⟩
    have hs1 := hb1.size
    simp at hs1
    have z1 : w.heap.size < w1.heap.size := by omega
    have c0 : w1.cell? ⟨w.heap.size, 0, none⟩ = some (.int .i64 lo) := (hb1.cell (by simp)).trans (by simp)
    have c1 : w1.cell? ⟨w.heap.size, 1, none⟩ = some (.int .i64 hi) := (hb1.cell (by simp)).trans (by simp)
    have hbel : Below w.heap.size w w1 := ((Below.refl _ _).alloc (Nat.le_refl _) _).trans (hb1.mono (by simp))
    clear hb1
    go_wp2_with fail
    go_ret2
    exact ⟨by rw [HV.out]; rfl, hbel⟩
theorem marks_bad (lo hi st : Int) (w : World) (k1 : chk lo hi st ≠ 0) :
    Calls Try.prog 21 #[.agg #[.int .i64 lo, .int .i64 hi, .int .i64 st]] w fun e w' => e = .returned (.tuple #[.slice none 0 0, .int .i64 (chk lo hi st)]) ∧ Below w.heap.size w w' := by
  have k1' : (chk lo hi st != 0) = true := by simpa using k1
  clear k1
  go_enter Try.func21, Try.ntmps21
  go_wp2_with fail
  refine (check_any _ _ _ _).mono ?_
  rintro e w1 ⟨rfl, hb1⟩
  go_wp2_with fail
  go_ret2
  exact ⟨rfl, ((Below.refl _ _).alloc (Nat.le_refl _) _).trans (hb1.mono (by simp))⟩
def MarksPost (lo hi st : Int) (w : World) (e : Ending) (w' : World) : Prop :=
  Below w.heap.size w w' ∧ ∃ a cap, ∃ m : Nat, e = .returned (.tuple #[.slice a m cap, .int .i64 0]) ∧ (m : Int) = (hi - lo) / st + 1 ∧ IntsF w' a m (fun i => lo + (i : Int) * st)
set_option maxHeartbeats 1000000 in
theorem marks_ok (lo hi st : Int) (w : World) (k1 : chk lo hi st = 0) :
    Calls Try.prog 21 #[.agg #[.int .i64 lo, .int .i64 hi, .int .i64 st]] w (MarksPost lo hi st w) := by
  obtain ⟨h1, h2, h3, h4, h5⟩ := chk_zero k1
  unfold InR at h1
  have hq0 := Int.ediv_nonneg (show 0 ≤ hi - lo by omega) (show 0 ≤ st by omega)
  obtain ⟨q, hq⟩ : ∃ q : Nat, (hi - lo) / st = q := ⟨((hi - lo) / st).toNat, by omega⟩
  have hqs : (q : Int) * st = hi - lo := by
    have := Int.mul_ediv_add_emod (hi - lo) st
    rw [h3, hq, Int.mul_comm] at this; omega
  have HQ := Lib.hid hq
  have HS := Lib.hid hqs
  have hq5 : q ≤ 500 := by omega
  clear h3 h4 h5 hq0 hq hqs
  obtain ⟨i0, hi0, hz0, hz1, hz2⟩ := info_parts (show (Try.prog.info? 3).map (fun i => (i.zero, i.size, i.bytes)) = some (some (.int .i64 0), 1, 8) by kernel_rfl)
  go_enter Try.func21, Try.ntmps21
  go_wp2_with fail
  refine (check_any _ _ _ _).mono ?_
  rintro e w1 ⟨rfl, hb1⟩
  have hs1 := hb1.size
  simp at hs1
  have z1 : w.heap.size < w1.heap.size := by omega
  have c0 : w1.cell? ⟨w.heap.size, 0, none⟩ = some (.int .i64 lo) := (hb1.cell (by simp)).trans (by simp)
  have c1 : w1.cell? ⟨w.heap.size, 1, none⟩ = some (.int .i64 hi) := (hb1.cell (by simp)).trans (by simp)
  have c2 : w1.cell? ⟨w.heap.size, 2, none⟩ = some (.int .i64 st) := (hb1.cell (by simp)).trans (by simp)
  have hbel : Below w.heap.size w w1 := ((Below.refl _ _).alloc (Nat.le_refl _) _).trans (hb1.mono (by simp))
  clear hb1
  go_wp2_with fail
  go_loopw [5, 6] (fun v x wr => ∃ k : Nat, x = .int .i64 (lo + (k : Int) * st) ∧ k ≤ q + 1 ∧ wr.ownsRow w1.heap.size 3 1 v k ((List.range k).map fun (i : Nat) => Value.int .i64 (lo + (i : Int) * st)) ∧ Below w1.heap.size w1 wr) (fun _ x _ => (hi + 1 - intOf x).toNat + 0)
  case atStart => exact ⟨0, by go_num, by omega, World.ownsRow_nil _ _ _ _, Below.refl _ _⟩
  case round =>
    obtain ⟨k, rfl, hk, hown, hb2⟩ := hrel
    have d0 : wr.cell? ⟨w.heap.size, 0, none⟩ = some (.int .i64 lo) := (hb2.cell (by exact z1)).trans c0
    have d1 : wr.cell? ⟨w.heap.size, 1, none⟩ = some (.int .i64 hi) := (hb2.cell (by exact z1)).trans c1
    have d2 : wr.cell? ⟨w.heap.size, 2, none⟩ = some (.int .i64 st) := (hb2.cell (by exact z1)).trans c2
    have hsz := hb2.size
    have z2 : w.heap.size < wr.heap.size := by omega
    obtain ⟨x, hx⟩ : ∃ x, lo + (k : Int) * st = x := ⟨_, rfl⟩
    rw [hx]
    clear c0 c1 c2
    by_cases hkq : k ≤ q
    · have hle : (k : Int) * st ≤ (q : Int) * st := Int.mul_le_mul_of_nonneg_right (by omega) (by omega)
      have hge : 0 ≤ (k : Int) * st := Int.mul_nonneg (by omega) (by omega)
      have hxh : x ≤ hi := by have := HS.out; omega
      have hxl : lo ≤ x := by omega
      have HX := Lib.hid hx
      have HN := Lib.hid (show lo + ((k + 1 : Nat) : Int) * st = x + st by rw [← hx]; have : ((k + 1 : Nat) : Int) = (k : Int) + 1 := by omega
                                                                           rw [this, Int.add_mul, Int.one_mul]; omega)
      clear hx hle hge
      go_wp2_with (at_builtin; refine wpList_append_own _ rfl _ _ 34 rfl (w1.heap.size) 3 i0 (.int .i64 0) 1 8 Try.underlying34 hi0 hz0 hz1 hz2 rfl (by decide) _ _ _ rfl ((hown).alloc _) ⟨wr.heap.size, 0, none⟩ 1 1 [.int .i64 x] rfl rfl ?c1 ?c2 ?c3 ?c4 ?c5 ?_)
      case c1 =>
        intro j u hj
        match j, hj with
        | 0, hj => simp at hj; subst hj; simp [Addr.add]
      case c2 => intro u hu; simp at hu; subst hu; rfl
      case c3 => unfold maxLen; omega
      case c4 => omega
      case c5 => simp; omega
      intro v' w2 hown' hgrow _
      have hb3 := below_grown hb2 hsz hown hgrow
      have e2 : w2.cell? ⟨w.heap.size, 2, none⟩ = some (.int .i64 st) := by
        rw [← d2, hb2.cell (by exact z1), hb3.cell (by exact z1)]
      have z3 : w.heap.size < w2.heap.size := by have := hb3.size; omega
      clear hown d0 d1 d2 hgrow
      go_wp2
      go_roundw
      case rel => exact ⟨k + 1, by rw [HN.out], by omega, by rw [List.range_succ, List.map_append]; simp only [List.map_cons, List.map_nil]; rw [HX.out]; exact hown', hb3⟩
      case measure => simp [intOf]; omega
    · have hkq' : k = q + 1 := by omega
      have hxh : hi < x := by
        have h6 : (k : Int) * st = (q : Int) * st + st := by rw [hkq']; have : ((q + 1 : Nat) : Int) = (q : Int) + 1 := by omega
                                                             rw [this, Int.add_mul, Int.one_mul]
        have := HS.out
        omega
      clear hx
      obtain ⟨g, cap, rfl, hg, hnc, hcm, hown0⟩ := OwnF.of_row (f := fun i => lo + (i : Int) * st) hown (fun i hi => by simp [hi]) (by omega)
      clear hown
      go_wp2
      go_ret2
      exact ⟨hbel.trans (hb2.mono (by omega)), _, _, k, rfl, by have := HQ.out; omega, hown0.ints⟩
end Go.Proofs.Ytpbnkkeplhgepaa.SP
