
/-
  balance.share and the reference's portions: the same parts.
-/
import Derived.Test.YtpbnkkeplhgepaaBalColumns
import Derived.StillTailTactics
namespace Go.Proofs.Ytpbnkkeplhgepaa.BA
open Go.RowKit Go.Law Go.Law.Bal Ref
set_option linter.unusedVariables false
set_option linter.unusedSimpArgs false
set_option maxRecDepth 100000
/-- the parts of a number -/
def portF (x : Int) (f : Nat → Int) (m : Nat) : Nat → Int := fun i =>
  if sumB f m = 0 then giveF (fun _ => 0) 0 m x i else x * sumB f (i + 1) / sumB f m - x * sumB f i / sumB f m
/-- the first k of them are laid -/
def portK (x : Int) (f : Nat → Int) (m k : Nat) : Nat → Int := fun i => if i < k then x * sumB f (i + 1) / sumB f m - x * sumB f i / sumB f m else 0
theorem portK_zero (x : Int) (f : Nat → Int) (m : Nat) : portK x f m 0 = fun _ => 0 := by funext j; unfold portK; rw [if_neg (by omega)]
theorem portK_step (x : Int) (f : Nat → Int) (m k : Nat) : portK x f m (k + 1) = upd (portK x f m k) k (x * sumB f (k + 1) / sumB f m - x * sumB f k / sumB f m) := by
  funext j
  unfold upd portK
  by_cases h1 : j = k
  · subst h1
    rw [if_pos (by omega), if_pos rfl]
  · rw [if_neg h1]
    by_cases h2 : j < k
    · rw [if_pos h2, if_pos (by omega)]
    · rw [if_neg h2, if_neg (by omega)]
theorem portK_end {x : Int} {f : Nat → Int} {m : Nat} (h : sumB f m ≠ 0) {j : Nat} (hj : j < m) : portK x f m m j = portF x f m j := by
  unfold portK portF; rw [if_pos hj, if_neg h]
theorem portF_zero {x : Int} {f : Nat → Int} {m : Nat} (h : sumB f m = 0) (j : Nat) : portF x f m j = giveF (fun _ => 0) 0 m x j := by
  unfold portF; rw [if_pos h]
theorem sumB_mono {f : Nat → Int} {m k : Nat} (h : ∀ i, i < m → 0 ≤ f i) (hk : k ≤ m) : sumB f k ≤ sumB f m := by
  induction m with
  | zero => obtain rfl : k = 0 := by omega
            exact Int.le_refl _
  | succ m ih =>
    by_cases h1 : k = m + 1
    · rw [h1]; exact Int.le_refl _
    · have h2 := ih (fun i hi => h i (by omega)) (by omega)
      have h3 := h m (by omega)
      simp only [sumB]; omega
def SharePost (x : Int) (f : Nat → Int) (m : Nat) (w : World) (e : Ending) (w' : World) : Prop :=
  Below w.heap.size w w' ∧ ∃ g, e = .returned (.slice (some ⟨g, 0, none⟩) m m) ∧ w.heap.size ≤ g ∧ OwnF w' 3 g m (portF x f m)
-- the numbers of a round
set_option maxHeartbeats 8000000 in
theorem share_any (x : Int) (m : Nat) (f : Nat → Int) (a : Option Addr) (c : Nat) (w : World) (ha : IntsF w a m f) (hm : 1 ≤ m ∧ m ≤ 64) (hx : 0 ≤ x ∧ x ≤ 31680) (hbd : ∀ i, i < m → 0 ≤ f i ∧ f i ≤ 31680) :
    Calls Try.prog 57 #[.int .i64 x, .slice a m c] w (SharePost x f m w) := by
  have HA := Lib.hid ha
  have HBD := Lib.hid hbd
  have hmk := make_ints m (by omega)
  have htot := fun (k : Nat) (hk : k ≤ m) (c : Nat) (wx : World) (hb : Below w.heap.size w wx) => sum_any k f a c wx (fun h0 => by obtain ⟨b, off, h1, h2⟩ := (ha.below (Nat.le_refl _) hb) (by omega); exact ⟨b, off, h1, fun i hi => h2 i (by omega)⟩) (by omega) (fun j hj => by have := hbd j (by omega); omega)
  have HTOT := Lib.hid htot
  have hS0 := sumB_nonneg (f := f) (s := m) (fun i hi => (hbd i hi).1)
  have hS1 := (sumB_bd hbd).2
  obtain ⟨S, hS⟩ : ∃ S, S = sumB f m := ⟨_, rfl⟩
  rw [← hS] at hS0 hS1
  have HS := Lib.hid hS
  clear ha hbd htot hS
  go_enter Try.func57, Try.ntmps57
  go_wp2_with fail
  refine (HTOT.out m (Nat.le_refl _) c _ ((Below.refl _ _).alloc (Nat.le_refl _) _)).mono ?_
  rintro e w1 ⟨rfl, rfl⟩
  rw [← HS.out]
  by_cases h0 : S = 0
  · have hz : (S == 0) = true := by simpa using h0
    have HPZ := Lib.hid (fun j => portF_zero (x := x) (f := f) (m := m) (HS.out ▸ h0) j)
    clear h0
    go_wp2_with fail
    refine (spread_any w.heap.size m 0 m m (fun _ => 0) x _ (OwnF.make 3 m) (by omega) (by omega) (by omega) ⟨by omega, by omega⟩ (fun j hj => ⟨by omega, by omega⟩)).mono ?_
    rintro e w2 ⟨rfl, hO2, has2⟩
    have hbel := ((Below.refl w.heap.size w).alloc (Nat.le_refl _) (.cells (madeCells #[.int .i64 0] m) 3)).trans (has2.below (by simp) (Nat.le_refl _) (fun k hk => by simp [Value.ownBlock] at hk))
    clear has2
    go_wp2_with fail
    go_ret
    exact ⟨hbel, _, rfl, Nat.le_refl _, hO2.congr fun j hj => (HPZ.out j).symm⟩
  have hz : (S == 0) = false := by simpa using h0
  have HPE := Lib.hid (fun j (hj : j < m) => portK_end (x := x) (f := f) (m := m) (HS.out ▸ h0) hj)
  have hS2 : 0 < S := by omega
  go_wp2_with fail
  go_loopw [7, 23] (fun dv iv wr => ∃ k : Nat, iv = .int .i64 k ∧ dv = .int .i64 (sumB f k) ∧ k ≤ m ∧ OwnF wr 3 w.heap.size m (portK x f m k) ∧ Below w.heap.size w wr) (fun _ iv _ => m - (intOf iv).toNat)
  case atStart => exact ⟨0, rfl, rfl, by omega, by rw [portK_zero]; exact OwnF.make 3 m, (Below.refl _ _).alloc (Nat.le_refl _) _⟩
  case round =>
    obtain ⟨k, rfl, rfl, hk, hO, hbel⟩ := hrel
    by_cases hkm : k < m
    · obtain ⟨b, off, rfl, hcell⟩ := (HA.out.below (Nat.le_refl _) hbel) (by omega)
      have d1 := hcell k hkm
      obtain ⟨hb1, hb2⟩ := HBD.out k hkm
      have z1 := hO.frozen k
      have zc := hO.cell hkm
      have HO := Lib.hid hO
      have HBEL := Lib.hid hbel
      have hp0 := sumB_nonneg (f := f) (s := k) (fun i hi => (HBD.out i (by omega)).1)
      have hp1 := sumB_mono (f := f) (m := m) (k := k) (fun i hi => (HBD.out i hi).1) (by omega)
      have hq0 := sumB_nonneg (f := f) (s := k + 1) (fun i hi => (HBD.out i (by omega)).1)
      have hq1 := sumB_mono (f := f) (m := m) (k := k + 1) (fun i hi => (HBD.out i hi).1) (by omega)
      have hstep := portK_step x f m k
      rw [← HS.out] at hp1 hq1 hstep
      have hsum : sumB f (k + 1) = sumB f k + f k := rfl
      obtain ⟨P, hP⟩ : ∃ P, P = sumB f k := ⟨_, rfl⟩
      obtain ⟨Q, hQ⟩ : ∃ Q, Q = sumB f (k + 1) := ⟨_, rfl⟩
      rw [← hP] at hp0 hp1 hstep hsum
      rw [← hQ] at hq0 hq1 hstep hsum
      have hxp0 : 0 ≤ x * P := Int.mul_nonneg hx.1 hp0
      have hxq0 : 0 ≤ x * Q := Int.mul_nonneg hx.1 hq0
      have hxp1 : x * P ≤ 31680 * 2027520 := Int.mul_le_mul hx.2 (by omega) hp0 (by omega)
      have hxq1 : x * Q ≤ 31680 * 2027520 := Int.mul_le_mul hx.2 (by omega) hq0 (by omega)
      have hd1 := Int.ediv_nonneg hxp0 (show 0 ≤ S by omega)
      have hd2 := Int.ediv_nonneg hxq0 (show 0 ≤ S by omega)
      have hd3 := Int.ediv_le_self S hxp0
      have hd4 := Int.ediv_le_self S hxq0
      have HST := Lib.hid hstep
      have w1 : IntKind.i64.wrap Q = Q := IntWalk.i64_in _ ⟨by omega, by omega⟩
      have w2 : IntKind.i64.wrap (x * Q) = x * Q := IntWalk.i64_in _ ⟨by omega, by omega⟩
      have w3 : IntKind.i64.wrap (x * P) = x * P := IntWalk.i64_in _ ⟨by omega, by omega⟩
      have w4 : Int.tdiv (x * Q) S = x * Q / S := Int.tdiv_eq_ediv_of_nonneg hxq0
      have w5 : Int.tdiv (x * P) S = x * P / S := Int.tdiv_eq_ediv_of_nonneg hxp0
      have w6 : IntKind.i64.wrap (x * Q / S) = x * Q / S := IntWalk.i64_in _ ⟨by omega, by omega⟩
      have w7 : IntKind.i64.wrap (x * P / S) = x * P / S := IntWalk.i64_in _ ⟨by omega, by omega⟩
      have w8 : IntKind.i64.wrap (x * Q / S - x * P / S) = x * Q / S - x * P / S := IntWalk.i64_in _ ⟨by omega, by omega⟩
      rw [← hP]
      have hQP : P + f k = Q := hsum.symm
      have HQ := Lib.hid hQ
      clear hcell hO hbel hstep hsum hQ hP hmk
      go_wp2_with fail
      go_still_tail 16, (by kernel_rfl)
      change wpList _ _ _ _ _ wr.drew
      obtain ⟨we, hwe⟩ : ∃ we, we = wr.drew := ⟨_, rfl⟩
      have HWE := Lib.hid hwe
      have zc2 : we.cell? ⟨w.heap.size, k, none⟩ = some (.int .i64 (portK x f m k k)) := by rw [hwe]; exact zc
      have z2 : we.frozen? ⟨w.heap.size, k, none⟩ = false := by rw [hwe]; exact z1
      rw [← hwe]
      clear hwe z1 zc d1
      go_wp2_with fail
      go_roundw
      case rel => exact ⟨k + 1, by go_num, by rw [HQ.out], by omega, by rw [HST.out, HWE.out]; exact HO.out.drew.set k _, by rw [HWE.out]; exact HBEL.out.drew.setCell (Nat.le_refl _) _⟩
      case measure => simp [intOf]; omega
    · obtain rfl : m = k := by omega
      go_wp2_with fail
      go_ret
      exact ⟨hbel, _, rfl, Nat.le_refl _, hO.congr fun j hj => HPE.out j hj⟩
theorem still_of {P : Program} {f : FuncId} {args : Array Value} {w : World} {v : Value} (h : Calls P f args w fun e w' => e = .returned v ∧ w = w') : Calls P f args w fun e w'' => e = .returned v ∧ w'' = w :=
  h.mono fun _ _ ⟨he, hm⟩ => ⟨he, hm.symm⟩
set_option maxHeartbeats 8000000 in
theorem portions_any (x : Int) (m : Nat) (f : Nat → Int) (a : Option Addr) (c : Nat) (w : World) (ha : IntsF w a m f) (hm : 1 ≤ m ∧ m ≤ 64) (hx : 0 ≤ x ∧ x ≤ 31680) (hbd : ∀ i, i < m → 0 ≤ f i ∧ f i ≤ 31680) (hmc : m ≤ c) (hc : c ≤ maxLen) :
    Calls Try.prog 58 #[.int .i64 x, .slice a m c] w (SharePost x f m w) := by
  unfold maxLen at hc
  have HA := Lib.hid ha
  have HBD := Lib.hid hbd
  have hmk := make_ints m (by omega)
  have htot := fun (k : Nat) (hk : k ≤ m) (c : Nat) (wx : World) (hb : Below w.heap.size w wx) => total_any k f a c wx (fun h0 => by obtain ⟨b, off, h1, h2⟩ := (ha.below (Nat.le_refl _) hb) (by omega); exact ⟨b, off, h1, fun i hi => h2 i (by omega)⟩) (by omega) (fun j hj => by have := hbd j (by omega); omega)
  have HTOT := Lib.hid htot
  have hS0 := sumB_nonneg (f := f) (s := m) (fun i hi => (hbd i hi).1)
  have hS1 := (sumB_bd hbd).2
  obtain ⟨S, hS⟩ : ∃ S, S = sumB f m := ⟨_, rfl⟩
  rw [← hS] at hS0 hS1
  have HS := Lib.hid hS
  clear ha hbd htot hS
  go_enter Try.func58, Try.ntmps58
  go_wp2_with fail
  refine (HTOT.out m (Nat.le_refl _) c _ ((Below.refl _ _).alloc (Nat.le_refl _) _)).mono ?_
  rintro e w1 ⟨rfl, rfl⟩
  rw [← HS.out]
  by_cases h0 : S = 0
  · have hz : (S == 0) = true := by simpa using h0
    have HPZ := Lib.hid (fun j => portF_zero (x := x) (f := f) (m := m) (HS.out ▸ h0) j)
    clear h0
    go_wp2_with fail
    refine (deal_any w.heap.size m 0 m m (fun _ => 0) x _ (OwnF.make 3 m) (by omega) (by omega) (by omega) ⟨by omega, by omega⟩ (fun j hj => ⟨by omega, by omega⟩)).mono ?_
    rintro e w2 ⟨rfl, hO2, has2⟩
    have hbel := ((Below.refl w.heap.size w).alloc (Nat.le_refl _) (.cells (madeCells #[.int .i64 0] m) 3)).trans (has2.below (by simp) (Nat.le_refl _) (fun k hk => by simp [Value.ownBlock] at hk))
    clear has2
    go_wp2_with fail
    go_ret
    exact ⟨hbel, _, rfl, Nat.le_refl _, hO2.congr fun j hj => (HPZ.out j).symm⟩
  have hz : (S == 0) = false := by simpa using h0
  have HPE := Lib.hid (fun j (hj : j < m) => portK_end (x := x) (f := f) (m := m) (HS.out ▸ h0) hj)
  have hS2 : 0 < S := by omega
  go_wp2_with fail
  go_loopw [21] (fun iv wr => ∃ k : Nat, iv = .int .i64 k ∧ k ≤ m ∧ OwnF wr 3 w.heap.size m (portK x f m k) ∧ Below w.heap.size w wr) (fun iv _ => m - (intOf iv).toNat)
  case atStart => exact ⟨0, rfl, by omega, by rw [portK_zero]; exact OwnF.make 3 m, (Below.refl _ _).alloc (Nat.le_refl _) _⟩
  case round =>
    obtain ⟨k, rfl, hk, hO, hbel⟩ := hrel
    by_cases hkm : k < m
    · have hca := HTOT.out (k + 1) (by omega) c wr.drew hbel.drew
      have hcb := HTOT.out k (by omega) c wr.drew hbel.drew
      obtain ⟨b, off, rfl, hcell⟩ := (HA.out.below (Nat.le_refl _) hbel) (by omega)
      have z1 := hO.frozen k
      have zc := hO.cell hkm
      have HO := Lib.hid hO
      have HBEL := Lib.hid hbel
      have hp0 := sumB_nonneg (f := f) (s := k) (fun i hi => (HBD.out i (by omega)).1)
      have hp1 := sumB_mono (f := f) (m := m) (k := k) (fun i hi => (HBD.out i hi).1) (by omega)
      have hq0 := sumB_nonneg (f := f) (s := k + 1) (fun i hi => (HBD.out i (by omega)).1)
      have hq1 := sumB_mono (f := f) (m := m) (k := k + 1) (fun i hi => (HBD.out i hi).1) (by omega)
      have hstep := portK_step x f m k
      rw [← HS.out] at hp1 hq1 hstep
      have hsum : sumB f (k + 1) = sumB f k + f k := rfl
      obtain ⟨P, hP⟩ : ∃ P, P = sumB f k := ⟨_, rfl⟩
      obtain ⟨Q, hQ⟩ : ∃ Q, Q = sumB f (k + 1) := ⟨_, rfl⟩
      rw [← hP] at hp0 hp1 hstep hsum
      rw [← hQ] at hq0 hq1 hstep hsum
      have hxp0 : 0 ≤ x * P := Int.mul_nonneg hx.1 hp0
      have hxq0 : 0 ≤ x * Q := Int.mul_nonneg hx.1 hq0
      have hxp1 : x * P ≤ 31680 * 2027520 := Int.mul_le_mul hx.2 (by omega) hp0 (by omega)
      have hxq1 : x * Q ≤ 31680 * 2027520 := Int.mul_le_mul hx.2 (by omega) hq0 (by omega)
      have hd1 := Int.ediv_nonneg hxp0 (show 0 ≤ S by omega)
      have hd2 := Int.ediv_nonneg hxq0 (show 0 ≤ S by omega)
      have hd3 := Int.ediv_le_self S hxp0
      have hd4 := Int.ediv_le_self S hxq0
      have HST := Lib.hid hstep
      have w1 : IntKind.i64.wrap Q = Q := IntWalk.i64_in _ ⟨by omega, by omega⟩
      have w2 : IntKind.i64.wrap (x * Q) = x * Q := IntWalk.i64_in _ ⟨by omega, by omega⟩
      have w3 : IntKind.i64.wrap (x * P) = x * P := IntWalk.i64_in _ ⟨by omega, by omega⟩
      have w4 : Int.tdiv (x * Q) S = x * Q / S := Int.tdiv_eq_ediv_of_nonneg hxq0
      have w5 : Int.tdiv (x * P) S = x * P / S := Int.tdiv_eq_ediv_of_nonneg hxp0
      have w6 : IntKind.i64.wrap (x * Q / S) = x * Q / S := IntWalk.i64_in _ ⟨by omega, by omega⟩
      have w7 : IntKind.i64.wrap (x * P / S) = x * P / S := IntWalk.i64_in _ ⟨by omega, by omega⟩
      have w8 : IntKind.i64.wrap (x * Q / S - x * P / S) = x * Q / S - x * P / S := IntWalk.i64_in _ ⟨by omega, by omega⟩
      rw [← hP] at hcb
      rw [← hQ] at hca
      have HCA := Lib.hid (still_of hca)
      have HCB := Lib.hid (still_of hcb)
      have hk1 : (0 : Int) ≤ (k : Int) + 1 := by omega
      have hk2 : (k : Int) + 1 ≤ (c : Int) := by omega
      have hk3 : k ≤ c := by omega
      have hkw : IntKind.i64.wrap ((k : Int) + 1) = (k : Int) + 1 := IntWalk.i64_in _ ⟨by omega, by omega⟩
      clear hcell hO hbel hstep hsum hQ hP hmk hca hcb
      go_wp2_with fail
      refine wp_region_still_tail 21 (by kernel_rfl) (by kernel_rfl) ?_
      simp only [List.take_succ_cons, List.take_zero, List.drop_succ_cons, List.drop_zero]
      repeat still_step
      (refine wpStill_step (fun K hK => ?_); go_simp; with_reducible refine ⟨_, HCA.out, hK _ ?_⟩; clear hK K)
      repeat still_step
      (refine wpStill_step (fun K hK => ?_); go_simp; with_reducible refine ⟨_, HCB.out, hK _ ?_⟩; clear hK K)
      repeat still_step
      try refine wpStill_nil ?_
      change wpList _ _ _ _ _ wr.drew
      obtain ⟨we, hwe⟩ : ∃ we, we = wr.drew := ⟨_, rfl⟩
      have HWE := Lib.hid hwe
      have zc2 : we.cell? ⟨w.heap.size, k, none⟩ = some (.int .i64 (portK x f m k k)) := by rw [hwe]; exact zc
      have z2 : we.frozen? ⟨w.heap.size, k, none⟩ = false := by rw [hwe]; exact z1
      rw [← hwe]
      clear hwe z1 zc
      go_wp2_with fail
      go_roundw
      case rel => exact ⟨k + 1, by go_num, by omega, by rw [HST.out, HWE.out]; exact HO.out.drew.set k _, by rw [HWE.out]; exact HBEL.out.drew.setCell (Nat.le_refl _) _⟩
      case measure => simp [intOf]; omega
    · obtain rfl : m = k := by omega
      go_wp2_with fail
      go_ret
      exact ⟨hbel, _, rfl, Nat.le_refl _, hO.congr fun j hj => HPE.out j hj⟩
end Go.Proofs.Ytpbnkkeplhgepaa.BA
