
/-
  balance.Widths.
-/
import Derived.Test.YtpbnkkeplhgepaaBalTop
namespace Go.Proofs.Ytpbnkkeplhgepaa.BA
open Go.RowKit Go.Law Go.Law.Bal Ref
set_option linter.unusedVariables false
set_option linter.unusedSimpArgs false
set_option maxRecDepth 100000
/-- the widths of the columns, out of the least and the greatest -/
def colG (A B : Nat → Int) (cols : Nat) (width : Int) : Nat → Int :=
  if width = 0 ∨ width = sumB B cols then B else if width ≤ sumB A cols then A
  else if sumB B cols < width then fun j => B j + portF (width - sumB B cols) B cols j
  else fun j => A j + portF (width - sumB A cols) (fun j => B j - A j) cols j
theorem colG_most {A B : Nat → Int} {cols : Nat} {width : Int} (h : width = 0 ∨ width = sumB B cols) : colG A B cols width = B := by unfold colG; rw [if_pos h]
theorem colG_least {A B : Nat → Int} {cols : Nat} {width : Int} (h : ¬ (width = 0 ∨ width = sumB B cols)) (h2 : width ≤ sumB A cols) : colG A B cols width = A := by unfold colG; rw [if_neg h, if_pos h2]
theorem colG_over {A B : Nat → Int} {cols : Nat} {width : Int} (h : ¬ (width = 0 ∨ width = sumB B cols)) (h2 : ¬ width ≤ sumB A cols) (h3 : sumB B cols < width) :
    colG A B cols width = fun j => B j + portF (width - sumB B cols) B cols j := by unfold colG; rw [if_neg h, if_neg h2, if_pos h3]
theorem colG_mid {A B : Nat → Int} {cols : Nat} {width : Int} (h : ¬ (width = 0 ∨ width = sumB B cols)) (h2 : ¬ width ≤ sumB A cols) (h3 : ¬ sumB B cols < width) :
    colG A B cols width = fun j => A j + portF (width - sumB A cols) (fun j => B j - A j) cols j := by unfold colG; rw [if_neg h, if_neg h2, if_neg h3]
theorem portF_bd {x : Int} {f : Nat → Int} {m : Nat} (hm : 1 ≤ m ∧ m ≤ 64) (hx : 0 ≤ x ∧ x ≤ 31680) (hbd : ∀ i, i < m → 0 ≤ f i ∧ f i ≤ 31680) : ∀ i, i < m → -100000000000 ≤ portF x f m i ∧ portF x f m i ≤ 100000000000 := by
  intro i hi
  by_cases h0 : sumB f m = 0
  · rw [portF_zero h0]
    unfold giveF
    dsimp only
    have h1 := Int.ediv_nonneg (show 0 ≤ x by omega) (show 0 ≤ (m : Int) by omega)
    have h2 := Int.ediv_le_self (m : Int) hx.1
    split
    · split <;> omega
    · omega
  · unfold portF
    rw [if_neg h0]
    have hs := (sumB_bd hbd).2
    have hs0 := sumB_nonneg (f := f) (s := m) (fun i hi => (hbd i hi).1)
    have hp0 := sumB_nonneg (f := f) (s := i) (fun j hj => (hbd j (by omega)).1)
    have hp1 := sumB_mono (f := f) (m := m) (k := i) (fun i hi => (hbd i hi).1) (by omega)
    have hq0 := sumB_nonneg (f := f) (s := i + 1) (fun j hj => (hbd j (by omega)).1)
    have hq1 := sumB_mono (f := f) (m := m) (k := i + 1) (fun i hi => (hbd i hi).1) (by omega)
    have hxp0 : 0 ≤ x * sumB f i := Int.mul_nonneg hx.1 hp0
    have hxq0 : 0 ≤ x * sumB f (i + 1) := Int.mul_nonneg hx.1 hq0
    have hxp1 : x * sumB f i ≤ 31680 * 2027520 := Int.mul_le_mul hx.2 (by omega) hp0 (by omega)
    have hxq1 : x * sumB f (i + 1) ≤ 31680 * 2027520 := Int.mul_le_mul hx.2 (by omega) hq0 (by omega)
    have hd1 := Int.ediv_nonneg hxp0 hs0
    have hd2 := Int.ediv_nonneg hxq0 hs0
    have hd3 := Int.ediv_le_self (sumB f m) hxp0
    have hd4 := Int.ediv_le_self (sumB f m) hxq0
    omega
/-- one row added to another, as far as k -/
def addK (f p : Nat → Int) (k : Nat) : Nat → Int := fun j => if j < k then f j + p j else f j
theorem addK_zero (f p : Nat → Int) : addK f p 0 = f := by funext j; unfold addK; rw [if_neg (by omega)]
theorem addK_at (f p : Nat → Int) (k : Nat) : addK f p k k = f k := by unfold addK; rw [if_neg (by omega)]
theorem addK_step (f p : Nat → Int) (k : Nat) : addK f p (k + 1) = upd (addK f p k) k (f k + p k) := by
  funext j
  unfold upd addK
  by_cases h1 : j = k
  · subst h1
    rw [if_pos (by omega), if_pos rfl]
  · rw [if_neg h1]
    by_cases h2 : j < k
    · rw [if_pos h2, if_pos (by omega)]
    · rw [if_neg h2, if_neg (by omega)]
theorem addK_end {f p : Nat → Int} {k j : Nat} (h : j < k) : addK f p k j = f j + p j := by unfold addK; rw [if_pos h]
/-- the differences, as far as k -/
def subK (f p : Nat → Int) (k : Nat) : Nat → Int := fun j => if j < k then f j - p j else 0
theorem subK_zero (f p : Nat → Int) : subK f p 0 = fun _ => 0 := by funext j; unfold subK; rw [if_neg (by omega)]
theorem subK_step (f p : Nat → Int) (k : Nat) : subK f p (k + 1) = upd (subK f p k) k (f k - p k) := by
  funext j
  unfold upd subK
  by_cases h1 : j = k
  · subst h1
    rw [if_pos (by omega), if_pos rfl]
  · rw [if_neg h1]
    by_cases h2 : j < k
    · rw [if_pos h2, if_pos (by omega)]
    · rw [if_neg h2, if_neg (by omega)]
theorem subK_end {f p : Nat → Int} {k j : Nat} (h : j < k) : subK f p k j = f j - p j := by unfold subK; rw [if_pos h]
/-- what is known of the least and the greatest widths -/
structure AB (E : Nat → Nat → Int) (n cols : Nat) (A B : Nat → Int) : Prop where
  ha : A = needF E (wantA E) n cols
  hb : B = mostF E n cols
  lo : ∀ j, j < cols → 0 ≤ A j ∧ A j ≤ B j ∧ B j ≤ 31680
theorem ab_of {E : Nat → Nat → Int} {n cols : Nat} (hE : ∀ i, i < n → cellOk (cols : Int) (E i)) : AB E n cols (needF E (wantA E) n cols) (mostF E n cols) := by
  refine ⟨rfl, rfl, fun j hj => ?_⟩
  have h1 := needF_bd (E := E) (want := wantA E) (n := n) hE (fun i hi => by obtain ⟨_, _, h2, h3⟩ := hE i hi; unfold wantA; omega) cols j hj
  have h2 := needF_bd (E := E) (want := wantB E) (n := n) hE (fun i hi => by obtain ⟨_, _, h2, h3⟩ := hE i hi; unfold wantB; omega) cols j hj
  unfold mostF
  omega
def WidthsPost (cols n : Nat) (E : Nat → Nat → Int) (width : Int) (w : World) (e : Ending) (w' : World) : Prop :=
  Below w.heap.size w w' ∧ ∃ a cap, e = .returned (.tuple #[.slice a cols cap, .int .i64 0]) ∧ cols ≤ cap ∧ IntsF w' a cols (colG (needF E (wantA E) n cols) (mostF E n cols) cols width)
set_option maxHeartbeats 2000000 in
theorem widths_bad (cols : Int) (n : Nat) (E : Nat → Nat → Int) (a : Option Addr) (c : Nat) (width : Int) (w : World) (ha : StrF w a n 4 E) (hn : n ≤ 1000000000000000000) (he : balE cols n E ≠ 0) :
    Calls Try.prog 43 #[.int .i64 cols, .slice a n c, .int .i64 width] w fun e w' => e = .returned (.tuple #[.slice none 0 0, .int .i64 (balE cols n E)]) ∧ Below w.heap.size w w' := by
  have htop := top_bad cols n E a c w ha hn he
  obtain ⟨V, hV⟩ : ∃ V, V = balE cols n E := ⟨_, rfl⟩
  rw [← hV] at htop he ⊢
  have v2 : (V != 0) = true := by simpa using he
  clear hV he
  go_enter Try.func43, Try.ntmps43
  go_wp2_with fail
  refine htop.mono ?_
  rintro e w1 ⟨rfl, hb1⟩
  go_wp2_with fail
  go_ret2
  exact ⟨rfl, hb1⟩
set_option maxHeartbeats 2000000 in
theorem widths_range (cols n : Nat) (E : Nat → Nat → Int) (a : Option Addr) (c : Nat) (width : Int) (w : World) (ha : StrF w a n 4 E) (he : balE cols n E = 0) (hw : ¬ (0 ≤ width ∧ width ≤ 31680)) :
    Calls Try.prog 43 #[.int .i64 cols, .slice a n c, .int .i64 width] w fun e w' => e = .returned (.tuple #[.slice none 0 0, .int .i64 2]) ∧ Below w.heap.size w w' := by
  have hw2 : width < 0 ∨ 31680 < width := by omega
  clear hw
  obtain ⟨hc, hn, hE⟩ := balE_zero he
  have hc' : 1 ≤ cols ∧ cols ≤ 64 := ⟨by omega, by omega⟩
  have htop := top_any cols n E a c w ha he
  have HAB := Lib.hid (ab_of (n := n) (cols := cols) hE)
  clear ha he hE
  go_enter Try.func43, Try.ntmps43
  go_wp2_with fail
  refine htop.mono ?_
  rintro e w1 ⟨hb1, g1, g2, rfl, hg1, hg2, hgn, hO1, hO2⟩
  clear hO1 hO2
  rcases hw2 with h | h
  · go_wp2_with fail
    go_ret2
    exact ⟨rfl, hb1⟩
  · have h' : ¬ width < 0 := by omega
    go_wp2_with fail
    go_ret2
    exact ⟨rfl, hb1⟩
-- one row is added to another: G the changed one, F its function; P the other's
set_option maxHeartbeats 8000000 in
theorem widths_any (cols n : Nat) (E : Nat → Nat → Int) (a : Option Addr) (c : Nat) (width : Int) (w : World) (ha : StrF w a n 4 E) (he : balE cols n E = 0) (hw : 0 ≤ width ∧ width ≤ 31680) :
    Calls Try.prog 43 #[.int .i64 cols, .slice a n c, .int .i64 width] w (WidthsPost cols n E width w) := by
  obtain ⟨hw1, hw2⟩ := hw
  have hmk := make_ints cols (by obtain ⟨hc, hn, hE⟩ := balE_zero he; omega)
  have HMK := Lib.hid hmk
  clear hmk
  obtain ⟨hc, hn, hE⟩ := balE_zero he
  have hc' : 1 ≤ cols ∧ cols ≤ 64 := ⟨by omega, by omega⟩
  have htop := top_any cols n E a c w ha he
  have HAB := Lib.hid (ab_of (n := n) (cols := cols) hE)
  clear ha he hE
  go_enter Try.func43, Try.ntmps43
  go_wp2_with fail
  refine htop.mono ?_
  rintro e w1 ⟨hb1, g1, g2, rfl, hg1, hg2, hgn, hO1, hO2⟩
  obtain ⟨A, hA⟩ : ∃ A, A = needF E (wantA E) n cols := ⟨_, rfl⟩
  obtain ⟨B, hB⟩ : ∃ B, B = mostF E n cols := ⟨_, rfl⟩
  rw [← hA, ← hB] at HAB
  rw [← hA] at hO1
  rw [← hB] at hO2
  clear hA hB
  have HSA := Lib.hid (fun wx (h : OwnF wx 3 g1 cols A) => sum_any cols A _ cols wx h.ints (by omega) (fun i hi => by have := HAB.out.lo i hi; omega))
  have HSB := Lib.hid (fun wx (h : OwnF wx 3 g2 cols B) => sum_any cols B _ cols wx h.ints (by omega) (fun i hi => by have := HAB.out.lo i hi; omega))
  have hsa := sumB_bd (f := A) (k := cols) (B := 31680) (fun i hi => by have := HAB.out.lo i hi; omega)
  have hsb := sumB_bd (f := B) (k := cols) (B := 31680) (fun i hi => by have := HAB.out.lo i hi; omega)
  have hra := HAB.out.ha
  have hrb := HAB.out.hb
  obtain ⟨SA, hSA⟩ : ∃ SA, SA = sumB A cols := ⟨_, rfl⟩
  obtain ⟨SB, hSB⟩ : ∃ SB, SB = sumB B cols := ⟨_, rfl⟩
  rw [← hSA] at HSA hsa
  rw [← hSB] at HSB hsb
  have HA2 := Lib.hid hSA
  have HB2 := Lib.hid hSB
  have HRA := Lib.hid hra
  have HRB := Lib.hid hrb
  obtain ⟨hsa1, hsa2⟩ := hsa
  obtain ⟨hsb1, hsb2⟩ := hsb
  clear hSA hSB hra hrb
  have HO1 := Lib.hid hO1
  have HO2 := Lib.hid hO2
  have HB1 := Lib.hid hb1
  have HRS := Lib.hid (hO1.lt)
  have HRT := Lib.hid (hO2.lt)
  clear hO1 hO2 hb1
  go_wp2_with fail
  refine (HSA.out w1 HO1.out).mono ?_
  rintro e w2 ⟨rfl, rfl⟩
  go_wp2_with fail
  refine (HSB.out w1 HO2.out).mono ?_
  rintro e w2 ⟨rfl, rfl⟩
  by_cases h0 : width = 0 ∨ width = SB
  · have HCOL := Lib.hid (colG_most (A := A) (B := B) (cols := cols) (width := width) (by rw [← HB2.out]; exact h0))
    rcases h0 with h0 | h0
    · have e1 : (width == 0) = true := by simpa using h0
      clear h0
      go_wp2_with fail
      go_ret2
      exact ⟨HB1.out, _, _, rfl, Nat.le_refl _, by rw [← HRA.out, ← HRB.out, HCOL.out]; exact HO2.out.ints⟩
    · by_cases hz : width = 0
      · have e1 : (width == 0) = true := by simpa using hz
        clear h0 hz
        go_wp2_with fail
        go_ret2
        exact ⟨HB1.out, _, _, rfl, Nat.le_refl _, by rw [← HRA.out, ← HRB.out, HCOL.out]; exact HO2.out.ints⟩
      · have e1 : (width == 0) = false := by simpa using hz
        have e2 : (width == SB) = true := by simpa using h0
        clear h0 hz
        go_wp2_with fail
        go_ret2
        exact ⟨HB1.out, _, _, rfl, Nat.le_refl _, by rw [← HRA.out, ← HRB.out, HCOL.out]; exact HO2.out.ints⟩
  · have H0 := Lib.hid h0
    have e1 : (width == 0) = false := by simp; omega
    have e2 : (width == SB) = false := by simp; omega
    have hlo : width ≠ SB := by omega
    clear h0
    by_cases h1 : width ≤ SA
    · have HCOL := Lib.hid (colG_least (A := A) (B := B) (cols := cols) (width := width) (by rw [← HB2.out]; exact H0.out) (by rw [← HA2.out]; exact h1))
      clear hlo
      go_wp2_with fail
      go_ret2
      exact ⟨HB1.out, _, _, rfl, Nat.le_refl _, by rw [← HRA.out, ← HRB.out, HCOL.out]; exact HO1.out.ints⟩
    · by_cases h2 : SB < width
      · have HCOL := Lib.hid (colG_over (A := A) (B := B) (cols := cols) (width := width) (by rw [← HB2.out]; exact H0.out) (by rw [← HA2.out]; exact h1) (by rw [← HB2.out]; exact h2))
        rw [← HB2.out] at HCOL
        clear hlo
        have hbb : ∀ i, i < cols → 0 ≤ B i ∧ B i ≤ 31680 := fun i hi => by have := HAB.out.lo i hi; omega
        have HPB := Lib.hid (portF_bd hc' (show 0 ≤ width - SB ∧ width - SB ≤ 31680 by omega) hbb)
        have HBB := Lib.hid hbb
        clear hbb
        go_wp2_with fail
        refine (share_any (width - SB) cols B _ cols _ HO2.out.ints hc' ⟨by omega, by omega⟩ HBB.out).mono ?_
        rintro e w3 ⟨hb3, g3, rfl, hg3, hO3⟩
        have hgp : g3 ≠ g2 := by have := HRT.out; omega
        have HOG := Lib.hid (HO2.out.below hb3 HRT.out)
        have HOP := Lib.hid hO3
        have HBEL := Lib.hid (HB1.out.trans (hb3.mono HB1.out.size))
        obtain ⟨Q, hQ⟩ : ∃ Q, Q = portF (width - SB) B cols := ⟨_, rfl⟩
        rw [← hQ] at HOP HPB HCOL
        clear hb3 hO3 hQ
        go_wp2_with fail
        go_loopw [63] (fun iv wr => ∃ k : Nat, iv = .int .i64 k ∧ k ≤ cols ∧ OwnF wr 3 g2 cols (addK B Q k) ∧ OwnF wr 3 g3 cols Q ∧ Below w.heap.size w wr) (fun iv _ => cols - (intOf iv).toNat)
        case atStart => exact ⟨0, rfl, by omega, by rw [addK_zero]; exact HOG.out, HOP.out, HBEL.out⟩
        case round =>
          clear HOG HOP HBEL
          obtain ⟨k, rfl, hk, hO1, hO2, hbel⟩ := hrel
          by_cases hkt : k < cols
          · have d1 := hO1.cell hkt
            have d2 := hO2.cell hkt
            rw [addK_at] at d1
            have z1 := hO1.frozen k
            have hpb := HPB.out k hkt
            have hfb := HAB.out.lo k hkt
            obtain ⟨hpb1, hpb2⟩ := hpb
            obtain ⟨hfb1, hfb2, hfb3⟩ := hfb
            have HO1 := Lib.hid hO1
            have HO2 := Lib.hid hO2
            have HBEL := Lib.hid hbel
            have HJ := Lib.hid (addK_step B Q k)
            clear hO1 hO2 hbel
            go_wp2_with fail
            go_roundw
            case rel => exact ⟨k + 1, by go_num, by omega, by rw [HJ.out]; exact HO1.out.set k _, HO2.out.other hgp _, HBEL.out.setCell hg2 _⟩
            case measure => simp [intOf]; omega
          · obtain rfl : cols = k := by omega
            go_wp2_with fail
            go_ret2
            exact ⟨hbel, _, _, rfl, Nat.le_refl _, by rw [← HRA.out, ← HRB.out, HCOL.out]; exact (hO1.congr fun j hj => addK_end hj).ints⟩
      · have HCOL := Lib.hid (colG_mid (A := A) (B := B) (cols := cols) (width := width) (by rw [← HB2.out]; exact H0.out) (by rw [← HA2.out]; exact h1) (by rw [← HB2.out]; exact h2))
        rw [← HA2.out] at HCOL
        have hmk := HMK.out
        have h3 : width < SB := by omega
        clear hlo
        go_wp2_with fail
        go_loopw [81] (fun iv wr => ∃ k : Nat, iv = .int .i64 k ∧ k ≤ cols ∧ OwnF wr 3 g1 cols A ∧ OwnF wr 3 g2 cols B ∧ OwnF wr 3 w1.heap.size cols (subK B A k) ∧ Below w1.heap.size w1 wr) (fun iv _ => cols - (intOf iv).toNat)
        case atStart => exact ⟨0, rfl, by omega, HO1.out.alloc _, HO2.out.alloc _, by rw [subK_zero]; exact OwnF.make 3 cols, (Below.refl _ _).alloc (Nat.le_refl _) _⟩
        case round =>
          clear hmk
          obtain ⟨k, rfl, hk, hO1, hO2, hO3, hbel⟩ := hrel
          by_cases hkt : k < cols
          · have d1 := hO1.cell hkt
            have d2 := hO2.cell hkt
            have d3 := hO3.cell hkt
            have z3 := hO3.frozen k
            have hfb := HAB.out.lo k hkt
            obtain ⟨hfb1, hfb2, hfb3⟩ := hfb
            have HO1 := Lib.hid hO1
            have HO2 := Lib.hid hO2
            have HO3 := Lib.hid hO3
            have HBEL := Lib.hid hbel
            have HJ := Lib.hid (subK_step B A k)
            have hgs1 : g1 ≠ w1.heap.size := by have := HRS.out; omega
            have hgs2 : g2 ≠ w1.heap.size := by have := HRT.out; omega
            have hws : IntKind.i64.wrap (B k - A k) = B k - A k := IntWalk.i64_in _ ⟨by omega, by omega⟩
            clear hO1 hO2 hO3 hbel
            obtain ⟨we, hwe⟩ : ∃ we, we = wr.drew := ⟨_, rfl⟩
            have HWE := Lib.hid hwe
            have d3' : we.cell? ⟨w1.heap.size, k, none⟩ = some (.int .i64 (subK B A k k)) := by rw [hwe]; exact d3
            have z3' : we.frozen? ⟨w1.heap.size, k, none⟩ = false := by rw [hwe]; exact z3
            clear hwe
            go_wp2_with fail
            go_still_tail 12, (by kernel_rfl)
            change wpList _ _ _ _ _ wr.drew
            rw [← HWE.out]
            clear d1 d2 d3 z3 hws
            go_wp2_with fail
            go_roundw
            case rel => exact ⟨k + 1, by go_num, by omega, by rw [HWE.out]; exact HO1.out.drew.other hgs1 _, by rw [HWE.out]; exact HO2.out.drew.other hgs2 _, by rw [HJ.out, HWE.out]; exact HO3.out.drew.set k _, by rw [HWE.out]; exact HBEL.out.drew.setCell (Nat.le_refl _) _⟩
            case measure => simp [intOf]; omega
          · obtain rfl : cols = k := by omega
            have hww : ∀ i, i < cols → 0 ≤ B i - A i ∧ B i - A i ≤ 31680 := fun i hi => by have := HAB.out.lo i hi; omega
            have HPB := Lib.hid (portF_bd hc' (show 0 ≤ width - SA ∧ width - SA ≤ 31680 by omega) hww)
            have HBB := Lib.hid hww
            have HO3 := Lib.hid (hO3.congr (f' := fun j => B j - A j) fun j hj => subK_end hj)
            have HOA := Lib.hid hO1
            have HB2' := Lib.hid (HB1.out.trans (hbel.mono HB1.out.size))
            have hl1 := hO1.lt
            clear hww hO1 hO2 hO3 hbel
            obtain ⟨wq, rfl⟩ : ∃ wq : World, wq = wr := ⟨_, rfl⟩
            go_wp2_with fail
            refine (share_any (width - SA) cols (fun j => B j - A j) _ cols _ HO3.out.ints hc' ⟨by omega, by omega⟩ HBB.out).mono ?_
            rintro e w3 ⟨hb3, g3, rfl, hg3, hO4⟩
            have hgp : g3 ≠ g1 := by omega
            have HOG := Lib.hid (HOA.out.below hb3 hl1)
            have HOP := Lib.hid hO4
            have HBEL := Lib.hid (HB2'.out.trans (hb3.mono HB2'.out.size))
            obtain ⟨Q, hQ⟩ : ∃ Q, Q = portF (width - SA) (fun j => B j - A j) cols := ⟨_, rfl⟩
            rw [← hQ] at HOP HPB HCOL
            clear hb3 hO4 hQ
            go_wp2_with fail
            go_loopw [103] (fun iv wr => ∃ k : Nat, iv = .int .i64 k ∧ k ≤ cols ∧ OwnF wr 3 g1 cols (addK A Q k) ∧ OwnF wr 3 g3 cols Q ∧ Below w.heap.size w wr) (fun iv _ => cols - (intOf iv).toNat)
            case atStart => exact ⟨0, rfl, by omega, by rw [addK_zero]; exact HOG.out, HOP.out, HBEL.out⟩
            case round =>
              clear HOG HOP HBEL
              obtain ⟨k, rfl, hk, hO1, hO2, hbel⟩ := hrel
              by_cases hkt : k < cols
              · have d1 := hO1.cell hkt
                have d2 := hO2.cell hkt
                rw [addK_at] at d1
                have z1 := hO1.frozen k
                have hpb := HPB.out k hkt
                have hfb := HAB.out.lo k hkt
                obtain ⟨hpb1, hpb2⟩ := hpb
                obtain ⟨hfb1, hfb2, hfb3⟩ := hfb
                have HO1 := Lib.hid hO1
                have HO2 := Lib.hid hO2
                have HBEL := Lib.hid hbel
                have HJ := Lib.hid (addK_step A Q k)
                clear hO1 hO2 hbel
                go_wp2_with fail
                go_roundw
                case rel => exact ⟨k + 1, by go_num, by omega, by rw [HJ.out]; exact HO1.out.set k _, HO2.out.other hgp _, HBEL.out.setCell hg1 _⟩
                case measure => simp [intOf]; omega
              · obtain rfl : cols = k := by omega
                go_wp2_with fail
                go_ret2
                exact ⟨hbel, _, _, rfl, Nat.le_refl _, by rw [← HRA.out, ← HRB.out, HCOL.out]; exact (hO1.congr fun j hj => addK_end hj).ints⟩
end Go.Proofs.Ytpbnkkeplhgepaa.BA
