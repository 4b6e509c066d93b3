
/-
  The example, and the walks of BalanceNeeds and BalanceWidths.
-/
import Derived.Test.YtpbnkkeplhgepaaBalColW
import Derived.Test.YtpbnkkeplhgepaaSameInts
namespace Go.Proofs.Ytpbnkkeplhgepaa.BA
open Go.RowKit Go.Law Go.Law.Bal Ref
set_option linter.unusedVariables false
set_option linter.unusedSimpArgs false
set_option maxRecDepth 100000
def E0 : Nat → Nat → Int := fun i j => (([[0, 1, 100, 300], [1, 1, 100, 100]] : List (List Int)).getD i []).getD j 0
theorem e0_ok : balE ((2 : Nat) : Int) 2 E0 = 0 := by
  refine balE_ok (by omega) (by omega) fun i hi => ?_
  have h1 : i = 0 ∨ i = 1 := by omega
  rcases h1 with rfl | rfl <;> (unfold cellOk; decide)
theorem e0_0 : colG (needF E0 (wantA E0) 2 2) (mostF E0 2 2) 2 300 0 = 200 := by decide +kernel
theorem e0_1 : colG (needF E0 (wantA E0) 2 2) (mostF E0 2 2) 2 300 1 = 100 := by decide +kernel
theorem lit_str {w : World} {b n s : Nat} {f : Nat → Nat → Int} (h : ∀ i, i < n → ∀ j, j < s → w.cell? ⟨b, i * s + j, none⟩ = some (.int .i64 (f i j))) : StrF w (some ⟨b, 0, none⟩) n s f :=
  fun _ => ⟨b, 0, rfl, fun i hi j hj => by rw [Nat.zero_add]; exact h i hi j hj⟩
theorem lit_ints {w : World} {b n : Nat} {f : Nat → Int} (h : ∀ i, i < n → w.cell? ⟨b, i, none⟩ = some (.int .i64 (f i))) : IntsF w (some ⟨b, 0, none⟩) n f :=
  fun _ => ⟨b, 0, rfl, fun i hi => by rw [Nat.zero_add]; exact h i hi⟩
def W0 : Nat → Int := fun i => if i = 0 then 200 else 100
theorem w0_same : sameB 2 2 (colG (needF E0 (wantA E0) 2 2) (mostF E0 2 2) 2 300) W0 = true := by
  rw [sameB_true]
  refine ⟨rfl, fun i hi => ?_⟩
  have h1 : i = 0 ∨ i = 1 := by omega
  rcases h1 with rfl | rfl
  · rw [e0_0]; rfl
  · rw [e0_1]; rfl
set_option maxHeartbeats 4000000 in
theorem balanced_any (w : World) :
    Calls Try.prog 38 #[] w fun e w' => e = .returned (.bool true) ∧ Below w.heap.size w w' := by
  have hwid := fun a c w0 h => widths_any 2 2 E0 a c 300 w0 h e0_ok (by omega)
  have HS := Lib.hid w0_same
  unfold WidthsPost at hwid
  obtain ⟨G, hG⟩ : ∃ G, G = colG (needF E0 (wantA E0) 2 2) (mostF E0 2 2) 2 300 := ⟨_, rfl⟩
  rw [← hG] at hwid HS
  have HW := Lib.hid hwid
  clear hwid hG
  go_enter Try.func38, Try.ntmps38
  go_wp2_with fail
  refine (HW.out _ _ _ ?hx).mono ?_
  case hx =>
    refine lit_str fun i hi j hj => ?_
    have h1 : i = 0 ∨ i = 1 := by omega
    have h2 : j = 0 ∨ j = 1 ∨ j = 2 ∨ j = 3 := by omega
    rcases h1 with rfl | rfl <;> rcases h2 with rfl | rfl | rfl | rfl <;> simp [E0]
  rintro e w1 ⟨hb1, a, cap, rfl, hcap, hints⟩
  have hbel : Below w.heap.size w w1 := ((Below.refl _ _).alloc (Nat.le_refl _) _).trans (hb1.mono (by simp))
  have hs1 := hbel.size
  have HI := Lib.hid hints
  clear hb1 hints HW
  go_wp2_with fail
  refine (same_any 2 2 G W0 _ _ _ _ _ (HI.out.alloc _) ?hy (by omega) (by omega)).mono ?_
  case hy =>
    refine lit_ints fun i hi => ?_
    have h1 : i = 0 ∨ i = 1 := by omega
    rcases h1 with rfl | rfl <;> simp [W0]
  rintro e w2 ⟨rfl, hb2⟩
  rw [HS.out]
  go_wp2_with fail
  go_ret
  exact ⟨rfl, (hbel.alloc hs1 _).trans (hb2.mono (by simp; omega))⟩
set_option maxHeartbeats 4000000 in
theorem law11_bad (cols : Int) (n : Nat) (E : Nat → Nat → Int) (a : Option Addr) (c : Nat) (w : World) (ha : StrF w a n 4 E) (hn : n ≤ 1000000000000000000) (he : balE cols n E ≠ 0) :
    Calls Try.prog 11 #[.int .i64 cols, .slice a n c] w fun e w' => e = .returned (.bool true) ∧ Below w.heap.size w w' := by
  have htop := fun w1 (hb : Below w.heap.size w w1) => top_bad cols n E a c w1 (ha.below (Nat.le_refl _) hb) hn he
  have herr := fun w1 (hb : Below w.heap.size w w1) => error_any cols n E a c w1 (ha.below (Nat.le_refl _) hb) hn
  have hchk := fun w1 (hb : Below w.heap.size w w1) => check_any cols n E a c w1 (ha.below (Nat.le_refl _) hb) hn
  obtain ⟨V, hV⟩ : ∃ V, V = balE cols n E := ⟨_, rfl⟩
  rw [← hV] at htop herr hchk he
  have v2 : (V != 0) = true := by simpa using he
  have v3 : (V == V) = true := by simp
  have HT := Lib.hid htop
  have HE := Lib.hid herr
  have HC := Lib.hid hchk
  clear hV he htop herr hchk
  go_enter Try.func11, Try.ntmps11
  go_wp2_with fail
  refine (balanced_any _).mono ?_
  rintro e w1 ⟨rfl, hb1⟩
  go_wp2_with fail
  refine (HT.out _ hb1).mono ?_
  rintro e w2 ⟨rfl, hb2⟩
  have hb2 := hb1.trans (hb2.mono hb1.size)
  go_wp2_with fail
  refine (HE.out _ hb2).mono ?_
  rintro e w3 ⟨rfl, hb3⟩
  have hb3 := hb2.trans (hb3.mono hb2.size)
  go_wp2_with fail
  refine (HC.out _ hb3).mono ?_
  rintro e w4 ⟨rfl, hb4⟩
  have hb4 := hb3.trans (hb4.mono hb3.size)
  go_wp2_with fail
  go_ret
  exact ⟨rfl, hb4⟩
set_option maxHeartbeats 4000000 in
theorem law11_ok (cols n : Nat) (E : Nat → Nat → Int) (a : Option Addr) (c : Nat) (w : World) (ha : StrF w a n 4 E) (hn : n ≤ 1000000000000000000) (he : balE cols n E = 0) :
    Calls Try.prog 11 #[.int .i64 cols, .slice a n c] w fun e w' => e = .returned (.bool true) ∧ Below w.heap.size w w' := by
  obtain ⟨hc, hn2, hE⟩ := balE_zero he
  have htop := fun w1 (hb : Below w.heap.size w w1) => top_any cols n E a c w1 (ha.below (Nat.le_refl _) hb) he
  have herr := fun w1 (hb : Below w.heap.size w w1) => error_any cols n E a c w1 (ha.below (Nat.le_refl _) hb) hn
  have hcol := fun w1 (hb : Below w.heap.size w w1) => columns_any cols n E a c w1 (ha.below (Nat.le_refl _) hb) ⟨by omega, by omega⟩ hn2 hE
  rw [he] at herr
  have hsa : sameB cols cols (needF E (wantA E) n cols) (needF E (wantA E) n cols) = true := by rw [sameB_true]; exact ⟨rfl, fun _ _ => rfl⟩
  have hsb : sameB cols cols (mostF E n cols) (mostF E n cols) = true := by rw [sameB_true]; exact ⟨rfl, fun _ _ => rfl⟩
  unfold TopPost at htop
  unfold ColsPost at hcol
  obtain ⟨A, hA⟩ : ∃ A, A = needF E (wantA E) n cols := ⟨_, rfl⟩
  obtain ⟨B, hB⟩ : ∃ B, B = mostF E n cols := ⟨_, rfl⟩
  rw [← hA] at htop hcol hsa
  rw [← hB] at htop hcol hsb
  have HT := Lib.hid htop
  have HE := Lib.hid herr
  have HC := Lib.hid hcol
  have HSA := Lib.hid hsa
  have HSB := Lib.hid hsb
  clear hA hB he hE htop herr hcol hsa hsb
  go_enter Try.func11, Try.ntmps11
  go_wp2_with fail
  refine (balanced_any _).mono ?_
  rintro e w1 ⟨rfl, hb1⟩
  go_wp2_with fail
  refine (HT.out _ hb1).mono ?_
  rintro e w2 ⟨hb2, g1, g2, rfl, hg1, hg2, hgn, hO1, hO2⟩
  have hb2 := hb1.trans (hb2.mono hb1.size)
  have HO1 := Lib.hid hO1
  have HO2 := Lib.hid hO2
  clear hO1 hO2
  go_wp2_with fail
  refine (HE.out _ hb2).mono ?_
  rintro e w3 ⟨rfl, hb3⟩
  have HO1 := Lib.hid (HO1.out.ints.below (Nat.le_refl _) hb3)
  have HO2 := Lib.hid (HO2.out.ints.below (Nat.le_refl _) hb3)
  have hb3 := hb2.trans (hb3.mono hb2.size)
  go_wp2_with fail
  refine (HC.out _ hb3).mono ?_
  rintro e w4 ⟨hb4, g3, g4, rfl, hg3, hg4, hO3, hO4⟩
  have HO1 := Lib.hid (HO1.out.below (Nat.le_refl _) hb4)
  have HO2 := Lib.hid (HO2.out.below (Nat.le_refl _) hb4)
  have HO3 := Lib.hid hO3.ints
  have HO4 := Lib.hid hO4.ints
  have hb4 := hb3.trans (hb4.mono hb3.size)
  clear hO3 hO4
  go_wp2_with fail
  refine (same_any cols cols A A _ _ _ _ _ HO1.out HO3.out (by omega) (by omega)).mono ?_
  rintro e w5 ⟨rfl, hb5⟩
  rw [HSA.out]
  have HO2 := Lib.hid (HO2.out.below (Nat.le_refl _) hb5)
  have HO4 := Lib.hid (HO4.out.below (Nat.le_refl _) hb5)
  have hb5 := hb4.trans (hb5.mono hb4.size)
  go_wp2_with fail
  refine (same_any cols cols B B _ _ _ _ _ HO2.out HO4.out (by omega) (by omega)).mono ?_
  rintro e w6 ⟨rfl, hb6⟩
  rw [HSB.out]
  have hb6 := hb5.trans (hb6.mono hb5.size)
  go_wp2_with fail
  go_ret
  exact ⟨rfl, hb6⟩
theorem law11_any (cols : Int) (n : Nat) (E : Nat → Nat → Int) (a : Option Addr) (c : Nat) (w : World) (ha : StrF w a n 4 E) (hn : n ≤ 1000000000000000000) :
    Calls Try.prog 11 #[.int .i64 cols, .slice a n c] w fun e w' => e = .returned (.bool true) ∧ Below w.heap.size w w' := by
  by_cases he : balE cols n E = 0
  · obtain ⟨hc, _, _⟩ := balE_zero he
    obtain ⟨m, rfl⟩ : ∃ m : Nat, cols = (m : Int) := ⟨cols.toNat, by omega⟩
    exact law11_ok m n E a c w ha hn he
  · exact law11_bad cols n E a c w ha hn he
set_option maxHeartbeats 4000000 in
theorem law12_bad (cols : Int) (n : Nat) (E : Nat → Nat → Int) (a : Option Addr) (c : Nat) (width : Int) (w : World) (ha : StrF w a n 4 E) (hn : n ≤ 1000000000000000000) (he : balE cols n E ≠ 0) :
    Calls Try.prog 12 #[.int .i64 cols, .slice a n c, .int .i64 width] w fun e w' => e = .returned (.bool true) ∧ Below w.heap.size w w' := by
  have htop := fun w1 (hb : Below w.heap.size w w1) => widths_bad cols n E a c width w1 (ha.below (Nat.le_refl _) hb) hn he
  have herr := fun w1 (hb : Below w.heap.size w w1) => error_any cols n E a c w1 (ha.below (Nat.le_refl _) hb) hn
  obtain ⟨V, hV⟩ : ∃ V, V = balE cols n E := ⟨_, rfl⟩
  rw [← hV] at htop herr he
  have v1 : (V == 0) = false := by simpa using he
  have v2 : (V != 0) = true := by simpa using he
  have v3 : (V == V) = true := by simp
  have HT := Lib.hid htop
  have HE := Lib.hid herr
  clear hV he htop herr
  go_enter Try.func12, Try.ntmps12
  go_wp2_with fail
  refine (balanced_any _).mono ?_
  rintro e w1 ⟨rfl, hb1⟩
  go_wp2_with fail
  refine (HT.out _ hb1).mono ?_
  rintro e w2 ⟨rfl, hb2⟩
  have hb2 := hb1.trans (hb2.mono hb1.size)
  go_wp2_with fail
  refine (HE.out _ hb2).mono ?_
  rintro e w3 ⟨rfl, hb3⟩
  have hb3 := hb2.trans (hb3.mono hb2.size)
  go_wp2_with fail
  go_ret
  exact ⟨rfl, hb3⟩
set_option maxHeartbeats 4000000 in
theorem law12_range (cols n : Nat) (E : Nat → Nat → Int) (a : Option Addr) (c : Nat) (width : Int) (w : World) (ha : StrF w a n 4 E) (hn : n ≤ 1000000000000000000) (he : balE cols n E = 0) (hw : ¬ (0 ≤ width ∧ width ≤ 31680)) :
    Calls Try.prog 12 #[.int .i64 cols, .slice a n c, .int .i64 width] w fun e w' => e = .returned (.bool true) ∧ Below w.heap.size w w' := by
  have htop := fun w1 (hb : Below w.heap.size w w1) => widths_range cols n E a c width w1 (ha.below (Nat.le_refl _) hb) he hw
  have herr := fun w1 (hb : Below w.heap.size w w1) => error_any cols n E a c w1 (ha.below (Nat.le_refl _) hb) hn
  rw [he] at herr
  have i0 : inB width 0 31680 = false := inB_false.2 hw
  have HT := Lib.hid htop
  have HE := Lib.hid herr
  clear he hw htop herr
  go_enter Try.func12, Try.ntmps12
  go_wp2_with fail
  refine (balanced_any _).mono ?_
  rintro e w1 ⟨rfl, hb1⟩
  go_wp2_with fail
  refine (HT.out _ hb1).mono ?_
  rintro e w2 ⟨rfl, hb2⟩
  have hb2 := hb1.trans (hb2.mono hb1.size)
  go_wp2_with fail
  refine (HE.out _ hb2).mono ?_
  rintro e w3 ⟨rfl, hb3⟩
  have hb3 := hb2.trans (hb3.mono hb2.size)
  go_wp2_with (go_at_call 14; refine (in_any _ _ _ _).mono ?_; rintro e w9 ⟨rfl, rfl⟩)
  go_ret
  exact ⟨rfl, hb3⟩
set_option maxHeartbeats 4000000 in
theorem law12_ok (cols n : Nat) (E : Nat → Nat → Int) (a : Option Addr) (c : Nat) (width : Int) (w : World) (ha : StrF w a n 4 E) (hn : n ≤ 1000000000000000000) (he : balE cols n E = 0) (hw : 0 ≤ width ∧ width ≤ 31680) :
    Calls Try.prog 12 #[.int .i64 cols, .slice a n c, .int .i64 width] w fun e w' => e = .returned (.bool true) ∧ Below w.heap.size w w' := by
  have htop := fun w1 (hb : Below w.heap.size w w1) => widths_any cols n E a c width w1 (ha.below (Nat.le_refl _) hb) he hw
  have hcol := fun w1 (hb : Below w.heap.size w w1) => colw_any cols n E a c width w1 (ha.below (Nat.le_refl _) hb) he hw
  have herr := fun w1 (hb : Below w.heap.size w w1) => error_any cols n E a c w1 (ha.below (Nat.le_refl _) hb) hn
  rw [he] at herr
  obtain ⟨hc, hn2, _⟩ := balE_zero he
  unfold WidthsPost at htop
  unfold ColWPost at hcol
  obtain ⟨G, hG⟩ : ∃ G, G = colG (needF E (wantA E) n cols) (mostF E n cols) cols width := ⟨_, rfl⟩
  rw [← hG] at htop hcol
  have hsa : sameB cols cols G G = true := by rw [sameB_true]; exact ⟨rfl, fun _ _ => rfl⟩
  have i0 : inB width 0 31680 = true := inB_true.2 hw
  have HT := Lib.hid htop
  have HE := Lib.hid herr
  have HC := Lib.hid hcol
  have HSA := Lib.hid hsa
  clear he hw htop herr hcol hsa hG
  go_enter Try.func12, Try.ntmps12
  go_wp2_with fail
  refine (balanced_any _).mono ?_
  rintro e w1 ⟨rfl, hb1⟩
  go_wp2_with fail
  refine (HT.out _ hb1).mono ?_
  rintro e w2 ⟨hb2, a2, cap2, rfl, hcap, hI⟩
  have HI := Lib.hid hI
  clear hI
  have hb2 := hb1.trans (hb2.mono hb1.size)
  go_wp2_with fail
  refine (HE.out _ hb2).mono ?_
  rintro e w3 ⟨rfl, hb3⟩
  have HI := Lib.hid (HI.out.below (Nat.le_refl _) hb3)
  have hb3 := hb2.trans (hb3.mono hb2.size)
  go_wp2_with (go_at_call 14; refine (in_any _ _ _ _).mono ?_; rintro e w9 ⟨rfl, rfl⟩)
  refine (HC.out _ hb3).mono ?_
  rintro e w4 ⟨hb4, a4, cap4, rfl, hJ⟩
  have HI := Lib.hid (HI.out.below (Nat.le_refl _) hb4)
  have HJ := Lib.hid hJ
  have hb4 := hb3.trans (hb4.mono hb3.size)
  clear hJ
  go_wp2_with fail
  refine (same_any cols cols G G _ _ _ _ _ HI.out HJ.out (by omega) (by omega)).mono ?_
  rintro e w5 ⟨rfl, hb5⟩
  rw [HSA.out]
  have hb5 := hb4.trans (hb5.mono hb4.size)
  go_wp2_with fail
  go_ret
  exact ⟨rfl, hb5⟩
theorem law12_any (cols : Int) (n : Nat) (E : Nat → Nat → Int) (a : Option Addr) (c : Nat) (width : Int) (w : World) (ha : StrF w a n 4 E) (hn : n ≤ 1000000000000000000) :
    Calls Try.prog 12 #[.int .i64 cols, .slice a n c, .int .i64 width] w fun e w' => e = .returned (.bool true) ∧ Below w.heap.size w w' := by
  by_cases he : balE cols n E = 0
  · obtain ⟨hc, _, _⟩ := balE_zero he
    obtain ⟨m, rfl⟩ : ∃ m : Nat, cols = (m : Int) := ⟨cols.toNat, by omega⟩
    by_cases hw : 0 ≤ width ∧ width ≤ 31680
    · exact law12_ok m n E a c width w ha hn he hw
    · exact law12_range m n E a c width w ha hn he hw
  · exact law12_bad cols n E a c width w ha hn he
end Go.Proofs.Ytpbnkkeplhgepaa.BA
