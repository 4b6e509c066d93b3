

/-
  moved: the reference's.
  moved: the reference's; it writes one block only.
-/
import Derived.Test.YtabnohphgegflaaDoorSaRow
import Derived.Test.YtabnohphgegflaaDoorBlk
namespace Go.Proofs.YtabnohphgegflaaDoor.ShT
open Go.RowKit Go.Law Go.Law.Sh
set_option linter.unusedVariables false
set_option linter.unusedSimpArgs false
set_option maxRecDepth 100000
set_option maxHeartbeats 1000000 in
theorem moved_any (n k g cap B : Nat) (E : Nat → Nat → Int) (N : Nat → Nat → ByteArray) (item ax b : Int) (w : World) (h : ShR w B (.slice (some ⟨g, 0, none⟩) n cap) n E N) (hn : n ≤ 1000) (hk : k < n) (hf : findV n E item = k) (hB : B ≤ g) (hBw : B ≤ w.heap.size) :
    Calls Tryd.prog 29 #[.slice (some ⟨g, 0, none⟩) n cap, .int .i64 item, .int .i64 ax, .int .i64 b] w fun e w' => e = .returned (.tuple #[]) ∧ ShR w' B (.slice (some ⟨g, 0, none⟩) n cap) n (movE E k ax b) N ∧ Below B w w' := by
  have HC := Lib.hid (shapeAt_any n E N item (some ⟨g, 0, none⟩) cap w (ShR.shF h) (by omega))
  have HH := Lib.hid h
  clear h
  have hkn : (k : Int) < (n : Int) := by omega
  have hk0 : (0 : Int) ≤ (k : Int) := by omega
  by_cases h0 : ax = 0
  · subst h0
    go_enter Tryd.func29, Tryd.ntmps29
    go_wp2_with fail
    refine HC.out.mono ?_
    rintro e w1 ⟨rfl, hb1⟩
    rw [hf]
    have hr : ShR w1 B (.slice (some ⟨g, 0, none⟩) n cap) n E N := RowV.below HH.out hb1 (Nat.le_refl _)
    obtain ⟨g', c', hv, _, hlt, _, _, hfz, hcc⟩ := RowV.at hr (by omega)
    cases hv
    have hx := hcc k hk 3 (by omega)
    rw [show shV E N k 3 = .int .i64 (E k 3) from rfl] at hx
    have hz := hfz (k * 12 + 3)
    have HR := Lib.hid hr
    have HB1 := Lib.hid (hb1.mono hBw)
    clear hr hcc hfz hb1
    go_wp2_with fail
    first | go_end0 | (simp only [Exit.inBlock, Exit.then]; refine bodyPost_ret (results_none rfl _ _ _) rfl ?_) | refine bodyPost_ret (results_none rfl _ _ _) rfl ?_
    refine ⟨rfl, ShR.mov HR.out hk 0 b 3 rfl, HB1.out.setCell (by simpa using hB) _⟩
  · have f0 : (ax == 0) = false := by simpa using h0
    have HAX := Lib.hid h0
    clear h0
    go_enter Tryd.func29, Tryd.ntmps29
    go_wp2_with fail
    refine HC.out.mono ?_
    rintro e w1 ⟨rfl, hb1⟩
    rw [hf]
    have hr : ShR w1 B (.slice (some ⟨g, 0, none⟩) n cap) n E N := RowV.below HH.out hb1 (Nat.le_refl _)
    obtain ⟨g', c', hv, _, hlt, _, _, hfz, hcc⟩ := RowV.at hr (by omega)
    cases hv
    have hx := hcc k hk 4 (by omega)
    rw [show shV E N k 4 = .int .i64 (E k 4) from rfl] at hx
    have hz := hfz (k * 12 + 4)
    have HR := Lib.hid hr
    have HB1 := Lib.hid (hb1.mono hBw)
    clear hr hcc hfz hb1
    go_wp2_with fail
    first | go_end0 | (simp only [Exit.inBlock, Exit.then]; refine bodyPost_ret (results_none rfl _ _ _) rfl ?_) | refine bodyPost_ret (results_none rfl _ _ _) rfl ?_
    refine ⟨rfl, ShR.mov HR.out hk ax b 4 (by rw [if_neg HAX.out]), HB1.out.setCell (by simpa using hB) _⟩
end Go.Proofs.YtabnohphgegflaaDoor.ShT
namespace Go.Proofs.YtabnohphgegflaaDoor.ShT
open Go.RowKit Go.Law Go.Law.Sh
set_option linter.unusedVariables false
set_option linter.unusedSimpArgs false
set_option maxRecDepth 100000
set_option maxHeartbeats 1000000 in
theorem moved_only (n k g cap B : Nat) (E : Nat → Nat → Int) (N : Nat → Nat → ByteArray) (item ax b : Int) (w : World) (h : ShR w B (.slice (some ⟨g, 0, none⟩) n cap) n E N) (hn : n ≤ 1000) (hk : k < n) (hf : findV n E item = k) (hB : B ≤ g) (hBw : B ≤ w.heap.size) :
    Calls Tryd.prog 29 #[.slice (some ⟨g, 0, none⟩) n cap, .int .i64 item, .int .i64 ax, .int .i64 b] w fun e w' => e = .returned (.tuple #[]) ∧ ShR w' B (.slice (some ⟨g, 0, none⟩) n cap) n (movE E k ax b) N ∧ Below B w w' ∧ Only g w w' := by
  have HC := Lib.hid (shapeAt_any n E N item (some ⟨g, 0, none⟩) cap w (ShR.shF h) (by omega))
  have HH := Lib.hid h
  clear h
  have hkn : (k : Int) < (n : Int) := by omega
  have hk0 : (0 : Int) ≤ (k : Int) := by omega
  by_cases h0 : ax = 0
  · subst h0
    go_enter Tryd.func29, Tryd.ntmps29
    go_wp2_with fail
    refine HC.out.mono ?_
    rintro e w1 ⟨rfl, hb1⟩
    rw [hf]
    have hr : ShR w1 B (.slice (some ⟨g, 0, none⟩) n cap) n E N := RowV.below HH.out hb1 (Nat.le_refl _)
    obtain ⟨g', c', hv, _, hlt, _, _, hfz, hcc⟩ := RowV.at hr (by omega)
    cases hv
    have hx := hcc k hk 3 (by omega)
    rw [show shV E N k 3 = .int .i64 (E k 3) from rfl] at hx
    have hz := hfz (k * 12 + 3)
    have HR := Lib.hid hr
    have HB1 := Lib.hid (hb1.mono hBw)
    have HON := Lib.hid (show Only g w w1 from Only.of_below hb1 (Nat.le_refl _))
    clear hr hcc hfz hb1
    go_wp2_with fail
    first | go_end0 | (simp only [Exit.inBlock, Exit.then]; refine bodyPost_ret (results_none rfl _ _ _) rfl ?_) | refine bodyPost_ret (results_none rfl _ _ _) rfl ?_
    refine ⟨rfl, ShR.mov HR.out hk 0 b 3 rfl, HB1.out.setCell (by simpa using hB) _, Only.set HON.out _ _⟩
  · have f0 : (ax == 0) = false := by simpa using h0
    have HAX := Lib.hid h0
    clear h0
    go_enter Tryd.func29, Tryd.ntmps29
    go_wp2_with fail
    refine HC.out.mono ?_
    rintro e w1 ⟨rfl, hb1⟩
    rw [hf]
    have hr : ShR w1 B (.slice (some ⟨g, 0, none⟩) n cap) n E N := RowV.below HH.out hb1 (Nat.le_refl _)
    obtain ⟨g', c', hv, _, hlt, _, _, hfz, hcc⟩ := RowV.at hr (by omega)
    cases hv
    have hx := hcc k hk 4 (by omega)
    rw [show shV E N k 4 = .int .i64 (E k 4) from rfl] at hx
    have hz := hfz (k * 12 + 4)
    have HR := Lib.hid hr
    have HB1 := Lib.hid (hb1.mono hBw)
    have HON := Lib.hid (show Only g w w1 from Only.of_below hb1 (Nat.le_refl _))
    clear hr hcc hfz hb1
    go_wp2_with fail
    first | go_end0 | (simp only [Exit.inBlock, Exit.then]; refine bodyPost_ret (results_none rfl _ _ _) rfl ?_) | refine bodyPost_ret (results_none rfl _ _ _) rfl ?_
    refine ⟨rfl, ShR.mov HR.out hk ax b 4 (by rw [if_neg HAX.out]), HB1.out.setCell (by simpa using hB) _, Only.set HON.out _ _⟩
end Go.Proofs.YtabnohphgegflaaDoor.ShT
