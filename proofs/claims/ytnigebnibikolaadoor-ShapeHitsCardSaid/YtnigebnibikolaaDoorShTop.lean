

/-
  Corners.
-/
import Derived.Test.YtnigebnibikolaaDoorShCorners
import Derived.Test.YtnigebnibikolaaDoorShCheck
namespace Go.Proofs.YtnigebnibikolaaDoor.ShT
open Go.RowKit Go.Law Go.Law.Sh
set_option linter.unusedVariables false
set_option linter.unusedSimpArgs false
set_option maxRecDepth 100000
set_option maxHeartbeats 1000000 in
theorem cornersTop_err (n : Nat) (E : Nat → Nat → Int) (N : Nat → Nat → ByteArray) (item : Int) (a : Option Addr) (c : Nat) (w : World) (ha : ShF w a n E N) (hn : n ≤ 1000000000000000000) (hc : n ≤ c) (he : shE n E ≠ 0) :
    Calls Tryd.prog 30 #[.slice a n c, .int .i64 item] w fun e w' => e = .returned (.tuple #[.slice none 0 0, .int .i64 (shE n E)]) ∧ Below w.heap.size w w' := by
  have HC := Lib.hid (check_any n E N a c w ha hn hc)
  obtain ⟨V, hV⟩ : ∃ V, V = shE n E := ⟨_, rfl⟩
  rw [← hV] at HC he ⊢
  clear ha hV
  have t : (V != 0) = true := by simpa using he
  go_enter Tryd.func30, Tryd.ntmps30
  go_wp2_with fail
  refine HC.out.mono ?_
  rintro e w1 ⟨rfl, hb1⟩
  go_wp2_with fail
  go_ret2
  exact ⟨rfl, hb1⟩
set_option maxHeartbeats 1000000 in
theorem cornersTop_none (n : Nat) (E : Nat → Nat → Int) (N : Nat → Nat → ByteArray) (item : Int) (a : Option Addr) (c : Nat) (w : World) (ha : ShF w a n E N) (hn : n ≤ 1000000000000000000) (hc : n ≤ c) (he : shE n E = 0) (hf : findV n E item < 0) :
    Calls Tryd.prog 30 #[.slice a n c, .int .i64 item] w fun e w' => e = .returned (.tuple #[.slice none 0 0, .int .i64 7]) ∧ Below w.heap.size w w' := by
  have HA := Lib.hid ha
  have HC := Lib.hid (check_any n E N a c w ha hn hc)
  rw [he] at HC
  have HF := Lib.hid (fun w ha => find_any n E N item a c w ha hn)
  obtain ⟨F, hF⟩ : ∃ F, F = findV n E item := ⟨_, rfl⟩
  rw [← hF] at HF hf
  clear ha hF
  go_enter Tryd.func30, Tryd.ntmps30
  go_wp2_with fail
  refine HC.out.mono ?_
  rintro e w1 ⟨rfl, hb1⟩
  go_wp2_with fail
  refine (HF.out w1 (HA.out.below (Nat.le_refl _) hb1)).mono ?_
  rintro e w2 ⟨rfl, hb2⟩
  go_wp2_with fail
  go_ret2
  exact ⟨rfl, hb1.trans (hb2.mono hb1.size)⟩
set_option maxHeartbeats 1000000 in
theorem cornersTop_ok (n k : Nat) (E : Nat → Nat → Int) (N : Nat → Nat → ByteArray) (item : Int) (a : Option Addr) (c : Nat) (w : World) (ha : ShF w a n E N) (hn : n ≤ 1000) (hc : n ≤ c) (he : shE n E = 0) (hf : findV n E item = k) (hk : k < n) (ht : Arr w 3) :
    Calls Tryd.prog 30 #[.slice a n c, .int .i64 item] w fun e w' => ∃ g, e = .returned (.tuple #[.slice (some ⟨g, 0, none⟩) 4 4, .int .i64 0]) ∧ Blk w' g (cornC (cornP n E k) 4) 83 ∧ w.heap.size ≤ g ∧ Below w.heap.size w w' := by
  have HA := Lib.hid ha
  have HT := Lib.hid ht
  have HALL := Lib.hid (fun j hj => right_of ((shE_zero he).2 j hj))
  have HC := Lib.hid (check_any n E N a c w ha (by omega) hc)
  rw [he] at HC
  have HF := Lib.hid (fun w ha => find_any n E N item a c w ha (by omega))
  rw [hf] at HF
  clear ha ht hf he
  go_enter Tryd.func30, Tryd.ntmps30
  go_wp2_with fail
  refine HC.out.mono ?_
  rintro e w1 ⟨rfl, hb1⟩
  go_wp2_with fail
  refine (HF.out w1 (HA.out.below (Nat.le_refl _) hb1)).mono ?_
  rintro e w2 ⟨rfl, hb2⟩
  have hbel := hb1.trans (hb2.mono hb1.size)
  obtain ⟨b, off, rfl, hcellG⟩ := HA.out.below (Nat.le_refl _) hbel (by omega)
  obtain ⟨hci, hc10, hc11⟩ := hcellG k hk
  clear hcellG
  have d0 := hci 0 (by omega)
  rw [Nat.add_zero] at d0
  have d1 := hci 1 (by omega)
  have d2 := hci 2 (by omega)
  have d3 := hci 3 (by omega)
  have d4 := hci 4 (by omega)
  have d5 := hci 5 (by omega)
  have d6 := hci 6 (by omega)
  have d7 := hci 7 (by omega)
  have d8 := hci 8 (by omega)
  have d9 := hci 9 (by omega)
  have zb := lt_of_cell d0
  simp only at zb
  clear hci
  go_wp2_with fail
  refine (corners_any n k E N _ c w2 (HA.out.below (Nat.le_refl _) hbel) hn hk HALL.out (HT.out.below (Nat.le_refl _) hbel)).mono ?_
  rintro e w3 ⟨rfl, hb3⟩
  have hbel3 := hbel.trans (hb3.mono hbel.size)
  obtain ⟨P, hP⟩ : ∃ P, P = cornP n E k := ⟨_, rfl⟩
  rw [← hP]
  have HP := Lib.hid hP
  clear hP
  have hC4 : cornC P 4 = #[.int .i64 (P 0).1, .int .i64 (P 0).2, .int .i64 (P 1).1, .int .i64 (P 1).2, .int .i64 (P 2).1, .int .i64 (P 2).2, .int .i64 (P 3).1, .int .i64 (P 3).2] := rfl
  rw [hC4]
  go_wp2_with fail
  go_ret2
  refine ⟨_, rfl, (by rw [← HP.out, hC4]; exact Blk.new _ _ _), hbel3.size, ?_⟩
  exact hbel3.alloc hbel3.size _
end Go.Proofs.YtnigebnibikolaaDoor.ShT
