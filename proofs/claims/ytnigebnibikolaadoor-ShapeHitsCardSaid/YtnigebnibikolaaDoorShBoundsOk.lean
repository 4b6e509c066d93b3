

/-
  Bounds.
-/
import Derived.Test.YtnigebnibikolaaDoorShTop
namespace Go.Law.Sh
open Go.RowKit
/-- the rectangle after i points -/
def bndS (P : Nat → Int × Int) : Nat → Int × Int × Int × Int
  | 0 => ((P 0).1, (P 0).2, (P 0).1, (P 0).2)
  | i + 1 => (if (P i).1 < (bndS P i).1 then (P i).1 else (bndS P i).1, if (P i).2 < (bndS P i).2.1 then (P i).2 else (bndS P i).2.1, if (bndS P i).2.2.1 < (P i).1 then (P i).1 else (bndS P i).2.2.1, if (bndS P i).2.2.2 < (P i).2 then (P i).2 else (bndS P i).2.2.2)
def bndC (b : Int × Int × Int × Int) : Array Value := #[.int .i64 b.1, .int .i64 b.2.1, .int .i64 b.2.2.1, .int .i64 b.2.2.2]
end Go.Law.Sh
namespace Go.Proofs.YtnigebnibikolaaDoor.ShT
open Go.RowKit Go.Law Go.Law.Sh
set_option linter.unusedVariables false
set_option linter.unusedSimpArgs false
set_option maxRecDepth 100000
set_option maxHeartbeats 2000000 in
theorem bounds_err (V : Int) (hV : V ≠ 0) (item : Int) (a : Option Addr) (n c : Nat) (w : World)
    (hcall : ∀ w1, Below w.heap.size w w1 → Calls Tryd.prog 30 #[.slice a n c, .int .i64 item] w1 fun e w' => e = .returned (.tuple #[.slice none 0 0, .int .i64 V]) ∧ Below w1.heap.size w1 w') :
    Calls Tryd.prog 31 #[.slice a n c, .int .i64 item] w fun e w' => e = .returned (.tuple #[.agg #[.int .i64 0, .int .i64 0, .int .i64 0, .int .i64 0], .int .i64 V]) ∧ Below w.heap.size w w' := by
  have HC := Lib.hid hcall
  clear hcall
  have t : (V != 0) = true := by simpa using hV
  go_enter Tryd.func31, Tryd.ntmps31
  go_wp2_with fail
  have ha0 : Below w.heap.size w (w.alloc (Obj.cells #[.int .i64 0, .int .i64 0, .int .i64 0, .int .i64 0] 57)) := (Below.refl _ _).alloc (Nat.le_refl _) _
  have hblk := Blk.new w #[.int .i64 0, .int .i64 0, .int .i64 0, .int .i64 0] 57
  refine (HC.out _ ha0).mono ?_
  rintro e w1 ⟨rfl, hb1⟩
  have hbel := ha0.trans (hb1.mono (by simp))
  have h1 := hblk.below hb1 (by simp)
  have c0 : w1.cell? ⟨w.heap.size, 0, none⟩ = some (.int .i64 0) := h1.cell (i := 0) rfl
  have c1 : w1.cell? ⟨w.heap.size, 1, none⟩ = some (.int .i64 0) := h1.cell (i := 1) rfl
  have c2 : w1.cell? ⟨w.heap.size, 2, none⟩ = some (.int .i64 0) := h1.cell (i := 2) rfl
  have c3 : w1.cell? ⟨w.heap.size, 3, none⟩ = some (.int .i64 0) := h1.cell (i := 3) rfl
  have z1 := h1.lt
  have fz := h1.frozen
  clear ha0 hblk h1 hb1
  go_wp2_with fail
  (try simp only [Exit.inBlock, Exit.then])
  refine bodyPost_ret (v := .tuple #[.agg #[.int .i64 0, .int .i64 0, .int .i64 0, .int .i64 0], .int .i64 V]) ?rc rfl ?_
  case rc =>
    rw [results_cell_tmp rfl]
    go_simp
  refine ⟨rfl, ?_⟩
  repeat' (with_reducible first | exact Below.refl _ _ | assumption | refine Below.setCell ?_ ?_ _ | refine Below.alloc ?_ ?_ _ | refine below_drewN ?_ _ | refine Below.drew ?_)
  all_goals first | omega | (simp; done) | (simp; omega)
set_option maxHeartbeats 4000000 in
theorem bounds_ok (P : Nat → Int × Int) (item : Int) (a : Option Addr) (n c : Nat) (w : World)
    (hcall : ∀ w1, Below w.heap.size w w1 → Calls Tryd.prog 30 #[.slice a n c, .int .i64 item] w1 fun e w' => ∃ g, e = .returned (.tuple #[.slice (some ⟨g, 0, none⟩) 4 4, .int .i64 0]) ∧ Blk w' g (cornC P 4) 83 ∧ w1.heap.size ≤ g ∧ Below w1.heap.size w1 w') :
    Calls Tryd.prog 31 #[.slice a n c, .int .i64 item] w fun e w' => e = .returned (.tuple #[.agg (bndC (bndS P 4)), .int .i64 0]) ∧ Below w.heap.size w w' := by
  have HC := Lib.hid hcall
  clear hcall
  go_enter Tryd.func31, Tryd.ntmps31
  go_wp2_with fail
  have ha0 : Below w.heap.size w (w.alloc (Obj.cells #[.int .i64 0, .int .i64 0, .int .i64 0, .int .i64 0] 57)) := (Below.refl _ _).alloc (Nat.le_refl _) _
  have hblk := Blk.new w #[.int .i64 0, .int .i64 0, .int .i64 0, .int .i64 0] 57
  refine (HC.out _ ha0).mono ?_
  rintro e w1 ⟨g, rfl, hg, hgl, hb1⟩
  have hbel := ha0.trans (hb1.mono (by simp))
  have h1 := hblk.below hb1 (by simp)
  have HG := Lib.hid hg
  have H1 := Lib.hid h1
  have g0 : w1.cell? ⟨g, 0, none⟩ = some (.int .i64 (P 0).1) := hg.cell (i := 0) rfl
  have g1 : w1.cell? ⟨g, 1, none⟩ = some (.int .i64 (P 0).2) := hg.cell (i := 1) rfl
  have zg := hg.lt
  clear ha0 hblk h1 hb1 hg
  go_wp2_with fail
  refine wp_region_held_drew (S := fun w' => w'.cell? ⟨g, 0, none⟩ = some (.int .i64 (P 0).1) ∧ w'.cell? ⟨g, 1, none⟩ = some (.int .i64 (P 0).2)) (by kernel_rfl) (by exact ⟨g0, g1⟩) ?_
  intro hHeld
  refine takeD (i := 0) (oi := { dst := some 21, op := _, type := _, pos := _, after := _, guard := _ }) (d := some 21) (v := ?vva21) rfl rfl (by kernel_rfl) (by kernel_rfl) (by kernel_rfl) ?dda21 (by rfl) ?yya21 hHeld ?rra21
  case dda21 => exact fun _ _ _ h => h
  case yya21 => (intro wx hSw; obtain ⟨y0, y1⟩ := hSw; go_simp; try (with_reducible rfl))
  try simp only [Act.put, List.setIfInBounds_toArray, List.set_cons_zero, List.set_cons_succ]
  refine takeD (i := 1) (oi := { dst := some 22, op := _, type := _, pos := _, after := _, guard := _ }) (d := some 22) (v := ?vva22) rfl rfl (by kernel_rfl) (by kernel_rfl) (by kernel_rfl) ?dda22 (by rfl) ?yya22 hHeld ?rra22
  case dda22 => exact fun _ _ _ h => h
  case yya22 => (intro wx hSw; obtain ⟨y0, y1⟩ := hSw; go_simp; try (with_reducible rfl))
  try simp only [Act.put, List.setIfInBounds_toArray, List.set_cons_zero, List.set_cons_succ]
  refine takeD (i := 2) (oi := { dst := some 23, op := _, type := _, pos := _, after := _, guard := _ }) (d := some 23) (v := ?vva23) rfl rfl (by kernel_rfl) (by kernel_rfl) (by kernel_rfl) ?dda23 (by rfl) ?yya23 hHeld ?rra23
  case dda23 => exact fun _ _ _ h => h
  case yya23 => (intro wx hSw; obtain ⟨y0, y1⟩ := hSw; go_simp; try (with_reducible rfl))
  try simp only [Act.put, List.setIfInBounds_toArray, List.set_cons_zero, List.set_cons_succ]
  refine takeD (i := 3) (oi := { dst := some 24, op := _, type := _, pos := _, after := _, guard := _ }) (d := some 24) (v := ?vva24) rfl rfl (by kernel_rfl) (by kernel_rfl) (by kernel_rfl) ?dda24 (by rfl) ?yya24 hHeld ?rra24
  case dda24 => exact fun _ _ _ h => h
  case yya24 => (intro wx hSw; obtain ⟨y0, y1⟩ := hSw; go_simp; try (with_reducible rfl))
  try simp only [Act.put, List.setIfInBounds_toArray, List.set_cons_zero, List.set_cons_succ]
  refine takeD (i := 4) (oi := { dst := some 25, op := _, type := _, pos := _, after := _, guard := _ }) (d := some 25) (v := ?vva25) rfl rfl (by kernel_rfl) (by kernel_rfl) (by kernel_rfl) ?dda25 (by rfl) ?yya25 hHeld ?rra25
  case dda25 => exact fun _ _ _ h => h
  case yya25 => (intro wx hSw; obtain ⟨y0, y1⟩ := hSw; go_simp; try (with_reducible rfl))
  try simp only [Act.put, List.setIfInBounds_toArray, List.set_cons_zero, List.set_cons_succ]
  refine takeD (i := 5) (oi := { dst := some 26, op := _, type := _, pos := _, after := _, guard := _ }) (d := some 26) (v := ?vva26) rfl rfl (by kernel_rfl) (by kernel_rfl) (by kernel_rfl) ?dda26 (by rfl) ?yya26 hHeld ?rra26
  case dda26 => exact fun _ _ _ h => h
  case yya26 => (intro wx hSw; obtain ⟨y0, y1⟩ := hSw; go_simp; try (with_reducible rfl))
  try simp only [Act.put, List.setIfInBounds_toArray, List.set_cons_zero, List.set_cons_succ]
  refine takeD (i := 6) (oi := { dst := some 27, op := _, type := _, pos := _, after := _, guard := _ }) (d := some 27) (v := ?vva27) rfl rfl (by kernel_rfl) (by kernel_rfl) (by kernel_rfl) ?dda27 (by rfl) ?yya27 hHeld ?rra27
  case dda27 => exact fun _ _ _ h => h
  case yya27 => (intro wx hSw; obtain ⟨y0, y1⟩ := hSw; go_simp; try (with_reducible rfl))
  try simp only [Act.put, List.setIfInBounds_toArray, List.set_cons_zero, List.set_cons_succ]
  refine takeD (i := 7) (oi := { dst := some 28, op := _, type := _, pos := _, after := _, guard := _ }) (d := some 28) (v := ?vva28) rfl rfl (by kernel_rfl) (by kernel_rfl) (by kernel_rfl) ?dda28 (by rfl) ?yya28 hHeld ?rra28
  case dda28 => exact fun _ _ _ h => h
  case yya28 => (intro wx hSw; obtain ⟨y0, y1⟩ := hSw; go_simp; try (with_reducible rfl))
  try simp only [Act.put, List.setIfInBounds_toArray, List.set_cons_zero, List.set_cons_succ]
  refine takeD (i := 8) (oi := { dst := some 29, op := _, type := _, pos := _, after := _, guard := _ }) (d := some 29) (v := ?vva29) rfl rfl (by kernel_rfl) (by kernel_rfl) (by kernel_rfl) ?dda29 (by rfl) ?yya29 hHeld ?rra29
  case dda29 => exact fun _ _ _ h => h
  case yya29 => (intro wx hSw; obtain ⟨y0, y1⟩ := hSw; go_simp; try (with_reducible rfl))
  try simp only [Act.put, List.setIfInBounds_toArray, List.set_cons_zero, List.set_cons_succ]
  refine takeD (i := 9) (oi := { dst := some 30, op := _, type := _, pos := _, after := _, guard := _ }) (d := some 30) (v := ?vva30) rfl rfl (by kernel_rfl) (by kernel_rfl) (by kernel_rfl) ?dda30 (by rfl) ?yya30 hHeld ?rra30
  case dda30 => exact fun _ _ _ h => h
  case yya30 => (intro wx hSw; obtain ⟨y0, y1⟩ := hSw; go_simp; try (with_reducible rfl))
  try simp only [Act.put, List.setIfInBounds_toArray, List.set_cons_zero, List.set_cons_succ]
  refine takeD (i := 10) (oi := { dst := some 31, op := _, type := _, pos := _, after := _, guard := _ }) (d := some 31) (v := ?vva31) rfl rfl (by kernel_rfl) (by kernel_rfl) (by kernel_rfl) ?dda31 (by rfl) ?yya31 hHeld ?rra31
  case dda31 => exact fun _ _ _ h => h
  case yya31 => (intro wx hSw; obtain ⟨y0, y1⟩ := hSw; go_simp; try (with_reducible rfl))
  try simp only [Act.put, List.setIfInBounds_toArray, List.set_cons_zero, List.set_cons_succ]
  refine takeD (i := 11) (oi := { dst := some 32, op := _, type := _, pos := _, after := _, guard := _ }) (d := some 32) (v := ?vva32) rfl rfl (by kernel_rfl) (by kernel_rfl) (by kernel_rfl) ?dda32 (by rfl) ?yya32 hHeld ?rra32
  case dda32 => exact fun _ _ _ h => h
  case yya32 => (intro wx hSw; obtain ⟨y0, y1⟩ := hSw; go_simp; try (with_reducible rfl))
  try simp only [Act.put, List.setIfInBounds_toArray, List.set_cons_zero, List.set_cons_succ]
  refine takeD (i := 12) (oi := { dst := some 33, op := _, type := _, pos := _, after := _, guard := _ }) (d := some 33) (v := ?vva33) rfl rfl (by kernel_rfl) (by kernel_rfl) (by kernel_rfl) ?dda33 (by rfl) ?yya33 hHeld ?rra33
  case dda33 => exact fun _ _ _ h => h
  case yya33 => (intro wx hSw; obtain ⟨y0, y1⟩ := hSw; go_simp; try (with_reducible rfl))
  try simp only [Act.put, List.setIfInBounds_toArray, List.set_cons_zero, List.set_cons_succ]
  refine takeD (i := 13) (oi := { dst := some 34, op := _, type := _, pos := _, after := _, guard := _ }) (d := some 34) (v := ?vva34) rfl rfl (by kernel_rfl) (by kernel_rfl) (by kernel_rfl) ?dda34 (by rfl) ?yya34 hHeld ?rra34
  case dda34 => exact fun _ _ _ h => h
  case yya34 => (intro wx hSw; obtain ⟨y0, y1⟩ := hSw; go_simp; try (with_reducible rfl))
  try simp only [Act.put, List.setIfInBounds_toArray, List.set_cons_zero, List.set_cons_succ]
  refine takeD (i := 14) (oi := { dst := some 35, op := _, type := _, pos := _, after := _, guard := _ }) (d := some 35) (v := ?vva35) rfl rfl (by kernel_rfl) (by kernel_rfl) (by kernel_rfl) ?dda35 (by rfl) ?yya35 hHeld ?rra35
  case dda35 => exact fun _ _ _ h => h
  case yya35 => (intro wx hSw; obtain ⟨y0, y1⟩ := hSw; go_simp; try (with_reducible rfl))
  try simp only [Act.put, List.setIfInBounds_toArray, List.set_cons_zero, List.set_cons_succ]
  refine takeD (i := 15) (oi := { dst := some 36, op := _, type := _, pos := _, after := _, guard := _ }) (d := some 36) (v := ?vva36) rfl rfl (by kernel_rfl) (by kernel_rfl) (by kernel_rfl) ?dda36 (by rfl) ?yya36 hHeld ?rra36
  case dda36 => exact fun _ _ _ h => h
  case yya36 => (intro wx hSw; obtain ⟨y0, y1⟩ := hSw; go_simp; try (with_reducible rfl))
  try simp only [Act.put, List.setIfInBounds_toArray, List.set_cons_zero, List.set_cons_succ]
  refine takeD (i := 16) (oi := { dst := some 37, op := _, type := _, pos := _, after := _, guard := _ }) (d := some 37) (v := ?vva37) rfl rfl (by kernel_rfl) (by kernel_rfl) (by kernel_rfl) ?dda37 (by rfl) ?yya37 hHeld ?rra37
  case dda37 => exact fun _ _ _ h => h
  case yya37 => (intro wx hSw; obtain ⟨y0, y1⟩ := hSw; go_simp; try (with_reducible rfl))
  try simp only [Act.put, List.setIfInBounds_toArray, List.set_cons_zero, List.set_cons_succ]
  refine wpAnyH_ready (rs := [17]) (by kernel_rfl) (by simp) ?_
  refine AllReadyH.cons (o := { dst := some 8, op := _, type := _, pos := _, after := _, guard := _ }) rfl (fun K hK => ?_) AllReadyH.nil
  go_simp
  obtain ⟨w2, hw2⟩ : ∃ w2, w2 = (w1.alloc (Obj.cells #[.int .i64 0, .int .i64 0, .int .i64 0, .int .i64 0] 57)).drew := ⟨_, rfl⟩
  rw [← hw2]
  have f1 : Blk w2 w1.heap.size #[.int .i64 0, .int .i64 0, .int .i64 0, .int .i64 0] 57 := by rw [hw2]; exact (Blk.new _ _ _).drew
  have hg2 : Blk w2 g (cornC P 4) 83 := by rw [hw2]; exact (HG.out.alloc _).drew
  have h02 : Blk w2 w.heap.size #[.int .i64 0, .int .i64 0, .int .i64 0, .int .i64 0] 57 := by rw [hw2]; exact (H1.out.alloc _).drew
  have hbel2 : Below w.heap.size w w2 := by rw [hw2]; exact (hbel.alloc hbel.size _).drew
  clear hw2
  refine hK.out _ _ ⟨hg2.cell (i := 0) rfl, hg2.cell (i := 1) rfl⟩ (fun hHeld2 => ?_)
  clear hK K
  try simp only [Act.put, List.setIfInBounds_toArray, List.set_cons_zero, List.set_cons_succ]
  have o0 : w2.cell? ⟨w1.heap.size, 0, none⟩ = some (.int .i64 0) := f1.cell (i := 0) rfl
  have o1 : w2.cell? ⟨w1.heap.size, 1, none⟩ = some (.int .i64 0) := f1.cell (i := 1) rfl
  have o2 : w2.cell? ⟨w1.heap.size, 2, none⟩ = some (.int .i64 0) := f1.cell (i := 2) rfl
  have o3 : w2.cell? ⟨w1.heap.size, 3, none⟩ = some (.int .i64 0) := f1.cell (i := 3) rfl
  have fz := f1.frozen
  have zf := f1.lt
  refine wpAnyH_ready (rs := [18]) (by kernel_rfl) (by simp) ?_
  refine AllReadyH.cons (o := { dst := none, op := _, type := _, pos := _, after := _, guard := _ }) rfl (fun K hK => ?_) AllReadyH.nil
  go_simp
  obtain ⟨w3, hw3⟩ : ∃ w3, w3 = (((w2.setCell { block := w1.heap.size, off := 0 } (.int .i64 (P 0).1)).setCell { block := w1.heap.size, off := 1 } (.int .i64 (P 0).2)).setCell { block := w1.heap.size, off := 2 } (.int .i64 (P 0).1)).setCell { block := w1.heap.size, off := 3 } (.int .i64 (P 0).2) := ⟨_, rfl⟩
  rw [← hw3]
  have hle := hbel.size
  have hne1 : g ≠ w1.heap.size := by omega
  have hne2 : w.heap.size ≠ w1.heap.size := by have := H1.out.lt; omega
  have f3 : Blk w3 w1.heap.size (bndC (bndS P 0)) 57 := by
    have := (((f1.set 0 (.int .i64 (P 0).1)).set 1 (.int .i64 (P 0).2)).set 2 (.int .i64 (P 0).1)).set 3 (.int .i64 (P 0).2)
    simp only [List.setIfInBounds_toArray, List.set_cons_zero, List.set_cons_succ] at this
    rw [hw3]; exact this
  have hg3 : Blk w3 g (cornC P 4) 83 := by rw [hw3]; exact (((hg2.other (by simpa using hne1) _).other (by simpa using hne1) _).other (by simpa using hne1) _).other (by simpa using hne1) _
  have h03 : Blk w3 w.heap.size #[.int .i64 0, .int .i64 0, .int .i64 0, .int .i64 0] 57 := by rw [hw3]; exact (((h02.other (by simpa using hne2) _).other (by simpa using hne2) _).other (by simpa using hne2) _).other (by simpa using hne2) _
  have hbel3 : Below w.heap.size w w3 := by rw [hw3]; exact (((hbel2.setCell hle _).setCell hle _).setCell hle _).setCell hle _
  refine hK.out _ _ ⟨hg3.cell (i := 0) rfl, hg3.cell (i := 1) rfl⟩ (fun hHeld3 => ?_)
  clear hK K
  try simp only [Act.put, List.setIfInBounds_toArray, List.set_cons_zero, List.set_cons_succ]
  refine wpAnyH_done (by kernel_rfl) ?_ _
  clear hHeld hHeld2 hHeld3 hw3 o0 o1 o2 o3 fz zf f1 hg2 h02 hbel2 g0 g1
  have F3 := Lib.hid f3
  have HG3 := Lib.hid hg3
  have H03 := Lib.hid h03
  have HBE := Lib.hid hbel3
  clear f3 hg3 h03 hbel3
  obtain ⟨q, hq⟩ : ∃ q, q = w1.heap.size := ⟨_, rfl⟩
  rw [← hq] at F3 hle hne1 hne2 ⊢
  clear hq hbel zg
  go_wp2_with fail
  go_loopw [40] (fun ix wr => ∃ i : Nat, ix = .int .i64 i ∧ i ≤ 4 ∧ Blk wr q (bndC (bndS P i)) 57 ∧ Blk wr g (cornC P 4) 83 ∧ Blk wr w.heap.size #[.int .i64 0, .int .i64 0, .int .i64 0, .int .i64 0] 57 ∧ Below w.heap.size w wr) (fun ix _ => 4 - (intOf ix).toNat)
  case atStart => exact ⟨0, rfl, by omega, F3.out, HG3.out, H03.out, HBE.out⟩
  case round =>
    obtain ⟨i, rfl, hi, h1, h2, h3, hbel⟩ := hrel
    have FR := Lib.hid h1
    have HGR := Lib.hid h2
    have H0R := Lib.hid h3
    have hsz := hbel.size
    clear h1 h2 h3 F3 HG3 H03 HBE
    by_cases hi4 : i < 4
    · obtain rfl | rfl | rfl | rfl : i = 0 ∨ i = 1 ∨ i = 2 ∨ i = 3 := by omega
      · have p0 : wr.cell? ⟨g, 0, none⟩ = some (.int .i64 (P 0).1) := HGR.out.cell (i := 0) rfl
        have p1 : wr.cell? ⟨g, 1, none⟩ = some (.int .i64 (P 0).2) := HGR.out.cell (i := 1) rfl
        obtain ⟨b, hb⟩ : ∃ b, b = bndS P 0 := ⟨_, rfl⟩
        have HBN := Lib.hid (show bndS P 1 = (if (P 0).1 < b.1 then (P 0).1 else b.1, if (P 0).2 < b.2.1 then (P 0).2 else b.2.1, if b.2.2.1 < (P 0).1 then (P 0).1 else b.2.2.1, if b.2.2.2 < (P 0).2 then (P 0).2 else b.2.2.2) by rw [hb]; rfl)
        rw [← hb] at FR
        clear hb
        have o0 : wr.cell? ⟨q, 0, none⟩ = some (.int .i64 b.1) := FR.out.cell (i := 0) rfl
        have o1 : wr.cell? ⟨q, 1, none⟩ = some (.int .i64 b.2.1) := FR.out.cell (i := 1) rfl
        have o2 : wr.cell? ⟨q, 2, none⟩ = some (.int .i64 b.2.2.1) := FR.out.cell (i := 2) rfl
        have o3 : wr.cell? ⟨q, 3, none⟩ = some (.int .i64 b.2.2.2) := FR.out.cell (i := 3) rfl
        have fz := FR.out.frozen
        have zf := FR.out.lt
        have zg := HGR.out.lt
        have knew := (((FR.out.set 0 (.int .i64 (if (P 0).1 < b.1 then (P 0).1 else b.1))).set 1 (.int .i64 (if (P 0).2 < b.2.1 then (P 0).2 else b.2.1))).set 2 (.int .i64 (if b.2.2.1 < (P 0).1 then (P 0).1 else b.2.2.1))).set 3 (.int .i64 (if b.2.2.2 < (P 0).2 then (P 0).2 else b.2.2.2))
        have KN := Lib.hid knew
        clear knew
        go_wp2_with fail
        go_roundw
        case rel =>
          refine ⟨1, rfl, by omega, ?_, (((((HGR.out.other (by simpa using hne1) _).other (by simpa using hne1) _).other (by simpa using hne1) _).other (by simpa using hne1) _).alloc _), (((((H0R.out.other (by simpa using hne2) _).other (by simpa using hne2) _).other (by simpa using hne2) _).other (by simpa using hne2) _).alloc _), ?_⟩
          · have h := KN.out.alloc (Obj.cells #[.int .i64 (P 0).1, .int .i64 (P 0).2] 64)
            rw [HBN.out]
            simp only [bndC, List.setIfInBounds_toArray, List.set_cons_zero, List.set_cons_succ] at h
            exact h
          · repeat' (with_reducible first | exact Below.refl _ _ | assumption | refine Below.setCell ?_ ?_ _ | refine Below.alloc ?_ ?_ _ | refine below_drewN ?_ _ | refine Below.drew ?_)
            all_goals first | omega | (simp; done) | (simp; omega)
        case measure => simp [intOf]
      · have p0 : wr.cell? ⟨g, 2, none⟩ = some (.int .i64 (P 1).1) := HGR.out.cell (i := 2) rfl
        have p1 : wr.cell? ⟨g, 3, none⟩ = some (.int .i64 (P 1).2) := HGR.out.cell (i := 3) rfl
        obtain ⟨b, hb⟩ : ∃ b, b = bndS P 1 := ⟨_, rfl⟩
        have HBN := Lib.hid (show bndS P 2 = (if (P 1).1 < b.1 then (P 1).1 else b.1, if (P 1).2 < b.2.1 then (P 1).2 else b.2.1, if b.2.2.1 < (P 1).1 then (P 1).1 else b.2.2.1, if b.2.2.2 < (P 1).2 then (P 1).2 else b.2.2.2) by rw [hb]; rfl)
        rw [← hb] at FR
        clear hb
        have o0 : wr.cell? ⟨q, 0, none⟩ = some (.int .i64 b.1) := FR.out.cell (i := 0) rfl
        have o1 : wr.cell? ⟨q, 1, none⟩ = some (.int .i64 b.2.1) := FR.out.cell (i := 1) rfl
        have o2 : wr.cell? ⟨q, 2, none⟩ = some (.int .i64 b.2.2.1) := FR.out.cell (i := 2) rfl
        have o3 : wr.cell? ⟨q, 3, none⟩ = some (.int .i64 b.2.2.2) := FR.out.cell (i := 3) rfl
        have fz := FR.out.frozen
        have zf := FR.out.lt
        have zg := HGR.out.lt
        have knew := (((FR.out.set 0 (.int .i64 (if (P 1).1 < b.1 then (P 1).1 else b.1))).set 1 (.int .i64 (if (P 1).2 < b.2.1 then (P 1).2 else b.2.1))).set 2 (.int .i64 (if b.2.2.1 < (P 1).1 then (P 1).1 else b.2.2.1))).set 3 (.int .i64 (if b.2.2.2 < (P 1).2 then (P 1).2 else b.2.2.2))
        have KN := Lib.hid knew
        clear knew
        go_wp2_with fail
        go_roundw
        case rel =>
          refine ⟨2, rfl, by omega, ?_, (((((HGR.out.other (by simpa using hne1) _).other (by simpa using hne1) _).other (by simpa using hne1) _).other (by simpa using hne1) _).alloc _), (((((H0R.out.other (by simpa using hne2) _).other (by simpa using hne2) _).other (by simpa using hne2) _).other (by simpa using hne2) _).alloc _), ?_⟩
          · have h := KN.out.alloc (Obj.cells #[.int .i64 (P 1).1, .int .i64 (P 1).2] 64)
            rw [HBN.out]
            simp only [bndC, List.setIfInBounds_toArray, List.set_cons_zero, List.set_cons_succ] at h
            exact h
          · repeat' (with_reducible first | exact Below.refl _ _ | assumption | refine Below.setCell ?_ ?_ _ | refine Below.alloc ?_ ?_ _ | refine below_drewN ?_ _ | refine Below.drew ?_)
            all_goals first | omega | (simp; done) | (simp; omega)
        case measure => simp [intOf]
      · have p0 : wr.cell? ⟨g, 4, none⟩ = some (.int .i64 (P 2).1) := HGR.out.cell (i := 4) rfl
        have p1 : wr.cell? ⟨g, 5, none⟩ = some (.int .i64 (P 2).2) := HGR.out.cell (i := 5) rfl
        obtain ⟨b, hb⟩ : ∃ b, b = bndS P 2 := ⟨_, rfl⟩
        have HBN := Lib.hid (show bndS P 3 = (if (P 2).1 < b.1 then (P 2).1 else b.1, if (P 2).2 < b.2.1 then (P 2).2 else b.2.1, if b.2.2.1 < (P 2).1 then (P 2).1 else b.2.2.1, if b.2.2.2 < (P 2).2 then (P 2).2 else b.2.2.2) by rw [hb]; rfl)
        rw [← hb] at FR
        clear hb
        have o0 : wr.cell? ⟨q, 0, none⟩ = some (.int .i64 b.1) := FR.out.cell (i := 0) rfl
        have o1 : wr.cell? ⟨q, 1, none⟩ = some (.int .i64 b.2.1) := FR.out.cell (i := 1) rfl
        have o2 : wr.cell? ⟨q, 2, none⟩ = some (.int .i64 b.2.2.1) := FR.out.cell (i := 2) rfl
        have o3 : wr.cell? ⟨q, 3, none⟩ = some (.int .i64 b.2.2.2) := FR.out.cell (i := 3) rfl
        have fz := FR.out.frozen
        have zf := FR.out.lt
        have zg := HGR.out.lt
        have knew := (((FR.out.set 0 (.int .i64 (if (P 2).1 < b.1 then (P 2).1 else b.1))).set 1 (.int .i64 (if (P 2).2 < b.2.1 then (P 2).2 else b.2.1))).set 2 (.int .i64 (if b.2.2.1 < (P 2).1 then (P 2).1 else b.2.2.1))).set 3 (.int .i64 (if b.2.2.2 < (P 2).2 then (P 2).2 else b.2.2.2))
        have KN := Lib.hid knew
        clear knew
        go_wp2_with fail
        go_roundw
        case rel =>
          refine ⟨3, rfl, by omega, ?_, (((((HGR.out.other (by simpa using hne1) _).other (by simpa using hne1) _).other (by simpa using hne1) _).other (by simpa using hne1) _).alloc _), (((((H0R.out.other (by simpa using hne2) _).other (by simpa using hne2) _).other (by simpa using hne2) _).other (by simpa using hne2) _).alloc _), ?_⟩
          · have h := KN.out.alloc (Obj.cells #[.int .i64 (P 2).1, .int .i64 (P 2).2] 64)
            rw [HBN.out]
            simp only [bndC, List.setIfInBounds_toArray, List.set_cons_zero, List.set_cons_succ] at h
            exact h
          · repeat' (with_reducible first | exact Below.refl _ _ | assumption | refine Below.setCell ?_ ?_ _ | refine Below.alloc ?_ ?_ _ | refine below_drewN ?_ _ | refine Below.drew ?_)
            all_goals first | omega | (simp; done) | (simp; omega)
        case measure => simp [intOf]
      · have p0 : wr.cell? ⟨g, 6, none⟩ = some (.int .i64 (P 3).1) := HGR.out.cell (i := 6) rfl
        have p1 : wr.cell? ⟨g, 7, none⟩ = some (.int .i64 (P 3).2) := HGR.out.cell (i := 7) rfl
        obtain ⟨b, hb⟩ : ∃ b, b = bndS P 3 := ⟨_, rfl⟩
        have HBN := Lib.hid (show bndS P 4 = (if (P 3).1 < b.1 then (P 3).1 else b.1, if (P 3).2 < b.2.1 then (P 3).2 else b.2.1, if b.2.2.1 < (P 3).1 then (P 3).1 else b.2.2.1, if b.2.2.2 < (P 3).2 then (P 3).2 else b.2.2.2) by rw [hb]; rfl)
        rw [← hb] at FR
        clear hb
        have o0 : wr.cell? ⟨q, 0, none⟩ = some (.int .i64 b.1) := FR.out.cell (i := 0) rfl
        have o1 : wr.cell? ⟨q, 1, none⟩ = some (.int .i64 b.2.1) := FR.out.cell (i := 1) rfl
        have o2 : wr.cell? ⟨q, 2, none⟩ = some (.int .i64 b.2.2.1) := FR.out.cell (i := 2) rfl
        have o3 : wr.cell? ⟨q, 3, none⟩ = some (.int .i64 b.2.2.2) := FR.out.cell (i := 3) rfl
        have fz := FR.out.frozen
        have zf := FR.out.lt
        have zg := HGR.out.lt
        have knew := (((FR.out.set 0 (.int .i64 (if (P 3).1 < b.1 then (P 3).1 else b.1))).set 1 (.int .i64 (if (P 3).2 < b.2.1 then (P 3).2 else b.2.1))).set 2 (.int .i64 (if b.2.2.1 < (P 3).1 then (P 3).1 else b.2.2.1))).set 3 (.int .i64 (if b.2.2.2 < (P 3).2 then (P 3).2 else b.2.2.2))
        have KN := Lib.hid knew
        clear knew
        go_wp2_with fail
        go_roundw
        case rel =>
          refine ⟨4, rfl, by omega, ?_, (((((HGR.out.other (by simpa using hne1) _).other (by simpa using hne1) _).other (by simpa using hne1) _).other (by simpa using hne1) _).alloc _), (((((H0R.out.other (by simpa using hne2) _).other (by simpa using hne2) _).other (by simpa using hne2) _).other (by simpa using hne2) _).alloc _), ?_⟩
          · have h := KN.out.alloc (Obj.cells #[.int .i64 (P 3).1, .int .i64 (P 3).2] 64)
            rw [HBN.out]
            simp only [bndC, List.setIfInBounds_toArray, List.set_cons_zero, List.set_cons_succ] at h
            exact h
          · repeat' (with_reducible first | exact Below.refl _ _ | assumption | refine Below.setCell ?_ ?_ _ | refine Below.alloc ?_ ?_ _ | refine below_drewN ?_ _ | refine Below.drew ?_)
            all_goals first | omega | (simp; done) | (simp; omega)
        case measure => simp [intOf]
    · obtain rfl : i = 4 := by omega
      obtain ⟨b, hb⟩ : ∃ b, b = bndS P 4 := ⟨_, rfl⟩
      rw [← hb] at FR
      have HB := Lib.hid hb
      clear hb
      have o0 : wr.cell? ⟨q, 0, none⟩ = some (.int .i64 b.1) := FR.out.cell (i := 0) rfl
      have o1 : wr.cell? ⟨q, 1, none⟩ = some (.int .i64 b.2.1) := FR.out.cell (i := 1) rfl
      have o2 : wr.cell? ⟨q, 2, none⟩ = some (.int .i64 b.2.2.1) := FR.out.cell (i := 2) rfl
      have o3 : wr.cell? ⟨q, 3, none⟩ = some (.int .i64 b.2.2.2) := FR.out.cell (i := 3) rfl
      have r0 : wr.cell? ⟨w.heap.size, 0, none⟩ = some (.int .i64 0) := H0R.out.cell (i := 0) rfl
      have r1 : wr.cell? ⟨w.heap.size, 1, none⟩ = some (.int .i64 0) := H0R.out.cell (i := 1) rfl
      have r2 : wr.cell? ⟨w.heap.size, 2, none⟩ = some (.int .i64 0) := H0R.out.cell (i := 2) rfl
      have r3 : wr.cell? ⟨w.heap.size, 3, none⟩ = some (.int .i64 0) := H0R.out.cell (i := 3) rfl
      have fz := H0R.out.frozen
      have zr := H0R.out.lt
      go_wp2_with fail
      (try simp only [Exit.inBlock, Exit.then])
      refine bodyPost_ret (v := .tuple #[.agg #[.int .i64 b.1, .int .i64 b.2.1, .int .i64 b.2.2.1, .int .i64 b.2.2.2], .int .i64 0]) ?rc rfl ?_
      case rc =>
        rw [results_cell_tmp rfl]
        go_simp
      refine ⟨by rw [← HB.out]; rfl, ?_⟩
      repeat' (with_reducible first | exact Below.refl _ _ | assumption | refine Below.setCell ?_ ?_ _ | refine Below.alloc ?_ ?_ _ | refine below_drewN ?_ _ | refine Below.drew ?_)
      all_goals first | omega | (simp; done) | (simp; omega)
end Go.Proofs.YtnigebnibikolaaDoor.ShT
