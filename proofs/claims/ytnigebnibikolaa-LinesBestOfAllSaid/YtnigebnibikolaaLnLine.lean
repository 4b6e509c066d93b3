

/-
  line.
-/
import Derived.Test.YtnigebnibikolaaLnMaker2
namespace Go.Proofs.Ytnigebnibikolaa.LN
open Go.RowKit Go.Law Go.Law.Ln
set_option linter.unusedVariables false
set_option linter.unusedSimpArgs false
set_option maxRecDepth 100000
/-- the cells that a line reads -/
def SL (m n : Nat) (gw gg gy a z : Nat) (wa wz ga gz ya yz : Int) (w : World) : Prop :=
  w.cell? ⟨m, 3, none⟩ = some (.slice (some ⟨gw, 0, none⟩) (n + 1) (n + 1)) ∧ w.cell? ⟨m, 4, none⟩ = some (.slice (some ⟨gg, 0, none⟩) (n + 1) (n + 1)) ∧ w.cell? ⟨m, 5, none⟩ = some (.slice (some ⟨gy, 0, none⟩) (n + 1) (n + 1)) ∧
  w.cell? ⟨gw, a, none⟩ = some (.int .i64 wa) ∧ w.cell? ⟨gw, z, none⟩ = some (.int .i64 wz) ∧ w.cell? ⟨gg, a, none⟩ = some (.int .i64 ga) ∧ w.cell? ⟨gg, z, none⟩ = some (.int .i64 gz) ∧ w.cell? ⟨gy, a, none⟩ = some (.int .i64 ya) ∧ w.cell? ⟨gy, z, none⟩ = some (.int .i64 yz)
def lineV (x : Line) : Value := .agg #[.int .i64 x.a, .int .i64 x.z, .int .i64 x.nat, .int .i64 x.str, .int .i64 x.shr, .int .i64 x.wid]
set_option maxHeartbeats 2000000 in
theorem line_any (m n : Nat) (L : Nat → Part) (nw : Nat) (W : Nat → Int) (D : Int) (a z num : Nat) (w : World) (hm : Mk w m n L nw W D) (hn : n ≤ 8000) (ha : a ≤ z) (hz : z ≤ n) (hok : ∀ i, i < n → (L i).Ok) (hnw : 1 ≤ nw ∧ nw ≤ 1000) (hnum : num ≤ 100000) :
    Calls Try.prog 57 #[.pointer (some ⟨m, 0, none⟩), .int .i64 a, .int .i64 z, .int .i64 num] w fun e w' => e = .returned (lineV (lineF n L nw W a z num)) ∧ Below w.heap.size w w' := by
  have HM := Lib.hid hm
  have HV := Lib.hid (show lineV (lineF n L nw W a z num) = .agg #[.int .i64 a, .int .i64 z, .int .i64 (wdF L z - wdF L a + addF n L z), .int .i64 (grF L z - grF L a), .int .i64 (ylF L z - ylF L a), .int .i64 (W (min num (nw - 1)))] from rfl)
  have sz := sums hok z hz
  have sa := sums hok a (by omega)
  have mo := mono hok ha hz
  obtain ⟨wz, hwz⟩ : ∃ v, v = wdF L z := ⟨_, rfl⟩
  obtain ⟨wa, hwa⟩ : ∃ v, v = wdF L a := ⟨_, rfl⟩
  obtain ⟨gz, hgz⟩ : ∃ v, v = grF L z := ⟨_, rfl⟩
  obtain ⟨ga, hga⟩ : ∃ v, v = grF L a := ⟨_, rfl⟩
  obtain ⟨yz, hyz⟩ : ∃ v, v = ylF L z := ⟨_, rfl⟩
  obtain ⟨ya, hya⟩ : ∃ v, v = ylF L a := ⟨_, rfl⟩
  rw [← hwz, ← hwa, ← hgz, ← hga, ← hyz, ← hya] at HV
  rw [← hwz, ← hgz, ← hyz] at sz
  rw [← hwa, ← hga, ← hya] at sa
  rw [← hwz, ← hwa, ← hgz, ← hga, ← hyz, ← hya] at mo
  have HWZ := Lib.hid hwz
  have HWA := Lib.hid hwa
  have HGZ := Lib.hid hgz
  have HGA := Lib.hid hga
  have HYZ := Lib.hid hyz
  have HYA := Lib.hid hya
  clear hwz hwa hgz hga hyz hya hm
  have hmin : ¬ ((z : Int) < (a : Int)) := by omega
  go_enter Try.func57, Try.ntmps57
  go_wp2_with fail
  obtain ⟨w0, hw0⟩ : ∃ w0, w0 = w.alloc (Obj.cells #[.int .i64 0, .int .i64 0, .int .i64 0, .int .i64 0, .int .i64 0, .int .i64 0] 74) := ⟨_, rfl⟩
  have hbel : Below w.heap.size w w0 := by rw [hw0]; exact (Below.refl _ _).alloc (Nat.le_refl _) _
  have b0 : Blk w0 w.heap.size #[.int .i64 0, .int .i64 0, .int .i64 0, .int .i64 0, .int .i64 0, .int .i64 0] 74 := by rw [hw0]; exact Blk.new _ _ _
  rw [← hw0]
  clear hw0
  have hM0 := HM.out.below (Nat.le_refl _) hbel
  obtain ⟨aP, cP, aW, cW, gw, gg, gy, gb, hMA⟩ := hM0
  have HMA := Lib.hid hMA
  obtain ⟨⟨m0, m1, m2, m3, m4, m5, m6⟩, mP, mW, mwd, mgr, myl, mbg⟩ := hMA
  have hSL : SL m n gw gg gy a z wa wz ga gz ya yz w0.drew := ⟨m3, m4, m5, by rw [HWA.out]; exact mwd a (by omega), by rw [HWZ.out]; exact mwd z (by omega), by rw [HGA.out]; exact mgr a (by omega), by rw [HGZ.out]; exact mgr z (by omega), by rw [HYA.out]; exact myl a (by omega), by rw [HYZ.out]; exact myl z (by omega)⟩
  clear m0 m1 m2 m3 m4 m5 m6 mP mW mwd mgr myl mbg
  have f1 : IntKind.i64.wrap (wz - wa) = wz - wa := IntWalk.i64_in _ ⟨by omega, by omega⟩
  have f2 : IntKind.i64.wrap (gz - ga) = gz - ga := IntWalk.i64_in _ ⟨by omega, by omega⟩
  have f3 : IntKind.i64.wrap (yz - ya) = yz - ya := IntWalk.i64_in _ ⟨by omega, by omega⟩
  have q1 : (a : Int) < (n : Int) + 1 := by omega
  have q2 : (z : Int) < (n : Int) + 1 := by omega
  refine wp_region_held_drew (S := SL m n gw gg gy a z wa wz ga gz ya yz) (by kernel_rfl) hSL ?_
  intro hHeld
  refine takeD (i := 0) (oi := { dst := some 13, op := _, type := _, pos := _, after := _, guard := _ }) (d := some 13) (v := ?vva13) rfl rfl (by kernel_rfl) (by kernel_rfl) (by kernel_rfl) ?dda13 (by rfl) ?yya13 hHeld ?rra13
  case dda13 => exact fun _ _ _ h => h
  case yya13 => (intro wx hSw; obtain ⟨y0, y1, y2, y3, y4, y5, y6, y7, y8⟩ := hSw; go_simp; try (with_reducible rfl))
  try simp only [Act.put, List.setIfInBounds_toArray, List.set_cons_zero, List.set_cons_succ]
  refine takeD (i := 1) (oi := { dst := some 14, op := _, type := _, pos := _, after := _, guard := _ }) (d := some 14) (v := ?vva14) rfl rfl (by kernel_rfl) (by kernel_rfl) (by kernel_rfl) ?dda14 (by rfl) ?yya14 hHeld ?rra14
  case dda14 => exact fun _ _ _ h => h
  case yya14 => (intro wx hSw; obtain ⟨y0, y1, y2, y3, y4, y5, y6, y7, y8⟩ := hSw; go_simp; try (with_reducible rfl))
  try simp only [Act.put, List.setIfInBounds_toArray, List.set_cons_zero, List.set_cons_succ]
  refine takeD (i := 2) (oi := { dst := some 15, op := _, type := _, pos := _, after := _, guard := _ }) (d := some 15) (v := ?vva15) rfl rfl (by kernel_rfl) (by kernel_rfl) (by kernel_rfl) ?dda15 (by rfl) ?yya15 hHeld ?rra15
  case dda15 => exact fun _ _ _ h => h
  case yya15 => (intro wx hSw; obtain ⟨y0, y1, y2, y3, y4, y5, y6, y7, y8⟩ := hSw; go_simp; try (with_reducible rfl))
  try simp only [Act.put, List.setIfInBounds_toArray, List.set_cons_zero, List.set_cons_succ]
  refine takeD (i := 3) (oi := { dst := some 16, op := _, type := _, pos := _, after := _, guard := _ }) (d := some 16) (v := ?vva16) rfl rfl (by kernel_rfl) (by kernel_rfl) (by kernel_rfl) ?dda16 (by rfl) ?yya16 hHeld ?rra16
  case dda16 => exact fun _ _ _ h => h
  case yya16 => (intro wx hSw; obtain ⟨y0, y1, y2, y3, y4, y5, y6, y7, y8⟩ := hSw; go_simp; try (with_reducible rfl))
  try simp only [Act.put, List.setIfInBounds_toArray, List.set_cons_zero, List.set_cons_succ]
  refine takeD (i := 4) (oi := { dst := some 17, op := _, type := _, pos := _, after := _, guard := _ }) (d := some 17) (v := ?vva17) rfl rfl (by kernel_rfl) (by kernel_rfl) (by kernel_rfl) ?dda17 (by rfl) ?yya17 hHeld ?rra17
  case dda17 => exact fun _ _ _ h => h
  case yya17 => (intro wx hSw; obtain ⟨y0, y1, y2, y3, y4, y5, y6, y7, y8⟩ := hSw; go_simp; try (with_reducible rfl))
  try simp only [Act.put, List.setIfInBounds_toArray, List.set_cons_zero, List.set_cons_succ]
  refine takeD (i := 5) (oi := { dst := some 18, op := _, type := _, pos := _, after := _, guard := _ }) (d := some 18) (v := ?vva18) rfl rfl (by kernel_rfl) (by kernel_rfl) (by kernel_rfl) ?dda18 (by rfl) ?yya18 hHeld ?rra18
  case dda18 => exact fun _ _ _ h => h
  case yya18 => (intro wx hSw; obtain ⟨y0, y1, y2, y3, y4, y5, y6, y7, y8⟩ := hSw; go_simp; try (with_reducible rfl))
  try simp only [Act.put, List.setIfInBounds_toArray, List.set_cons_zero, List.set_cons_succ]
  refine takeD (i := 6) (oi := { dst := some 19, op := _, type := _, pos := _, after := _, guard := _ }) (d := some 19) (v := ?vva19) rfl rfl (by kernel_rfl) (by kernel_rfl) (by kernel_rfl) ?dda19 (by rfl) ?yya19 hHeld ?rra19
  case dda19 => exact fun _ _ _ h => h
  case yya19 => (intro wx hSw; obtain ⟨y0, y1, y2, y3, y4, y5, y6, y7, y8⟩ := hSw; go_simp; try (with_reducible rfl))
  try simp only [Act.put, List.setIfInBounds_toArray, List.set_cons_zero, List.set_cons_succ]
  refine takeD (i := 7) (oi := { dst := some 20, op := _, type := _, pos := _, after := _, guard := _ }) (d := some 20) (v := ?vva20) rfl rfl (by kernel_rfl) (by kernel_rfl) (by kernel_rfl) ?dda20 (by rfl) ?yya20 hHeld ?rra20
  case dda20 => exact fun _ _ _ h => h
  case yya20 => (intro wx hSw; obtain ⟨y0, y1, y2, y3, y4, y5, y6, y7, y8⟩ := hSw; go_simp; try (with_reducible rfl))
  try simp only [Act.put, List.setIfInBounds_toArray, List.set_cons_zero, List.set_cons_succ]
  refine takeD (i := 8) (oi := { dst := some 21, op := _, type := _, pos := _, after := _, guard := _ }) (d := some 21) (v := ?vva21) rfl rfl (by kernel_rfl) (by kernel_rfl) (by kernel_rfl) ?dda21 (by rfl) ?yya21 hHeld ?rra21
  case dda21 => exact fun _ _ _ h => h
  case yya21 => (intro wx hSw; obtain ⟨y0, y1, y2, y3, y4, y5, y6, y7, y8⟩ := hSw; go_simp; try (with_reducible rfl))
  try simp only [Act.put, List.setIfInBounds_toArray, List.set_cons_zero, List.set_cons_succ]
  refine takeD (i := 9) (oi := { dst := some 22, op := _, type := _, pos := _, after := _, guard := _ }) (d := some 22) (v := ?vva22) rfl rfl (by kernel_rfl) (by kernel_rfl) (by kernel_rfl) ?dda22 (by rfl) ?yya22 hHeld ?rra22
  case dda22 => exact fun _ _ _ h => h
  case yya22 => (intro wx hSw; obtain ⟨y0, y1, y2, y3, y4, y5, y6, y7, y8⟩ := hSw; go_simp; try (with_reducible rfl))
  try simp only [Act.put, List.setIfInBounds_toArray, List.set_cons_zero, List.set_cons_succ]
  refine takeD (i := 10) (oi := { dst := some 23, op := _, type := _, pos := _, after := _, guard := _ }) (d := some 23) (v := ?vva23) rfl rfl (by kernel_rfl) (by kernel_rfl) (by kernel_rfl) ?dda23 (by rfl) ?yya23 hHeld ?rra23
  case dda23 => exact fun _ _ _ h => h
  case yya23 => (intro wx hSw; obtain ⟨y0, y1, y2, y3, y4, y5, y6, y7, y8⟩ := hSw; go_simp; try (with_reducible rfl))
  try simp only [Act.put, List.setIfInBounds_toArray, List.set_cons_zero, List.set_cons_succ]
  refine takeD (i := 11) (oi := { dst := some 24, op := _, type := _, pos := _, after := _, guard := _ }) (d := some 24) (v := ?vva24) rfl rfl (by kernel_rfl) (by kernel_rfl) (by kernel_rfl) ?dda24 (by rfl) ?yya24 hHeld ?rra24
  case dda24 => exact fun _ _ _ h => h
  case yya24 => (intro wx hSw; obtain ⟨y0, y1, y2, y3, y4, y5, y6, y7, y8⟩ := hSw; go_simp; try (with_reducible rfl))
  try simp only [Act.put, List.setIfInBounds_toArray, List.set_cons_zero, List.set_cons_succ]
  refine takeD (i := 12) (oi := { dst := some 25, op := _, type := _, pos := _, after := _, guard := _ }) (d := some 25) (v := ?vva25) rfl rfl (by kernel_rfl) (by kernel_rfl) (by kernel_rfl) ?dda25 (by rfl) ?yya25 hHeld ?rra25
  case dda25 => exact fun _ _ _ h => h
  case yya25 => (intro wx hSw; obtain ⟨y0, y1, y2, y3, y4, y5, y6, y7, y8⟩ := hSw; go_simp; try (with_reducible rfl))
  try simp only [Act.put, List.setIfInBounds_toArray, List.set_cons_zero, List.set_cons_succ]
  refine takeD (i := 13) (oi := { dst := some 26, op := _, type := _, pos := _, after := _, guard := _ }) (d := some 26) (v := ?vva26) rfl rfl (by kernel_rfl) (by kernel_rfl) (by kernel_rfl) ?dda26 (by rfl) ?yya26 hHeld ?rra26
  case dda26 => exact fun _ _ _ h => h
  case yya26 => (intro wx hSw; obtain ⟨y0, y1, y2, y3, y4, y5, y6, y7, y8⟩ := hSw; go_simp; try (with_reducible rfl))
  try simp only [Act.put, List.setIfInBounds_toArray, List.set_cons_zero, List.set_cons_succ]
  refine takeD (i := 14) (oi := { dst := some 27, op := _, type := _, pos := _, after := _, guard := _ }) (d := some 27) (v := ?vva27) rfl rfl (by kernel_rfl) (by kernel_rfl) (by kernel_rfl) ?dda27 (by rfl) ?yya27 hHeld ?rra27
  case dda27 => exact fun _ _ _ h => h
  case yya27 => (intro wx hSw; obtain ⟨y0, y1, y2, y3, y4, y5, y6, y7, y8⟩ := hSw; go_simp; try (with_reducible rfl))
  try simp only [Act.put, List.setIfInBounds_toArray, List.set_cons_zero, List.set_cons_succ]
  refine takeD (i := 15) (oi := { dst := some 28, op := _, type := _, pos := _, after := _, guard := _ }) (d := some 28) (v := ?vva28) rfl rfl (by kernel_rfl) (by kernel_rfl) (by kernel_rfl) ?dda28 (by rfl) ?yya28 hHeld ?rra28
  case dda28 => exact fun _ _ _ h => h
  case yya28 => (intro wx hSw; obtain ⟨y0, y1, y2, y3, y4, y5, y6, y7, y8⟩ := hSw; go_simp; try (with_reducible rfl))
  try simp only [Act.put, List.setIfInBounds_toArray, List.set_cons_zero, List.set_cons_succ]
  refine takeD (i := 16) (oi := { dst := some 29, op := _, type := _, pos := _, after := _, guard := _ }) (d := some 29) (v := ?vva29) rfl rfl (by kernel_rfl) (by kernel_rfl) (by kernel_rfl) ?dda29 (by rfl) ?yya29 hHeld ?rra29
  case dda29 => exact fun _ _ _ h => h
  case yya29 => (intro wx hSw; obtain ⟨y0, y1, y2, y3, y4, y5, y6, y7, y8⟩ := hSw; go_simp; try (with_reducible rfl))
  try simp only [Act.put, List.setIfInBounds_toArray, List.set_cons_zero, List.set_cons_succ]
  refine takeD (i := 17) (oi := { dst := some 30, op := _, type := _, pos := _, after := _, guard := _ }) (d := some 30) (v := ?vva30) rfl rfl (by kernel_rfl) (by kernel_rfl) (by kernel_rfl) ?dda30 (by rfl) ?yya30 hHeld ?rra30
  case dda30 => exact fun _ _ _ h => h
  case yya30 => (intro wx hSw; obtain ⟨y0, y1, y2, y3, y4, y5, y6, y7, y8⟩ := hSw; go_simp; try (with_reducible rfl))
  try simp only [Act.put, List.setIfInBounds_toArray, List.set_cons_zero, List.set_cons_succ]
  refine takeD (i := 18) (oi := { dst := some 31, op := _, type := _, pos := _, after := _, guard := _ }) (d := some 31) (v := ?vva31) rfl rfl (by kernel_rfl) (by kernel_rfl) (by kernel_rfl) ?dda31 (by rfl) ?yya31 hHeld ?rra31
  case dda31 => exact fun _ _ _ h => h
  case yya31 => (intro wx hSw; obtain ⟨y0, y1, y2, y3, y4, y5, y6, y7, y8⟩ := hSw; go_simp; try (with_reducible rfl))
  try simp only [Act.put, List.setIfInBounds_toArray, List.set_cons_zero, List.set_cons_succ]
  refine takeD (i := 19) (oi := { dst := some 32, op := _, type := _, pos := _, after := _, guard := _ }) (d := some 32) (v := ?vva32) rfl rfl (by kernel_rfl) (by kernel_rfl) (by kernel_rfl) ?dda32 (by rfl) ?yya32 hHeld ?rra32
  case dda32 => exact fun _ _ _ h => h
  case yya32 => (intro wx hSw; obtain ⟨y0, y1, y2, y3, y4, y5, y6, y7, y8⟩ := hSw; go_simp; try (with_reducible rfl))
  try simp only [Act.put, List.setIfInBounds_toArray, List.set_cons_zero, List.set_cons_succ]
  refine takeD (i := 20) (oi := { dst := some 33, op := _, type := _, pos := _, after := _, guard := _ }) (d := some 33) (v := ?vva33) rfl rfl (by kernel_rfl) (by kernel_rfl) (by kernel_rfl) ?dda33 (by rfl) ?yya33 hHeld ?rra33
  case dda33 => exact fun _ _ _ h => h
  case yya33 => (intro wx hSw; obtain ⟨y0, y1, y2, y3, y4, y5, y6, y7, y8⟩ := hSw; go_simp; try (with_reducible rfl))
  try simp only [Act.put, List.setIfInBounds_toArray, List.set_cons_zero, List.set_cons_succ]
  refine takeD (i := 21) (oi := { dst := some 34, op := _, type := _, pos := _, after := _, guard := _ }) (d := some 34) (v := ?vva34) rfl rfl (by kernel_rfl) (by kernel_rfl) (by kernel_rfl) ?dda34 (by rfl) ?yya34 hHeld ?rra34
  case dda34 => exact fun _ _ _ h => h
  case yya34 => (intro wx hSw; obtain ⟨y0, y1, y2, y3, y4, y5, y6, y7, y8⟩ := hSw; go_simp; try (with_reducible rfl))
  try simp only [Act.put, List.setIfInBounds_toArray, List.set_cons_zero, List.set_cons_succ]
  refine takeD (i := 22) (oi := { dst := some 35, op := _, type := _, pos := _, after := _, guard := _ }) (d := some 35) (v := ?vva35) rfl rfl (by kernel_rfl) (by kernel_rfl) (by kernel_rfl) ?dda35 (by rfl) ?yya35 hHeld ?rra35
  case dda35 => exact fun _ _ _ h => h
  case yya35 => (intro wx hSw; obtain ⟨y0, y1, y2, y3, y4, y5, y6, y7, y8⟩ := hSw; go_simp; try (with_reducible rfl))
  try simp only [Act.put, List.setIfInBounds_toArray, List.set_cons_zero, List.set_cons_succ]
  refine takeD (i := 23) (oi := { dst := some 36, op := _, type := _, pos := _, after := _, guard := _ }) (d := some 36) (v := ?vva36) rfl rfl (by kernel_rfl) (by kernel_rfl) (by kernel_rfl) ?dda36 (by rfl) ?yya36 hHeld ?rra36
  case dda36 => exact fun _ _ _ h => h
  case yya36 => (intro wx hSw; obtain ⟨y0, y1, y2, y3, y4, y5, y6, y7, y8⟩ := hSw; go_simp; try (with_reducible rfl))
  try simp only [Act.put, List.setIfInBounds_toArray, List.set_cons_zero, List.set_cons_succ]
  refine takeD (i := 24) (oi := { dst := some 37, op := _, type := _, pos := _, after := _, guard := _ }) (d := some 37) (v := ?vva37) rfl rfl (by kernel_rfl) (by kernel_rfl) (by kernel_rfl) ?dda37 (by rfl) ?yya37 hHeld ?rra37
  case dda37 => exact fun _ _ _ h => h
  case yya37 => (intro wx hSw; obtain ⟨y0, y1, y2, y3, y4, y5, y6, y7, y8⟩ := hSw; go_simp; try (with_reducible rfl))
  try simp only [Act.put, List.setIfInBounds_toArray, List.set_cons_zero, List.set_cons_succ]
  refine takeD (i := 25) (oi := { dst := some 38, op := _, type := _, pos := _, after := _, guard := _ }) (d := some 38) (v := ?vva38) rfl rfl (by kernel_rfl) (by kernel_rfl) (by kernel_rfl) ?dda38 (by rfl) ?yya38 hHeld ?rra38
  case dda38 => exact fun _ _ _ h => h
  case yya38 => (intro wx hSw; obtain ⟨y0, y1, y2, y3, y4, y5, y6, y7, y8⟩ := hSw; go_simp; try (with_reducible rfl))
  try simp only [Act.put, List.setIfInBounds_toArray, List.set_cons_zero, List.set_cons_succ]
  refine takeD (i := 26) (oi := { dst := some 39, op := _, type := _, pos := _, after := _, guard := _ }) (d := some 39) (v := ?vva39) rfl rfl (by kernel_rfl) (by kernel_rfl) (by kernel_rfl) ?dda39 (by rfl) ?yya39 hHeld ?rra39
  case dda39 => exact fun _ _ _ h => h
  case yya39 => (intro wx hSw; obtain ⟨y0, y1, y2, y3, y4, y5, y6, y7, y8⟩ := hSw; go_simp; try (with_reducible rfl))
  try simp only [Act.put, List.setIfInBounds_toArray, List.set_cons_zero, List.set_cons_succ]
  refine takeD (i := 27) (oi := { dst := some 40, op := _, type := _, pos := _, after := _, guard := _ }) (d := some 40) (v := ?vva40) rfl rfl (by kernel_rfl) (by kernel_rfl) (by kernel_rfl) ?dda40 (by rfl) ?yya40 hHeld ?rra40
  case dda40 => exact fun _ _ _ h => h
  case yya40 => (intro wx hSw; obtain ⟨y0, y1, y2, y3, y4, y5, y6, y7, y8⟩ := hSw; go_simp; try (with_reducible rfl))
  try simp only [Act.put, List.setIfInBounds_toArray, List.set_cons_zero, List.set_cons_succ]
  refine takeD (i := 28) (oi := { dst := some 41, op := _, type := _, pos := _, after := _, guard := _ }) (d := some 41) (v := ?vva41) rfl rfl (by kernel_rfl) (by kernel_rfl) (by kernel_rfl) ?dda41 (by rfl) ?yya41 hHeld ?rra41
  case dda41 => exact fun _ _ _ h => h
  case yya41 => (intro wx hSw; obtain ⟨y0, y1, y2, y3, y4, y5, y6, y7, y8⟩ := hSw; go_simp; try (with_reducible rfl))
  try simp only [Act.put, List.setIfInBounds_toArray, List.set_cons_zero, List.set_cons_succ]
  refine takeD (i := 29) (oi := { dst := some 42, op := _, type := _, pos := _, after := _, guard := _ }) (d := some 42) (v := ?vva42) rfl rfl (by kernel_rfl) (by kernel_rfl) (by kernel_rfl) ?dda42 (by rfl) ?yya42 hHeld ?rra42
  case dda42 => exact fun _ _ _ h => h
  case yya42 => (intro wx hSw; obtain ⟨y0, y1, y2, y3, y4, y5, y6, y7, y8⟩ := hSw; go_simp; try (with_reducible rfl))
  try simp only [Act.put, List.setIfInBounds_toArray, List.set_cons_zero, List.set_cons_succ]
  refine takeD (i := 30) (oi := { dst := some 43, op := _, type := _, pos := _, after := _, guard := _ }) (d := some 43) (v := ?vva43) rfl rfl (by kernel_rfl) (by kernel_rfl) (by kernel_rfl) ?dda43 (by rfl) ?yya43 hHeld ?rra43
  case dda43 => exact fun _ _ _ h => h
  case yya43 => (intro wx hSw; obtain ⟨y0, y1, y2, y3, y4, y5, y6, y7, y8⟩ := hSw; go_simp; try (with_reducible rfl))
  try simp only [Act.put, List.setIfInBounds_toArray, List.set_cons_zero, List.set_cons_succ]
  refine takeD (i := 31) (oi := { dst := some 44, op := _, type := _, pos := _, after := _, guard := _ }) (d := some 44) (v := ?vva44) rfl rfl (by kernel_rfl) (by kernel_rfl) (by kernel_rfl) ?dda44 (by rfl) ?yya44 hHeld ?rra44
  case dda44 => exact fun _ _ _ h => h
  case yya44 => (intro wx hSw; obtain ⟨y0, y1, y2, y3, y4, y5, y6, y7, y8⟩ := hSw; go_simp; try (with_reducible rfl))
  try simp only [Act.put, List.setIfInBounds_toArray, List.set_cons_zero, List.set_cons_succ]
  refine takeD (i := 32) (oi := { dst := some 45, op := _, type := _, pos := _, after := _, guard := _ }) (d := some 45) (v := ?vva45) rfl rfl (by kernel_rfl) (by kernel_rfl) (by kernel_rfl) ?dda45 (by rfl) ?yya45 hHeld ?rra45
  case dda45 => exact fun _ _ _ h => h
  case yya45 => (intro wx hSw; obtain ⟨y0, y1, y2, y3, y4, y5, y6, y7, y8⟩ := hSw; go_simp; try (with_reducible rfl))
  try simp only [Act.put, List.setIfInBounds_toArray, List.set_cons_zero, List.set_cons_succ]
  refine takeD (i := 33) (oi := { dst := some 46, op := _, type := _, pos := _, after := _, guard := _ }) (d := some 46) (v := ?vva46) rfl rfl (by kernel_rfl) (by kernel_rfl) (by kernel_rfl) ?dda46 (by rfl) ?yya46 hHeld ?rra46
  case dda46 => exact fun _ _ _ h => h
  case yya46 => (intro wx hSw; obtain ⟨y0, y1, y2, y3, y4, y5, y6, y7, y8⟩ := hSw; go_simp; try (with_reducible rfl))
  try simp only [Act.put, List.setIfInBounds_toArray, List.set_cons_zero, List.set_cons_succ]
  refine takeD (i := 34) (oi := { dst := some 47, op := _, type := _, pos := _, after := _, guard := _ }) (d := some 47) (v := ?vva47) rfl rfl (by kernel_rfl) (by kernel_rfl) (by kernel_rfl) ?dda47 (by rfl) ?yya47 hHeld ?rra47
  case dda47 => exact fun _ _ _ h => h
  case yya47 => (intro wx hSw; obtain ⟨y0, y1, y2, y3, y4, y5, y6, y7, y8⟩ := hSw; go_simp; try (with_reducible rfl))
  try simp only [Act.put, List.setIfInBounds_toArray, List.set_cons_zero, List.set_cons_succ]
  refine takeD (i := 35) (oi := { dst := some 48, op := _, type := _, pos := _, after := _, guard := _ }) (d := some 48) (v := ?vva48) rfl rfl (by kernel_rfl) (by kernel_rfl) (by kernel_rfl) ?dda48 (by rfl) ?yya48 hHeld ?rra48
  case dda48 => exact fun _ _ _ h => h
  case yya48 => (intro wx hSw; obtain ⟨y0, y1, y2, y3, y4, y5, y6, y7, y8⟩ := hSw; go_simp; try (with_reducible rfl))
  try simp only [Act.put, List.setIfInBounds_toArray, List.set_cons_zero, List.set_cons_succ]
  refine takeD (i := 36) (oi := { dst := some 49, op := _, type := _, pos := _, after := _, guard := _ }) (d := some 49) (v := ?vva49) rfl rfl (by kernel_rfl) (by kernel_rfl) (by kernel_rfl) ?dda49 (by rfl) ?yya49 hHeld ?rra49
  case dda49 => exact fun _ _ _ h => h
  case yya49 => (intro wx hSw; obtain ⟨y0, y1, y2, y3, y4, y5, y6, y7, y8⟩ := hSw; go_simp; try (with_reducible rfl))
  try simp only [Act.put, List.setIfInBounds_toArray, List.set_cons_zero, List.set_cons_succ]
  refine takeD (i := 37) (oi := { dst := some 50, op := _, type := _, pos := _, after := _, guard := _ }) (d := some 50) (v := ?vva50) rfl rfl (by kernel_rfl) (by kernel_rfl) (by kernel_rfl) ?dda50 (by rfl) ?yya50 hHeld ?rra50
  case dda50 => exact fun _ _ _ h => h
  case yya50 => (intro wx hSw; obtain ⟨y0, y1, y2, y3, y4, y5, y6, y7, y8⟩ := hSw; go_simp; try (with_reducible rfl))
  try simp only [Act.put, List.setIfInBounds_toArray, List.set_cons_zero, List.set_cons_succ]
  refine takeD (i := 38) (oi := { dst := some 51, op := _, type := _, pos := _, after := _, guard := _ }) (d := some 51) (v := ?vva51) rfl rfl (by kernel_rfl) (by kernel_rfl) (by kernel_rfl) ?dda51 (by rfl) ?yya51 hHeld ?rra51
  case dda51 => exact fun _ _ _ h => h
  case yya51 => (intro wx hSw; obtain ⟨y0, y1, y2, y3, y4, y5, y6, y7, y8⟩ := hSw; go_simp; try (with_reducible rfl))
  try simp only [Act.put, List.setIfInBounds_toArray, List.set_cons_zero, List.set_cons_succ]
  refine takeD (i := 39) (oi := { dst := some 52, op := _, type := _, pos := _, after := _, guard := _ }) (d := some 52) (v := ?vva52) rfl rfl (by kernel_rfl) (by kernel_rfl) (by kernel_rfl) ?dda52 (by rfl) ?yya52 hHeld ?rra52
  case dda52 => exact fun _ _ _ h => h
  case yya52 => (intro wx hSw; obtain ⟨y0, y1, y2, y3, y4, y5, y6, y7, y8⟩ := hSw; go_simp; try (with_reducible rfl))
  try simp only [Act.put, List.setIfInBounds_toArray, List.set_cons_zero, List.set_cons_succ]
  refine takeD (i := 40) (oi := { dst := some 53, op := _, type := _, pos := _, after := _, guard := _ }) (d := some 53) (v := ?vva53) rfl rfl (by kernel_rfl) (by kernel_rfl) (by kernel_rfl) ?dda53 (by rfl) ?yya53 hHeld ?rra53
  case dda53 => exact fun _ _ _ h => h
  case yya53 => (intro wx hSw; obtain ⟨y0, y1, y2, y3, y4, y5, y6, y7, y8⟩ := hSw; go_simp; try (with_reducible rfl))
  try simp only [Act.put, List.setIfInBounds_toArray, List.set_cons_zero, List.set_cons_succ]
  refine takeD (i := 41) (oi := { dst := some 54, op := _, type := _, pos := _, after := _, guard := _ }) (d := some 54) (v := ?vva54) rfl rfl (by kernel_rfl) (by kernel_rfl) (by kernel_rfl) ?dda54 (by rfl) ?yya54 hHeld ?rra54
  case dda54 => exact fun _ _ _ h => h
  case yya54 => (intro wx hSw; obtain ⟨y0, y1, y2, y3, y4, y5, y6, y7, y8⟩ := hSw; go_simp; try (with_reducible rfl))
  try simp only [Act.put, List.setIfInBounds_toArray, List.set_cons_zero, List.set_cons_succ]
  refine takeD (i := 42) (oi := { dst := some 55, op := _, type := _, pos := _, after := _, guard := _ }) (d := some 55) (v := ?vva55) rfl rfl (by kernel_rfl) (by kernel_rfl) (by kernel_rfl) ?dda55 (by rfl) ?yya55 hHeld ?rra55
  case dda55 => exact fun _ _ _ h => h
  case yya55 => (intro wx hSw; obtain ⟨y0, y1, y2, y3, y4, y5, y6, y7, y8⟩ := hSw; go_simp; try (with_reducible rfl))
  try simp only [Act.put, List.setIfInBounds_toArray, List.set_cons_zero, List.set_cons_succ]
  refine takeD (i := 43) (oi := { dst := some 56, op := _, type := _, pos := _, after := _, guard := _ }) (d := some 56) (v := ?vva56) rfl rfl (by kernel_rfl) (by kernel_rfl) (by kernel_rfl) ?dda56 (by rfl) ?yya56 hHeld ?rra56
  case dda56 => exact fun _ _ _ h => h
  case yya56 => (intro wx hSw; obtain ⟨y0, y1, y2, y3, y4, y5, y6, y7, y8⟩ := hSw; go_simp; try (with_reducible rfl))
  try simp only [Act.put, List.setIfInBounds_toArray, List.set_cons_zero, List.set_cons_succ]
  refine takeD (i := 44) (oi := { dst := some 57, op := _, type := _, pos := _, after := _, guard := _ }) (d := some 57) (v := ?vva57) rfl rfl (by kernel_rfl) (by kernel_rfl) (by kernel_rfl) ?dda57 (by rfl) ?yya57 hHeld ?rra57
  case dda57 => exact fun _ _ _ h => h
  case yya57 => (intro wx hSw; obtain ⟨y0, y1, y2, y3, y4, y5, y6, y7, y8⟩ := hSw; go_simp; try (with_reducible rfl))
  try simp only [Act.put, List.setIfInBounds_toArray, List.set_cons_zero, List.set_cons_succ]
  refine takeD (i := 45) (oi := { dst := some 58, op := _, type := _, pos := _, after := _, guard := _ }) (d := some 58) (v := ?vva58) rfl rfl (by kernel_rfl) (by kernel_rfl) (by kernel_rfl) ?dda58 (by rfl) ?yya58 hHeld ?rra58
  case dda58 => exact fun _ _ _ h => h
  case yya58 => (intro wx hSw; obtain ⟨y0, y1, y2, y3, y4, y5, y6, y7, y8⟩ := hSw; go_simp; try (with_reducible rfl))
  try simp only [Act.put, List.setIfInBounds_toArray, List.set_cons_zero, List.set_cons_succ]
  refine takeD (i := 46) (oi := { dst := some 59, op := _, type := _, pos := _, after := _, guard := _ }) (d := some 59) (v := ?vva59) rfl rfl (by kernel_rfl) (by kernel_rfl) (by kernel_rfl) ?dda59 (by rfl) ?yya59 hHeld ?rra59
  case dda59 => exact fun _ _ _ h => h
  case yya59 => (intro wx hSw; obtain ⟨y0, y1, y2, y3, y4, y5, y6, y7, y8⟩ := hSw; go_simp; try (with_reducible rfl))
  try simp only [Act.put, List.setIfInBounds_toArray, List.set_cons_zero, List.set_cons_succ]
  refine takeD (i := 47) (oi := { dst := some 60, op := _, type := _, pos := _, after := _, guard := _ }) (d := some 60) (v := ?vva60) rfl rfl (by kernel_rfl) (by kernel_rfl) (by kernel_rfl) ?dda60 (by rfl) ?yya60 hHeld ?rra60
  case dda60 => exact fun _ _ _ h => h
  case yya60 => (intro wx hSw; obtain ⟨y0, y1, y2, y3, y4, y5, y6, y7, y8⟩ := hSw; go_simp; try (with_reducible rfl))
  try simp only [Act.put, List.setIfInBounds_toArray, List.set_cons_zero, List.set_cons_succ]
  clear f1 f2 f3 q1 q2
  refine wpAnyH_ready (rs := [48]) (by kernel_rfl) (by simp) ?_
  refine AllReadyH.cons (o := { dst := some 9, op := _, type := _, pos := _, after := _, guard := _ }) rfl (fun K hK => ?_) AllReadyH.nil
  go_simp
  have hle0 := hbel.size
  obtain ⟨w1, hw1⟩ : ∃ w1, w1 = (w0.alloc (Obj.cells #[.int .i64 0, .int .i64 0, .int .i64 0, .int .i64 0, .int .i64 0, .int .i64 0] 74)).drew := ⟨_, rfl⟩
  rw [← hw1]
  have x1 : Blk w1 w0.heap.size #[.int .i64 0, .int .i64 0, .int .i64 0, .int .i64 0, .int .i64 0, .int .i64 0] 74 := by rw [hw1]; exact (Blk.new _ _ _).drew
  have b1 : Blk w1 w.heap.size #[.int .i64 0, .int .i64 0, .int .i64 0, .int .i64 0, .int .i64 0, .int .i64 0] 74 := by rw [hw1]; exact (b0.alloc _).drew
  have hb1 : Below w0.heap.size w0 w1 := by rw [hw1]; exact ((Below.refl _ _).alloc (Nat.le_refl _) _).drew
  obtain ⟨x, hx⟩ : ∃ x, x = w0.heap.size := ⟨_, rfl⟩
  have hwx : w.heap.size < x := by rw [hx]; exact b0.lt
  have HB1 := Lib.hid hb1
  rw [← hx] at x1 ⊢
  have HXQ := Lib.hid hx
  clear hw1 hx
  have hbel1 := hbel.trans (hb1.mono hle0)
  have hM1 := HMA.out.below (Nat.le_refl _) hb1
  have hSL1 : SL m n gw gg gy a z wa wz ga gz ya yz w1 := by
    obtain ⟨⟨m0, m1, m2, m3, m4, m5, m6⟩, mP, mW, mwd, mgr, myl, mbg⟩ := hM1
    exact ⟨m3, m4, m5, by rw [HWA.out]; exact mwd a (by omega), by rw [HWZ.out]; exact mwd z (by omega), by rw [HGA.out]; exact mgr a (by omega), by rw [HGZ.out]; exact mgr z (by omega), by rw [HYA.out]; exact myl a (by omega), by rw [HYZ.out]; exact myl z (by omega)⟩
  refine hK.out _ _ hSL1 (fun hHeld2 => ?_)
  clear hK K
  try simp only [Act.put, List.setIfInBounds_toArray, List.set_cons_zero, List.set_cons_succ]
  have y0 : w1.cell? ⟨x, 0, none⟩ = some (.int .i64 0) := x1.cell (i := 0) rfl
  have y1 : w1.cell? ⟨x, 1, none⟩ = some (.int .i64 0) := x1.cell (i := 1) rfl
  have y2 : w1.cell? ⟨x, 2, none⟩ = some (.int .i64 0) := x1.cell (i := 2) rfl
  have y3 : w1.cell? ⟨x, 3, none⟩ = some (.int .i64 0) := x1.cell (i := 3) rfl
  have y4 : w1.cell? ⟨x, 4, none⟩ = some (.int .i64 0) := x1.cell (i := 4) rfl
  have y5 : w1.cell? ⟨x, 5, none⟩ = some (.int .i64 0) := x1.cell (i := 5) rfl
  have fz := x1.frozen
  have zf := x1.lt
  refine wpAnyH_ready (rs := [49]) (by kernel_rfl) (by simp) ?_
  refine AllReadyH.cons (o := { dst := none, op := _, type := _, pos := _, after := _, guard := _ }) rfl (fun K hK => ?_) AllReadyH.nil
  go_simp
  obtain ⟨w2, hw2⟩ : ∃ w2, w2 = (((((w1.setCell ⟨x, 0, none⟩ (.int .i64 a)).setCell ⟨x, 1, none⟩ (.int .i64 z)).setCell ⟨x, 2, none⟩ (.int .i64 (wz - wa))).setCell ⟨x, 3, none⟩ (.int .i64 (gz - ga))).setCell ⟨x, 4, none⟩ (.int .i64 (yz - ya))).setCell ⟨x, 5, none⟩ (.int .i64 0) := ⟨_, rfl⟩
  rw [← hw2]
  have x2 : Blk w2 x #[.int .i64 a, .int .i64 z, .int .i64 (wz - wa), .int .i64 (gz - ga), .int .i64 (yz - ya), .int .i64 0] 74 := by
    have h := (((((x1.set 0 (.int .i64 a)).set 1 (.int .i64 z)).set 2 (.int .i64 (wz - wa))).set 3 (.int .i64 (gz - ga))).set 4 (.int .i64 (yz - ya))).set 5 (.int .i64 0)
    simp only [List.setIfInBounds_toArray, List.set_cons_zero, List.set_cons_succ] at h
    rw [hw2]; exact h
  have hne : w.heap.size ≠ x := by omega
  have b2 : Blk w2 w.heap.size #[.int .i64 0, .int .i64 0, .int .i64 0, .int .i64 0, .int .i64 0, .int .i64 0] 74 := by
    rw [hw2]; exact (((((b1.other hne _).other hne _).other hne _).other hne _).other hne _).other hne _
  have hb2 : Below x w1 w2 := by rw [hw2]; exact ((((((Below.refl x w1).setCell (p := ⟨x, 0, none⟩) (Nat.le_refl x) _).setCell (p := ⟨x, 1, none⟩) (Nat.le_refl x) _).setCell (p := ⟨x, 2, none⟩) (Nat.le_refl x) _).setCell (p := ⟨x, 3, none⟩) (Nat.le_refl x) _).setCell (p := ⟨x, 4, none⟩) (Nat.le_refl x) _).setCell (p := ⟨x, 5, none⟩) (Nat.le_refl x) _
  have hb02 : Below w0.heap.size w0 w2 := HB1.out.trans (by rw [← HXQ.out]; exact hb2)
  have hbel2 := hbel.trans (hb02.mono hle0)
  have hM2 := HMA.out.below (Nat.le_refl _) hb02
  have hSL2 : SL m n gw gg gy a z wa wz ga gz ya yz w2 := by
    obtain ⟨⟨m0, m1, m2, m3, m4, m5, m6⟩, mP, mW, mwd, mgr, myl, mbg⟩ := hM2
    exact ⟨m3, m4, m5, by rw [HWA.out]; exact mwd a (by omega), by rw [HWZ.out]; exact mwd z (by omega), by rw [HGA.out]; exact mgr a (by omega), by rw [HGZ.out]; exact mgr z (by omega), by rw [HYA.out]; exact myl a (by omega), by rw [HYZ.out]; exact myl z (by omega)⟩
  refine hK.out _ _ hSL2 (fun hHeld3 => ?_)
  clear hK K
  try simp only [Act.put, List.setIfInBounds_toArray, List.set_cons_zero, List.set_cons_succ]
  refine wpAnyH_done (by kernel_rfl) ?_ _
  have HB02 := Lib.hid hb02
  clear hHeld hHeld2 hHeld3 hw2 hSL hSL1 hSL2 y0 y1 y2 y3 y4 y5 fz zf x1 b1 hb1 hM1 hbel1 b0 hb2 hbel hb02
  have X2 := Lib.hid x2
  have B2 := Lib.hid b2
  have HM2 := Lib.hid hM2
  clear x2 b2 hM2
  obtain ⟨⟨m0, m1, m2, m3, m4, m5, m6⟩, mP, mW, mwd, mgr, myl, mbg⟩ := HM2.out
  have zm := lt_of_cell m0
  simp only at zm
  have zx := X2.out.lt
  clear m2 m3 m4 m5 m6 mwd mgr myl mbg
  by_cases hzn : z = n
  · have HN := Lib.hid (show addF n L z = 0 by unfold addF; rw [if_neg (by omega)])
    subst hzn
    clear mP
    go_wp2_with fail
    obtain ⟨bW, oW, haW, hWc⟩ := mW (by omega)
    obtain ⟨k, hk⟩ : ∃ k, k = min num (nw - 1) := ⟨_, rfl⟩
    have hkn : k < nw := by omega
    have dW := hWc k hkn
    obtain ⟨WK, hWK⟩ : ∃ v, v = W k := ⟨_, rfl⟩
    rw [← hWK] at dW
    have HWK := Lib.hid (show W (min num (nw - 1)) = WK by rw [hWK, hk])
    subst haW
    have e1 : IntKind.i64.wrap ((nw : Int) - 1) = (nw : Int) - 1 := IntWalk.i64_in _ ⟨by omega, by omega⟩
    have e2 : (if (nw : Int) - 1 < (num : Int) then (nw : Int) - 1 else (num : Int)) = (k : Int) := by split <;> omega
    have e3 : (k : Int) < (nw : Int) := by omega
    clear hWc hWK hk mW
    go_still_tail 17, (by kernel_rfl)
    change wpList _ _ _ _ _ w2.drew
    clear e1 e2 e3 dW
    obtain ⟨we, hwe⟩ : ∃ we, we = w2.drew := ⟨_, rfl⟩
    rw [← hwe]
    have xe := (X2).out.drew
    have be := (B2).out.drew
    have hbe := (hbel2).drew
    rw [← hwe] at xe be hbe
    clear hwe
    have u0 : we.cell? ⟨x, 0, none⟩ = some (.int .i64 a) := xe.cell (i := 0) rfl
    have u1 : we.cell? ⟨x, 1, none⟩ = some (.int .i64 z) := xe.cell (i := 1) rfl
    have u2 : we.cell? ⟨x, 2, none⟩ = some (.int .i64 (wz - wa)) := xe.cell (i := 2) rfl
    have u3 : we.cell? ⟨x, 3, none⟩ = some (.int .i64 (gz - ga)) := xe.cell (i := 3) rfl
    have u4 : we.cell? ⟨x, 4, none⟩ = some (.int .i64 (yz - ya)) := xe.cell (i := 4) rfl
    have u5 : we.cell? ⟨x, 5, none⟩ = some (.int .i64 0) := xe.cell (i := 5) rfl
    have t0 : we.cell? ⟨w.heap.size, 0, none⟩ = some (.int .i64 0) := be.cell (i := 0) rfl
    have t1 : we.cell? ⟨w.heap.size, 1, none⟩ = some (.int .i64 0) := be.cell (i := 1) rfl
    have t2 : we.cell? ⟨w.heap.size, 2, none⟩ = some (.int .i64 0) := be.cell (i := 2) rfl
    have t3 : we.cell? ⟨w.heap.size, 3, none⟩ = some (.int .i64 0) := be.cell (i := 3) rfl
    have t4 : we.cell? ⟨w.heap.size, 4, none⟩ = some (.int .i64 0) := be.cell (i := 4) rfl
    have t5 : we.cell? ⟨w.heap.size, 5, none⟩ = some (.int .i64 0) := be.cell (i := 5) rfl
    have fx := xe.frozen
    have fb := be.frozen
    have zx := xe.lt
    have zt := be.lt
    have xn : x ≠ w.heap.size := by omega
    clear m0 m1 zm
    go_wp2_with fail
    have hfin := (((((((be.other (a := ⟨x, 5, none⟩) (show w.heap.size ≠ x by omega) (.int .i64 WK)).set 0 (.int .i64 a)).set 1 (.int .i64 z)).set 2 (.int .i64 (wz - wa))).set 3 (.int .i64 (gz - ga))).set 4 (.int .i64 (yz - ya))).set 5 (.int .i64 WK))
    simp only [List.setIfInBounds_toArray, List.set_cons_zero, List.set_cons_succ] at hfin
    (try simp only [Exit.inBlock, Exit.then])
    refine bodyPost_ret (v := .agg #[.int .i64 a, .int .i64 z, .int .i64 (wz - wa), .int .i64 (gz - ga), .int .i64 (yz - ya), .int .i64 WK]) ?rc rfl ?_
    case rc => exact results_cell_row rfl _ _ (w.heap.size) 74 _ (0, 0) _ rfl hfin Try.underlying74 rfl (by kernel_rfl)
    refine ⟨?_, ?_⟩
    · rw [HV.out, HN.out, HWK.out]
      try (first | rfl | rw [Int.add_zero])
    · exact (((((((hbe.setCell (p := ⟨x, 5, none⟩) (show w.heap.size ≤ x by omega) _).setCell (p := ⟨w.heap.size, 0, none⟩) (Nat.le_refl _) _).setCell (p := ⟨w.heap.size, 1, none⟩) (Nat.le_refl _) _).setCell (p := ⟨w.heap.size, 2, none⟩) (Nat.le_refl _) _).setCell (p := ⟨w.heap.size, 3, none⟩) (Nat.le_refl _) _).setCell (p := ⟨w.heap.size, 4, none⟩) (Nat.le_refl _) _).setCell (p := ⟨w.heap.size, 5, none⟩) (Nat.le_refl _) _)
  · have hlt : z < n := by omega
    obtain ⟨b, off, rfl, hcell⟩ := mP (by omega)
    have d0 : w2.cell? ⟨b, off + z * 6 + 0, none⟩ = some ((L z).V 0) := hcell z (by omega) 0 (by omega)
    have d1 : w2.cell? ⟨b, off + z * 6 + 1, none⟩ = some ((L z).V 1) := hcell z (by omega) 1 (by omega)
    have d2 : w2.cell? ⟨b, off + z * 6 + 2, none⟩ = some ((L z).V 2) := hcell z (by omega) 2 (by omega)
    have d3 : w2.cell? ⟨b, off + z * 6 + 3, none⟩ = some ((L z).V 3) := hcell z (by omega) 3 (by omega)
    have d4 : w2.cell? ⟨b, off + z * 6 + 4, none⟩ = some ((L z).V 4) := hcell z (by omega) 4 (by omega)
    have d5 : w2.cell? ⟨b, off + z * 6 + 5, none⟩ = some ((L z).V 5) := hcell z (by omega) 5 (by omega)
    obtain ⟨p, hp⟩ : ∃ p, p = L z := ⟨_, rfl⟩
    rw [← hp] at d0 d1 d2 d3 d4 d5
    have HP := Lib.hid hp
    have zb := lt_of_cell d0
    simp only at zb
    clear hp
    obtain ⟨K, Wi, S, R, C, F⟩ := p
    simp only [Part.V] at d0 d1 d2 d3 d4 d5
    rw [Nat.add_zero] at d0
    by_cases hk : K = 2
    · subst hk
      have HN := Lib.hid (show addF n L z = Wi by unfold addF; rw [if_pos ⟨hlt, by rw [← HP.out]⟩, ← HP.out])
      have x22 : w2.cell? ⟨x, 2, none⟩ = some (.int .i64 (wz - wa)) := X2.out.cell (i := 2) rfl
      have hwi := (hok z hlt).width
      rw [← HP.out] at hwi
      simp only at hwi
      clear hcell mP
      go_wp2_with fail
      have f1 : IntKind.i64.wrap (wz - wa + Wi) = wz - wa + Wi := IntWalk.i64_in _ ⟨by omega, by omega⟩
      go_still_tail 12, (by kernel_rfl)
      change wpList _ _ _ _ _ w2.drew
      clear f1 x22 d0 d1 d2 d3 d4 d5 m0 m1 mW
      obtain ⟨we, hwe⟩ : ∃ we, we = w2.drew := ⟨_, rfl⟩
      rw [← hwe]
      have xe := X2.out.drew
      have be := B2.out.drew
      have hbe := hbel2.drew
      rw [← hwe] at xe be hbe
      have hb0e := HB02.out.drew
      rw [← hwe] at hb0e
      clear hwe
      have u2 : we.cell? ⟨x, 2, none⟩ = some (.int .i64 (wz - wa)) := xe.cell (i := 2) rfl
      have fx := xe.frozen
      have zx := xe.lt
      have x3 := xe.set 2 (.int .i64 (wz - wa + Wi))
      have b3 := be.other (a := ⟨x, 2, none⟩) (show w.heap.size ≠ x by omega) (.int .i64 (wz - wa + Wi))
      have hb3 := hbe.setCell (p := ⟨x, 2, none⟩) (show w.heap.size ≤ x by omega) (.int .i64 (wz - wa + Wi))
      have hb03 := hb0e.setCell (p := ⟨x, 2, none⟩) (show w0.heap.size ≤ x by rw [HXQ.out]; exact Nat.le_refl _) (.int .i64 (wz - wa + Wi))
      simp only [List.setIfInBounds_toArray, List.set_cons_zero, List.set_cons_succ] at x3
      obtain ⟨w3, hw3⟩ : ∃ w3, w3 = we.setCell ⟨x, 2, none⟩ (.int .i64 (wz - wa + Wi)) := ⟨_, rfl⟩
      rw [← hw3] at x3 b3 hb3 hb03
      have hM3 := HMA.out.below (Nat.le_refl _) hb03
      have X3 := Lib.hid x3
      have B3 := Lib.hid b3
      have HM3 := Lib.hid hM3
      have HB3 := Lib.hid hb3
      have HW3 := Lib.hid hw3
      clear xe be hbe hM3 x3 b3 hb3 hb0e hb03 hw3
      go_wp2_with fail
      rw [← HW3.out]
      clear HW3 u2 fx zx zb
      obtain ⟨⟨m0, m1, m2, m3, m4, m5, m6⟩, mP, mW, mwd, mgr, myl, mbg⟩ := HM3.out
      have zm := lt_of_cell m0
      simp only at zm
      have hb3 := HB3.out
      clear m2 m3 m4 m5 m6 mwd mgr myl mbg mP
      obtain ⟨bW, oW, haW, hWc⟩ := mW (by omega)
      obtain ⟨k, hk⟩ : ∃ k, k = min num (nw - 1) := ⟨_, rfl⟩
      have hkn : k < nw := by omega
      have dW := hWc k hkn
      obtain ⟨WK, hWK⟩ : ∃ v, v = W k := ⟨_, rfl⟩
      rw [← hWK] at dW
      have HWK := Lib.hid (show W (min num (nw - 1)) = WK by rw [hWK, hk])
      subst haW
      have e1 : IntKind.i64.wrap ((nw : Int) - 1) = (nw : Int) - 1 := IntWalk.i64_in _ ⟨by omega, by omega⟩
      have e2 : (if (nw : Int) - 1 < (num : Int) then (nw : Int) - 1 else (num : Int)) = (k : Int) := by split <;> omega
      have e3 : (k : Int) < (nw : Int) := by omega
      clear hWc hWK hk mW
      go_still_tail 17, (by kernel_rfl)
      change wpList _ _ _ _ _ w3.drew
      clear e1 e2 e3 dW
      obtain ⟨we, hwe⟩ : ∃ we, we = w3.drew := ⟨_, rfl⟩
      rw [← hwe]
      have xe := (X3).out.drew
      have be := (B3).out.drew
      have hbe := (hb3).drew
      rw [← hwe] at xe be hbe
      clear hwe
      have u0 : we.cell? ⟨x, 0, none⟩ = some (.int .i64 a) := xe.cell (i := 0) rfl
      have u1 : we.cell? ⟨x, 1, none⟩ = some (.int .i64 z) := xe.cell (i := 1) rfl
      have u2 : we.cell? ⟨x, 2, none⟩ = some (.int .i64 (wz - wa + Wi)) := xe.cell (i := 2) rfl
      have u3 : we.cell? ⟨x, 3, none⟩ = some (.int .i64 (gz - ga)) := xe.cell (i := 3) rfl
      have u4 : we.cell? ⟨x, 4, none⟩ = some (.int .i64 (yz - ya)) := xe.cell (i := 4) rfl
      have u5 : we.cell? ⟨x, 5, none⟩ = some (.int .i64 0) := xe.cell (i := 5) rfl
      have t0 : we.cell? ⟨w.heap.size, 0, none⟩ = some (.int .i64 0) := be.cell (i := 0) rfl
      have t1 : we.cell? ⟨w.heap.size, 1, none⟩ = some (.int .i64 0) := be.cell (i := 1) rfl
      have t2 : we.cell? ⟨w.heap.size, 2, none⟩ = some (.int .i64 0) := be.cell (i := 2) rfl
      have t3 : we.cell? ⟨w.heap.size, 3, none⟩ = some (.int .i64 0) := be.cell (i := 3) rfl
      have t4 : we.cell? ⟨w.heap.size, 4, none⟩ = some (.int .i64 0) := be.cell (i := 4) rfl
      have t5 : we.cell? ⟨w.heap.size, 5, none⟩ = some (.int .i64 0) := be.cell (i := 5) rfl
      have fx := xe.frozen
      have fb := be.frozen
      have zx := xe.lt
      have zt := be.lt
      have xn : x ≠ w.heap.size := by omega
      clear m0 m1 zm
      go_wp2_with fail
      have hfin := (((((((be.other (a := ⟨x, 5, none⟩) (show w.heap.size ≠ x by omega) (.int .i64 WK)).set 0 (.int .i64 a)).set 1 (.int .i64 z)).set 2 (.int .i64 (wz - wa + Wi))).set 3 (.int .i64 (gz - ga))).set 4 (.int .i64 (yz - ya))).set 5 (.int .i64 WK))
      simp only [List.setIfInBounds_toArray, List.set_cons_zero, List.set_cons_succ] at hfin
      (try simp only [Exit.inBlock, Exit.then])
      refine bodyPost_ret (v := .agg #[.int .i64 a, .int .i64 z, .int .i64 (wz - wa + Wi), .int .i64 (gz - ga), .int .i64 (yz - ya), .int .i64 WK]) ?rc rfl ?_
      case rc => exact results_cell_row rfl _ _ (w.heap.size) 74 _ (0, 0) _ rfl hfin Try.underlying74 rfl (by kernel_rfl)
      refine ⟨?_, ?_⟩
      · rw [HV.out, HN.out, HWK.out]
        try (first | rfl | rw [Int.add_zero])
      · exact (((((((hbe.setCell (p := ⟨x, 5, none⟩) (show w.heap.size ≤ x by omega) _).setCell (p := ⟨w.heap.size, 0, none⟩) (Nat.le_refl _) _).setCell (p := ⟨w.heap.size, 1, none⟩) (Nat.le_refl _) _).setCell (p := ⟨w.heap.size, 2, none⟩) (Nat.le_refl _) _).setCell (p := ⟨w.heap.size, 3, none⟩) (Nat.le_refl _) _).setCell (p := ⟨w.heap.size, 4, none⟩) (Nat.le_refl _) _).setCell (p := ⟨w.heap.size, 5, none⟩) (Nat.le_refl _) _)
    · have HN := Lib.hid (show addF n L z = 0 by unfold addF; rw [if_neg (by rw [← HP.out]; exact fun h => hk h.2)])
      have hk2 : (K == 2) = false := by simpa using hk
      clear hcell mP
      go_wp2_with fail
      clear d0 d1 d2 d3 d4 d5 zb
      obtain ⟨bW, oW, haW, hWc⟩ := mW (by omega)
      obtain ⟨k, hk⟩ : ∃ k, k = min num (nw - 1) := ⟨_, rfl⟩
      have hkn : k < nw := by omega
      have dW := hWc k hkn
      obtain ⟨WK, hWK⟩ : ∃ v, v = W k := ⟨_, rfl⟩
      rw [← hWK] at dW
      have HWK := Lib.hid (show W (min num (nw - 1)) = WK by rw [hWK, hk])
      subst haW
      have e1 : IntKind.i64.wrap ((nw : Int) - 1) = (nw : Int) - 1 := IntWalk.i64_in _ ⟨by omega, by omega⟩
      have e2 : (if (nw : Int) - 1 < (num : Int) then (nw : Int) - 1 else (num : Int)) = (k : Int) := by split <;> omega
      have e3 : (k : Int) < (nw : Int) := by omega
      clear hWc hWK hk mW
      go_still_tail 17, (by kernel_rfl)
      change wpList _ _ _ _ _ w2.drew
      clear e1 e2 e3 dW
      obtain ⟨we, hwe⟩ : ∃ we, we = w2.drew := ⟨_, rfl⟩
      rw [← hwe]
      have xe := (X2).out.drew
      have be := (B2).out.drew
      have hbe := (hbel2).drew
      rw [← hwe] at xe be hbe
      clear hwe
      have u0 : we.cell? ⟨x, 0, none⟩ = some (.int .i64 a) := xe.cell (i := 0) rfl
      have u1 : we.cell? ⟨x, 1, none⟩ = some (.int .i64 z) := xe.cell (i := 1) rfl
      have u2 : we.cell? ⟨x, 2, none⟩ = some (.int .i64 (wz - wa)) := xe.cell (i := 2) rfl
      have u3 : we.cell? ⟨x, 3, none⟩ = some (.int .i64 (gz - ga)) := xe.cell (i := 3) rfl
      have u4 : we.cell? ⟨x, 4, none⟩ = some (.int .i64 (yz - ya)) := xe.cell (i := 4) rfl
      have u5 : we.cell? ⟨x, 5, none⟩ = some (.int .i64 0) := xe.cell (i := 5) rfl
      have t0 : we.cell? ⟨w.heap.size, 0, none⟩ = some (.int .i64 0) := be.cell (i := 0) rfl
      have t1 : we.cell? ⟨w.heap.size, 1, none⟩ = some (.int .i64 0) := be.cell (i := 1) rfl
      have t2 : we.cell? ⟨w.heap.size, 2, none⟩ = some (.int .i64 0) := be.cell (i := 2) rfl
      have t3 : we.cell? ⟨w.heap.size, 3, none⟩ = some (.int .i64 0) := be.cell (i := 3) rfl
      have t4 : we.cell? ⟨w.heap.size, 4, none⟩ = some (.int .i64 0) := be.cell (i := 4) rfl
      have t5 : we.cell? ⟨w.heap.size, 5, none⟩ = some (.int .i64 0) := be.cell (i := 5) rfl
      have fx := xe.frozen
      have fb := be.frozen
      have zx := xe.lt
      have zt := be.lt
      have xn : x ≠ w.heap.size := by omega
      clear m0 m1 zm
      go_wp2_with fail
      have hfin := (((((((be.other (a := ⟨x, 5, none⟩) (show w.heap.size ≠ x by omega) (.int .i64 WK)).set 0 (.int .i64 a)).set 1 (.int .i64 z)).set 2 (.int .i64 (wz - wa))).set 3 (.int .i64 (gz - ga))).set 4 (.int .i64 (yz - ya))).set 5 (.int .i64 WK))
      simp only [List.setIfInBounds_toArray, List.set_cons_zero, List.set_cons_succ] at hfin
      (try simp only [Exit.inBlock, Exit.then])
      refine bodyPost_ret (v := .agg #[.int .i64 a, .int .i64 z, .int .i64 (wz - wa), .int .i64 (gz - ga), .int .i64 (yz - ya), .int .i64 WK]) ?rc rfl ?_
      case rc => exact results_cell_row rfl _ _ (w.heap.size) 74 _ (0, 0) _ rfl hfin Try.underlying74 rfl (by kernel_rfl)
      refine ⟨?_, ?_⟩
      · rw [HV.out, HN.out, HWK.out]
        try (first | rfl | rw [Int.add_zero])
      · exact (((((((hbe.setCell (p := ⟨x, 5, none⟩) (show w.heap.size ≤ x by omega) _).setCell (p := ⟨w.heap.size, 0, none⟩) (Nat.le_refl _) _).setCell (p := ⟨w.heap.size, 1, none⟩) (Nat.le_refl _) _).setCell (p := ⟨w.heap.size, 2, none⟩) (Nat.le_refl _) _).setCell (p := ⟨w.heap.size, 3, none⟩) (Nat.le_refl _) _).setCell (p := ⟨w.heap.size, 4, none⟩) (Nat.le_refl _) _).setCell (p := ⟨w.heap.size, 5, none⟩) (Nat.le_refl _) _)
end Go.Proofs.Ytnigebnibikolaa.LN
