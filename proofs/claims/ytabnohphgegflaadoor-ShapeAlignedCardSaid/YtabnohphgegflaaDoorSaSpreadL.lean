


/-
  The comparison of Spread.
  Spread's two loops.
-/
import Derived.Test.YtabnohphgegflaaDoorSaSort
import Derived.Test.YtabnohphgegflaaDoorSaFrame
import Derived.Test.YtabnohphgegflaaDoorShFind
import Derived.Test.YtabnohphgegflaaDoorSaSpreadP
import Derived.Test.YtabnohphgegflaaDoorSaAlign
import Derived.Test.YtabnohphgegflaaDoorSaRow
import Derived.Test.YtabnohphgegflaaDoorParts
namespace Go.Proofs.YtabnohphgegflaaDoor.ShT
open Go.RowKit Go.Law Go.Law.Sh
set_option linter.unusedVariables false
set_option linter.unusedSimpArgs false
set_option maxRecDepth 100000
/-- what the comparison reads: the slice, the axis, a shape -/
def CS (q1 q2 b off k n ca : Nat) (ax : Int) (E : Nat → Nat → Int) (N : Nat → Nat → ByteArray) (w : World) : Prop :=
  w.cell? ⟨q1, 0, none⟩ = some (.slice (some ⟨b, off, none⟩) n ca) ∧ w.cell? ⟨q2, 0, none⟩ = some (.int .i64 ax) ∧
  w.cell? ⟨b, off + k * 12, none⟩ = some (.int .i64 (E k 0)) ∧ w.cell? ⟨b, off + k * 12 + 1, none⟩ = some (.int .i64 (E k 1)) ∧ w.cell? ⟨b, off + k * 12 + 2, none⟩ = some (.int .i64 (E k 2)) ∧ w.cell? ⟨b, off + k * 12 + 3, none⟩ = some (.int .i64 (E k 3)) ∧
  w.cell? ⟨b, off + k * 12 + 4, none⟩ = some (.int .i64 (E k 4)) ∧ w.cell? ⟨b, off + k * 12 + 5, none⟩ = some (.int .i64 (E k 5)) ∧ w.cell? ⟨b, off + k * 12 + 6, none⟩ = some (.int .i64 (E k 6)) ∧ w.cell? ⟨b, off + k * 12 + 7, none⟩ = some (.int .i64 (E k 7)) ∧
  w.cell? ⟨b, off + k * 12 + 8, none⟩ = some (.int .i64 (E k 8)) ∧ w.cell? ⟨b, off + k * 12 + 9, none⟩ = some (.int .i64 (E k 9)) ∧ w.cell? ⟨b, off + k * 12 + 10, none⟩ = some (.string (N k 0)) ∧ w.cell? ⟨b, off + k * 12 + 11, none⟩ = some (.string (N k 1))
theorem CS.of {q1 q2 b off k n ca : Nat} {ax : Int} {E : Nat → Nat → Int} {N : Nat → Nat → ByteArray} {w : World} (h : ShF w (some ⟨b, off, none⟩) n E N) (hk : k < n) (h1 : w.cell? ⟨q1, 0, none⟩ = some (.slice (some ⟨b, off, none⟩) n ca)) (h2 : w.cell? ⟨q2, 0, none⟩ = some (.int .i64 ax)) : CS q1 q2 b off k n ca ax E N w := by
  obtain ⟨b', off', hb, hh⟩ := h (by omega)
  cases hb
  obtain ⟨g, g10, g11⟩ := hh k hk
  exact ⟨h1, h2, by have := g 0 (by omega); rwa [Nat.add_zero] at this, g 1 (by omega), g 2 (by omega), g 3 (by omega), g 4 (by omega), g 5 (by omega), g 6 (by omega), g 7 (by omega), g 8 (by omega), g 9 (by omega), g10, g11⟩
set_option maxHeartbeats 4000000 in
theorem cmp_any (p q n ca q1 q2 : Nat) (ax : Int) (E : Nat → Nat → Int) (N : Nat → Nat → ByteArray) (a : Option Addr) (w : World) (ha : ShF w a n E N) (hp : p < n) (hq : q < n) (hbx : ∀ k, k < n → boxS (E k))
    (h1 : w.cell? ⟨q1, 0, none⟩ = some (.slice a n ca)) (h2 : w.cell? ⟨q2, 0, none⟩ = some (.int .i64 ax)) (ht : Arr w 1) :
    Calls Tryd.prog 18 #[.int .i64 p, .int .i64 q, .pointer (some ⟨q1, 0, none⟩), .pointer (some ⟨q2, 0, none⟩)] w fun e w' => e = .returned (.int .i64 (extA (E p) ax - extA (E q) ax)) ∧ Below w.heap.size w w' := by
  obtain ⟨b, off, rfl, _⟩ := ha (by omega)
  have HA := Lib.hid ha
  have HT := Lib.hid ht
  have HBX := Lib.hid hbx
  have H1 := Lib.hid h1
  have H2 := Lib.hid h2
  have HXP := Lib.hid (extA_bound (E p) ax)
  have HXQ := Lib.hid (extA_bound (E q) ax)
  clear ha ht hbx h1 h2
  have hp2 : (p : Int) < (n : Int) := by omega
  have hq2 : (q : Int) < (n : Int) := by omega
  have hp3 : (0 : Int) ≤ (p : Int) := by omega
  have hq3 : (0 : Int) ≤ (q : Int) := by omega
  go_enter Tryd.func18, Tryd.ntmps18
  go_upto_region 1 with fail
  refine wp_region_held_drew (S := CS q1 q2 b off p n ca ax E N) (by kernel_rfl) (CS.of (ShF.below HA.out (Nat.le_refl _) (Below.refl _ _).drew) hp (by rw [World.cell?_drew]; exact H1.out) (by rw [World.cell?_drew]; exact H2.out)) ?_
  intro hHeld
  refine takeD (i := 0) (oi := { dst := some 12, op := _, type := _, pos := _, after := _, guard := _ }) (d := some 12) (v := ?vva12) rfl rfl (by kernel_rfl) (by kernel_rfl) (by kernel_rfl) ?dda12 (by rfl) ?yya12 hHeld ?rra12
  case dda12 => first | exact fun _ _ _ h => h | exact fun _ _ _ h => HQ.out _ _ _ _ (by rfl) h
  case yya12 => (intro wx hSw; obtain ⟨y0, y1, y2, y3, y4, y5, y6, y7, y8, y9, y10, y11, y12, y13⟩ := hSw; go_simp; try (with_reducible rfl))
  try simp only [Act.put, List.setIfInBounds_toArray, List.set_cons_zero, List.set_cons_succ]
  refine takeD (i := 1) (oi := { dst := some 13, op := _, type := _, pos := _, after := _, guard := _ }) (d := some 13) (v := ?vva13) rfl rfl (by kernel_rfl) (by kernel_rfl) (by kernel_rfl) ?dda13 (by rfl) ?yya13 hHeld ?rra13
  case dda13 => first | exact fun _ _ _ h => h | exact fun _ _ _ h => HQ.out _ _ _ _ (by rfl) h
  case yya13 => (intro wx hSw; obtain ⟨y0, y1, y2, y3, y4, y5, y6, y7, y8, y9, y10, y11, y12, y13⟩ := hSw; go_simp; try (with_reducible rfl))
  try simp only [Act.put, List.setIfInBounds_toArray, List.set_cons_zero, List.set_cons_succ]
  refine takeD (i := 2) (oi := { dst := some 14, op := _, type := _, pos := _, after := _, guard := _ }) (d := some 14) (v := ?vva14) rfl rfl (by kernel_rfl) (by kernel_rfl) (by kernel_rfl) ?dda14 (by rfl) ?yya14 hHeld ?rra14
  case dda14 => first | exact fun _ _ _ h => h | exact fun _ _ _ h => HQ.out _ _ _ _ (by rfl) h
  case yya14 => (intro wx hSw; obtain ⟨y0, y1, y2, y3, y4, y5, y6, y7, y8, y9, y10, y11, y12, y13⟩ := hSw; go_simp; try (with_reducible rfl))
  try simp only [Act.put, List.setIfInBounds_toArray, List.set_cons_zero, List.set_cons_succ]
  refine takeD (i := 3) (oi := { dst := some 15, op := _, type := _, pos := _, after := _, guard := _ }) (d := some 15) (v := ?vva15) rfl rfl (by kernel_rfl) (by kernel_rfl) (by kernel_rfl) ?dda15 (by rfl) ?yya15 hHeld ?rra15
  case dda15 => first | exact fun _ _ _ h => h | exact fun _ _ _ h => HQ.out _ _ _ _ (by rfl) h
  case yya15 => (intro wx hSw; obtain ⟨y0, y1, y2, y3, y4, y5, y6, y7, y8, y9, y10, y11, y12, y13⟩ := hSw; go_simp; try (with_reducible rfl))
  try simp only [Act.put, List.setIfInBounds_toArray, List.set_cons_zero, List.set_cons_succ]
  refine takeD (i := 4) (oi := { dst := some 16, op := _, type := _, pos := _, after := _, guard := _ }) (d := some 16) (v := ?vva16) rfl rfl (by kernel_rfl) (by kernel_rfl) (by kernel_rfl) ?dda16 (by rfl) ?yya16 hHeld ?rra16
  case dda16 => first | exact fun _ _ _ h => h | exact fun _ _ _ h => HQ.out _ _ _ _ (by rfl) h
  case yya16 => (intro wx hSw; obtain ⟨y0, y1, y2, y3, y4, y5, y6, y7, y8, y9, y10, y11, y12, y13⟩ := hSw; go_simp; try (with_reducible rfl))
  try simp only [Act.put, List.setIfInBounds_toArray, List.set_cons_zero, List.set_cons_succ]
  refine wpAnyH_ready (rs := [5]) (by kernel_rfl) (by simp) ?_
  refine AllReadyH.cons (o := { dst := some 17, op := _, type := _, pos := _, after := _, guard := _ }) rfl (fun K hK => ?_) AllReadyH.nil
  go_simp
  refine (extent_any p E N ax w.drew (HBX.out p hp) (HT.out.below (Nat.le_refl _) (Below.refl _ _).drew)).mono ?_
  rintro e w1 ⟨rfl, hb1⟩
  have HB1 := Lib.hid (((Below.refl w.heap.size w).drew).trans (hb1.mono (Nat.le_refl _)))
  have HC1 := Lib.hid (show w1.cell? ⟨q1, 0, none⟩ = some (.slice (some ⟨b, off, none⟩) n ca) ∧ w1.cell? ⟨q2, 0, none⟩ = some (.int .i64 ax) from ⟨(HB1.out.cell (lt_of_cell H1.out)).trans H1.out, (HB1.out.cell (lt_of_cell H2.out)).trans H2.out⟩)
  refine hK.out _ _ (CS.of (ShF.below HA.out (Nat.le_refl _) HB1.out) hp HC1.out.1 HC1.out.2) (fun hHeld2 => ?_)
  clear hK K hb1 hHeld
  try simp only [Act.put, List.setIfInBounds_toArray, List.set_cons_zero, List.set_cons_succ]
  refine takeD (i := 6) (oi := { dst := some 11, op := _, type := _, pos := _, after := _, guard := _ }) (d := some 11) (v := ?vvb11) rfl rfl (by kernel_rfl) (by kernel_rfl) (by kernel_rfl) ?ddb11 (by rfl) ?yyb11 hHeld2 ?rrb11
  case ddb11 => first | exact fun _ _ _ h => h | exact fun _ _ _ h => HQ.out _ _ _ _ (by rfl) h
  case yyb11 => (intro wx hSw; obtain ⟨y0, y1, y2, y3, y4, y5, y6, y7, y8, y9, y10, y11, y12, y13⟩ := hSw; go_simp; try (with_reducible rfl))
  try simp only [Act.put, List.setIfInBounds_toArray, List.set_cons_zero, List.set_cons_succ]
  refine takeD (i := 7) (oi := { dst := some 18, op := _, type := _, pos := _, after := _, guard := _ }) (d := some 18) (v := ?vvb18) rfl rfl (by kernel_rfl) (by kernel_rfl) (by kernel_rfl) ?ddb18 (by rfl) ?yyb18 hHeld2 ?rrb18
  case ddb18 => first | exact fun _ _ _ h => h | exact fun _ _ _ h => HQ.out _ _ _ _ (by rfl) h
  case yyb18 => (intro wx hSw; obtain ⟨y0, y1, y2, y3, y4, y5, y6, y7, y8, y9, y10, y11, y12, y13⟩ := hSw; go_simp; try (with_reducible rfl))
  try simp only [Act.put, List.setIfInBounds_toArray, List.set_cons_zero, List.set_cons_succ]
  refine takeD (i := 8) (oi := { dst := some 19, op := _, type := _, pos := _, after := _, guard := _ }) (d := some 19) (v := ?vvb19) rfl rfl (by kernel_rfl) (by kernel_rfl) (by kernel_rfl) ?ddb19 (by rfl) ?yyb19 hHeld2 ?rrb19
  case ddb19 => first | exact fun _ _ _ h => h | exact fun _ _ _ h => HQ.out _ _ _ _ (by rfl) h
  case yyb19 => (intro wx hSw; obtain ⟨y0, y1, y2, y3, y4, y5, y6, y7, y8, y9, y10, y11, y12, y13⟩ := hSw; go_simp; try (with_reducible rfl))
  try simp only [Act.put, List.setIfInBounds_toArray, List.set_cons_zero, List.set_cons_succ]
  refine takeD (i := 9) (oi := { dst := some 7, op := _, type := _, pos := _, after := _, guard := _ }) (d := some 7) (v := ?vvb7) rfl rfl (by kernel_rfl) (by kernel_rfl) (by kernel_rfl) ?ddb7 (by rfl) ?yyb7 hHeld2 ?rrb7
  case ddb7 => first | exact fun _ _ _ h => h | exact fun _ _ _ h => HQ.out _ _ _ _ (by rfl) h
  case yyb7 => (intro wx hSw; obtain ⟨y0, y1, y2, y3, y4, y5, y6, y7, y8, y9, y10, y11, y12, y13⟩ := hSw; go_simp; try (with_reducible rfl))
  try simp only [Act.put, List.setIfInBounds_toArray, List.set_cons_zero, List.set_cons_succ]
  refine takeD (i := 10) (oi := { dst := some 8, op := _, type := _, pos := _, after := _, guard := _ }) (d := some 8) (v := ?vvb8) rfl rfl (by kernel_rfl) (by kernel_rfl) (by kernel_rfl) ?ddb8 (by rfl) ?yyb8 hHeld2 ?rrb8
  case ddb8 => first | exact fun _ _ _ h => h | exact fun _ _ _ h => HQ.out _ _ _ _ (by rfl) h
  case yyb8 => (intro wx hSw; obtain ⟨y0, y1, y2, y3, y4, y5, y6, y7, y8, y9, y10, y11, y12, y13⟩ := hSw; go_simp; try (with_reducible rfl))
  try simp only [Act.put, List.setIfInBounds_toArray, List.set_cons_zero, List.set_cons_succ]
  refine wpAnyH_done (by kernel_rfl) ?_ _
  clear hHeld2
  go_upto_region 2 with fail
  refine wp_region_held_drew (S := CS q1 q2 b off q n ca ax E N) (by kernel_rfl) (CS.of (ShF.below HA.out (Nat.le_refl _) HB1.out.drew) hq (by rw [World.cell?_drew]; exact HC1.out.1) (by rw [World.cell?_drew]; exact HC1.out.2)) ?_
  intro hHeld
  refine takeD (i := 0) (oi := { dst := some 21, op := _, type := _, pos := _, after := _, guard := _ }) (d := some 21) (v := ?vvc21) rfl rfl (by kernel_rfl) (by kernel_rfl) (by kernel_rfl) ?ddc21 (by rfl) ?yyc21 hHeld ?rrc21
  case ddc21 => first | exact fun _ _ _ h => h | exact fun _ _ _ h => HQ.out _ _ _ _ (by rfl) h
  case yyc21 => (intro wx hSw; obtain ⟨y0, y1, y2, y3, y4, y5, y6, y7, y8, y9, y10, y11, y12, y13⟩ := hSw; go_simp; try (with_reducible rfl))
  try simp only [Act.put, List.setIfInBounds_toArray, List.set_cons_zero, List.set_cons_succ]
  refine takeD (i := 1) (oi := { dst := some 22, op := _, type := _, pos := _, after := _, guard := _ }) (d := some 22) (v := ?vvc22) rfl rfl (by kernel_rfl) (by kernel_rfl) (by kernel_rfl) ?ddc22 (by rfl) ?yyc22 hHeld ?rrc22
  case ddc22 => first | exact fun _ _ _ h => h | exact fun _ _ _ h => HQ.out _ _ _ _ (by rfl) h
  case yyc22 => (intro wx hSw; obtain ⟨y0, y1, y2, y3, y4, y5, y6, y7, y8, y9, y10, y11, y12, y13⟩ := hSw; go_simp; try (with_reducible rfl))
  try simp only [Act.put, List.setIfInBounds_toArray, List.set_cons_zero, List.set_cons_succ]
  refine takeD (i := 2) (oi := { dst := some 23, op := _, type := _, pos := _, after := _, guard := _ }) (d := some 23) (v := ?vvc23) rfl rfl (by kernel_rfl) (by kernel_rfl) (by kernel_rfl) ?ddc23 (by rfl) ?yyc23 hHeld ?rrc23
  case ddc23 => first | exact fun _ _ _ h => h | exact fun _ _ _ h => HQ.out _ _ _ _ (by rfl) h
  case yyc23 => (intro wx hSw; obtain ⟨y0, y1, y2, y3, y4, y5, y6, y7, y8, y9, y10, y11, y12, y13⟩ := hSw; go_simp; try (with_reducible rfl))
  try simp only [Act.put, List.setIfInBounds_toArray, List.set_cons_zero, List.set_cons_succ]
  refine takeD (i := 3) (oi := { dst := some 24, op := _, type := _, pos := _, after := _, guard := _ }) (d := some 24) (v := ?vvc24) rfl rfl (by kernel_rfl) (by kernel_rfl) (by kernel_rfl) ?ddc24 (by rfl) ?yyc24 hHeld ?rrc24
  case ddc24 => first | exact fun _ _ _ h => h | exact fun _ _ _ h => HQ.out _ _ _ _ (by rfl) h
  case yyc24 => (intro wx hSw; obtain ⟨y0, y1, y2, y3, y4, y5, y6, y7, y8, y9, y10, y11, y12, y13⟩ := hSw; go_simp; try (with_reducible rfl))
  try simp only [Act.put, List.setIfInBounds_toArray, List.set_cons_zero, List.set_cons_succ]
  refine takeD (i := 4) (oi := { dst := some 25, op := _, type := _, pos := _, after := _, guard := _ }) (d := some 25) (v := ?vvc25) rfl rfl (by kernel_rfl) (by kernel_rfl) (by kernel_rfl) ?ddc25 (by rfl) ?yyc25 hHeld ?rrc25
  case ddc25 => first | exact fun _ _ _ h => h | exact fun _ _ _ h => HQ.out _ _ _ _ (by rfl) h
  case yyc25 => (intro wx hSw; obtain ⟨y0, y1, y2, y3, y4, y5, y6, y7, y8, y9, y10, y11, y12, y13⟩ := hSw; go_simp; try (with_reducible rfl))
  try simp only [Act.put, List.setIfInBounds_toArray, List.set_cons_zero, List.set_cons_succ]
  refine wpAnyH_ready (rs := [5]) (by kernel_rfl) (by simp) ?_
  refine AllReadyH.cons (o := { dst := some 26, op := _, type := _, pos := _, after := _, guard := _ }) rfl (fun K hK => ?_) AllReadyH.nil
  go_simp
  refine (extent_any q E N ax w1.drew (HBX.out q hq) (HT.out.below (Nat.le_refl _) HB1.out.drew)).mono ?_
  rintro e w2 ⟨rfl, hb2⟩
  have HB2 := Lib.hid (HB1.out.drew.trans (hb2.mono HB1.out.size))
  refine hK.out _ _ (CS.of (ShF.below HA.out (Nat.le_refl _) HB2.out) hq ((HB2.out.cell (lt_of_cell H1.out)).trans H1.out) ((HB2.out.cell (lt_of_cell H2.out)).trans H2.out)) (fun hHeld2 => ?_)
  clear hK K hb2 hHeld
  try simp only [Act.put, List.setIfInBounds_toArray, List.set_cons_zero, List.set_cons_succ]
  refine takeD (i := 6) (oi := { dst := some 20, op := _, type := _, pos := _, after := _, guard := _ }) (d := some 20) (v := ?vvd20) rfl rfl (by kernel_rfl) (by kernel_rfl) (by kernel_rfl) ?ddd20 (by rfl) ?yyd20 hHeld2 ?rrd20
  case ddd20 => first | exact fun _ _ _ h => h | exact fun _ _ _ h => HQ.out _ _ _ _ (by rfl) h
  case yyd20 => (intro wx hSw; obtain ⟨y0, y1, y2, y3, y4, y5, y6, y7, y8, y9, y10, y11, y12, y13⟩ := hSw; go_simp; try (with_reducible rfl))
  try simp only [Act.put, List.setIfInBounds_toArray, List.set_cons_zero, List.set_cons_succ]
  refine takeD (i := 7) (oi := { dst := some 27, op := _, type := _, pos := _, after := _, guard := _ }) (d := some 27) (v := ?vvd27) rfl rfl (by kernel_rfl) (by kernel_rfl) (by kernel_rfl) ?ddd27 (by rfl) ?yyd27 hHeld2 ?rrd27
  case ddd27 => first | exact fun _ _ _ h => h | exact fun _ _ _ h => HQ.out _ _ _ _ (by rfl) h
  case yyd27 => (intro wx hSw; obtain ⟨y0, y1, y2, y3, y4, y5, y6, y7, y8, y9, y10, y11, y12, y13⟩ := hSw; go_simp; try (with_reducible rfl))
  try simp only [Act.put, List.setIfInBounds_toArray, List.set_cons_zero, List.set_cons_succ]
  refine takeD (i := 8) (oi := { dst := some 28, op := _, type := _, pos := _, after := _, guard := _ }) (d := some 28) (v := ?vvd28) rfl rfl (by kernel_rfl) (by kernel_rfl) (by kernel_rfl) ?ddd28 (by rfl) ?yyd28 hHeld2 ?rrd28
  case ddd28 => first | exact fun _ _ _ h => h | exact fun _ _ _ h => HQ.out _ _ _ _ (by rfl) h
  case yyd28 => (intro wx hSw; obtain ⟨y0, y1, y2, y3, y4, y5, y6, y7, y8, y9, y10, y11, y12, y13⟩ := hSw; go_simp; try (with_reducible rfl))
  try simp only [Act.put, List.setIfInBounds_toArray, List.set_cons_zero, List.set_cons_succ]
  refine takeD (i := 9) (oi := { dst := some 9, op := _, type := _, pos := _, after := _, guard := _ }) (d := some 9) (v := ?vvd9) rfl rfl (by kernel_rfl) (by kernel_rfl) (by kernel_rfl) ?ddd9 (by rfl) ?yyd9 hHeld2 ?rrd9
  case ddd9 => first | exact fun _ _ _ h => h | exact fun _ _ _ h => HQ.out _ _ _ _ (by rfl) h
  case yyd9 => (intro wx hSw; obtain ⟨y0, y1, y2, y3, y4, y5, y6, y7, y8, y9, y10, y11, y12, y13⟩ := hSw; go_simp; try (with_reducible rfl))
  try simp only [Act.put, List.setIfInBounds_toArray, List.set_cons_zero, List.set_cons_succ]
  refine takeD (i := 10) (oi := { dst := some 10, op := _, type := _, pos := _, after := _, guard := _ }) (d := some 10) (v := ?vvd10) rfl rfl (by kernel_rfl) (by kernel_rfl) (by kernel_rfl) ?ddd10 (by rfl) ?yyd10 hHeld2 ?rrd10
  case ddd10 => first | exact fun _ _ _ h => h | exact fun _ _ _ h => HQ.out _ _ _ _ (by rfl) h
  case yyd10 => (intro wx hSw; obtain ⟨y0, y1, y2, y3, y4, y5, y6, y7, y8, y9, y10, y11, y12, y13⟩ := hSw; go_simp; try (with_reducible rfl))
  try simp only [Act.put, List.setIfInBounds_toArray, List.set_cons_zero, List.set_cons_succ]
  refine wpAnyH_done (by kernel_rfl) ?_ _
  clear hHeld2
  have hw := IntWalk.i64_in (extA (E p) ax - extA (E q) ax) (by have := HXP.out; have := HXQ.out; omega)
  go_wp2_with fail
  go_ret
  exact ⟨rfl, HB2.out⟩
end Go.Proofs.YtabnohphgegflaaDoor.ShT
namespace Go.Proofs.YtabnohphgegflaaDoor.ShT
open Go.RowKit Go.Law Go.Law.Sh
set_option linter.unusedVariables false
set_option linter.unusedSimpArgs false
set_option maxRecDepth 100000
set_option maxHeartbeats 8000000 in
theorem spRoom {n c ca cap q1 q2 g b0 off0 : Nat} {E : Nat → Nat → Int} {N : Nat → Nat → ByteArray} {S : Nat → Int} {ax : Int} {w0 w4 : World} (hc0 : 3 ≤ c) (hcn : c ≤ n) (hn : n ≤ 20) (hcap : c ≤ cap)
    (HA : Hid (ShF w0 (some ⟨b0, off0, none⟩) n E N)) (HT : Hid (Arr w0 1)) (HBX : Hid (∀ k, k < n → boxS (E k))) (HBOX : Hid (w0.cell? ⟨q1, 0, none⟩ = some (.slice (some ⟨b0, off0, none⟩) n ca) ∧ w0.cell? ⟨q2, 0, none⟩ = some (.int .i64 ax) ∧ q1 < w0.heap.size ∧ q2 < w0.heap.size))
    (HSN : Hid (∀ j, j < c → 0 ≤ S j ∧ S j < n)) (HB4 : Hid (Below w0.heap.size w0 w4)) (HR4 : Hid (RowI w4 w0.heap.size 3 1 (.slice (some ⟨g, 0, none⟩) c cap) c S))
    {R0 : Int} (HR0 : Hid (R0 = roomR E S ax c 0))
    {s0 s1 s2 s4 s6 s7 s8 s9 s10 s11 s12 s13 s15 s16 s17 s18 s19 s20 s21 s22 s23 s24 s25 s26 s27 s28 s29 s30 s31 s32 s33 s34 s35 s36 s37 s38 s39 s40 s41 s42 s43 s44 s45 s46 s47 s48 s49 s50 s51 s52 s53 s54 s55 s56 s57 s58 s59 s60 s61 s62 s63 s64 s65 s66 s67 s68 s69 s70 s71 s72 s73 s74 s75 s79 s80 s81 s82 s83 s84 s85 s86 s87 s88 s89 s90 s91 s92 s93 s94 s95 s96 s97 s98 s99 s100 s101 s102 s103 s104 s105 s106 s107 s108 s109 s110 s111 s112 s113 s114 s115 s116 s117 s118 s119 s120 s121 s122 s123 s124 s125 s126 s127 s128 s129 s130 s131 s132 s133 s134 s135 s136 s137 s138 s139 s140 s141 s142 s143 s144 s145 s146 s147 s148 s149 : Value} {J K : Act → World → Prop} {Q : Exit → Act → World → Prop}
    (HQ : Hid (∀ (c : List PanicEntry) (a a' : Act) (w : World), a.defers = a'.defers → Q (.panic c) a w → Q (.panic c) a' w))
    (hJ : ∀ (a' : Act) (w' : World), (∃ u14 u16 u17 u18 u78 u79 u80 u81 u82 u83 u84 u85 u86 u87 u88 u89 u90 u91 u92 u93 u94 u95 u96 : Value, (u14 = .int .i64 (roomR E S ax c (c - 2)) ∧ Below w0.heap.size w0 w' ∧ RowI w' w0.heap.size 3 1 (.slice (some ⟨g, 0, none⟩) c cap) c S) ∧ a' = ⟨#[s0, s1, s2, .pointer (some ⟨q1, 0, none⟩), s4, .pointer (some ⟨q2, 0, none⟩), s6, s7, s8, s9, s10, s11, s12, s13, u14, s15, u16, u17, u18, s19, s20, s21, s22, s23, s24, s25, s26, s27, s28, s29, s30, s31, s32, s33, s34, s35, s36, s37, s38, s39, s40, s41, s42, s43, s44, s45, s46, s47, s48, s49, s50, s51, s52, s53, s54, s55, s56, s57, s58, s59, s60, s61, s62, s63, s64, s65, s66, s67, s68, s69, s70, s71, s72, s73, s74, s75, .slice (some ⟨g, 1, none⟩) (c - 1 - 1 : Nat) (cap - 1), .int .i64 (c - 1 - 1 : Nat), u78, u79, u80, u81, u82, u83, u84, u85, u86, u87, u88, u89, u90, u91, u92, u93, u94, u95, u96, s97, s98, s99, s100, s101, s102, s103, s104, s105, s106, s107, s108, s109, s110, s111, s112, s113, s114, s115, s116, s117, s118, s119, s120, s121, s122, s123, s124, s125, s126, s127, s128, s129, s130, s131, s132, s133, s134, s135, s136, s137, s138, s139, s140, s141, s142, s143, s144, s145, s146, s147, s148, s149], []⟩) → J a' w')
    (hK : ∀ (a' : Act) (w' : World), Met J a' w' → K a' w') :
    Code.wp Tryd.prog (theBlk Tryd.f8 0) (Exit.then K Q) ⟨#[s0, s1, s2, .pointer (some ⟨q1, 0, none⟩), s4, .pointer (some ⟨q2, 0, none⟩), s6, s7, s8, s9, s10, s11, s12, s13, .int .i64 R0, s15, s16, s17, s18, s19, s20, s21, s22, s23, s24, s25, s26, s27, s28, s29, s30, s31, s32, s33, s34, s35, s36, s37, s38, s39, s40, s41, s42, s43, s44, s45, s46, s47, s48, s49, s50, s51, s52, s53, s54, s55, s56, s57, s58, s59, s60, s61, s62, s63, s64, s65, s66, s67, s68, s69, s70, s71, s72, s73, s74, s75, .slice (some ⟨g, 1, none⟩) (c - 1 - 1 : Nat) (cap - 1), .int .i64 (c - 1 - 1 : Nat), .int .i64 0, s79, s80, s81, s82, s83, s84, s85, s86, s87, s88, s89, s90, s91, s92, s93, s94, s95, s96, s97, s98, s99, s100, s101, s102, s103, s104, s105, s106, s107, s108, s109, s110, s111, s112, s113, s114, s115, s116, s117, s118, s119, s120, s121, s122, s123, s124, s125, s126, s127, s128, s129, s130, s131, s132, s133, s134, s135, s136, s137, s138, s139, s140, s141, s142, s143, s144, s145, s146, s147, s148, s149], []⟩ w4 := by
  conv => arg 2; whnf
  go_wp2_with fail
  go_loopw [14, 78] (fun rv ix wr => ∃ j : Nat, ix = .int .i64 j ∧ j ≤ c - 2 ∧ rv = .int .i64 (roomR E S ax c j) ∧ Below w0.heap.size w0 wr ∧ RowI wr w0.heap.size 3 1 (.slice (some ⟨g, 0, none⟩) c cap) c S) (fun _ ix _ => c - 2 - (intOf ix).toNat)
  case atStart => exact ⟨0, rfl, by omega, by rw [HR0.out], HB4.out, HR4.out⟩
  case round =>
    obtain ⟨j, rfl, hj, rfl, hbel, hrow⟩ := hrel
    have HB := Lib.hid hbel
    have HR := Lib.hid hrow
    clear hbel hrow HB4 HR4 HR0
    by_cases h : j < c - 2
    · have hj2 : (j : Int) < ((c - 1 - 1 : Nat) : Int) := by omega
      have hj0 : (0 : Int) ≤ (j : Int) := by omega
      obtain ⟨kt, hke, hktn⟩ : ∃ k : Nat, S (j + 1) = (k : Int) ∧ k < n := ⟨(S (j + 1)).toNat, by have := HSN.out (j + 1) (by omega); omega, by have := HSN.out (j + 1) (by omega); omega⟩
      obtain ⟨_, _, hv, _, hg3, _, _, hfz, hcell⟩ := RowI.at HR.out (by omega)
      cases hv
      have z0 := hcell (1 + j) (by omega)
      rw [Nat.add_comm 1 j, hke, Nat.add_comm j 1] at z0
      have hkn2 : (kt : Int) < (n : Int) := by omega
      have hk0 : (0 : Int) ≤ (kt : Int) := by omega
      have HKT := Lib.hid (show (S (j + 1)).toNat = kt by rw [hke]; rfl)
      clear hke hfz hcell
      go_upto_region 13 with fail
      refine wp_region_held_drew (S := fun w' => w'.cell? ⟨g, 1 + j, none⟩ = some (.int .i64 (kt : Nat)) ∧ CS q1 q2 b0 off0 kt n ca ax E N w') (by kernel_rfl) (by exact ⟨by rw [World.cell?_drew]; exact z0, CS.of (ShF.below HA.out (Nat.le_refl _) ((HB.out).drew)) (by assumption) (by rw [World.cell?_drew]; exact ((HB.out).cell (lt_of_cell HBOX.out.1)).trans HBOX.out.1) (by rw [World.cell?_drew]; exact ((HB.out).cell (lt_of_cell HBOX.out.2.1)).trans HBOX.out.2.1)⟩) ?_
      intro hHeld
      refine takeD (i := 0) (oi := { dst := some 83, op := _, type := _, pos := _, after := _, guard := _ }) (d := some 83) (v := ?vvqa83) rfl rfl (by kernel_rfl) (by kernel_rfl) (by kernel_rfl) ?ddqa83 (by rfl) ?yyqa83 hHeld ?rrqa83
      case ddqa83 => first | exact fun _ _ _ h => h | exact fun _ _ _ h => HQ.out _ _ _ _ (by rfl) h
      case yyqa83 => (intro wx hSw; obtain ⟨y0, y1, y2, y3, y4, y5, y6, y7, y8, y9, y10, y11, y12, y13, y14⟩ := hSw; go_simp; try (with_reducible rfl))
      try simp only [Act.put, List.setIfInBounds_toArray, List.set_cons_zero, List.set_cons_succ]
      refine takeD (i := 1) (oi := { dst := some 84, op := _, type := _, pos := _, after := _, guard := _ }) (d := some 84) (v := ?vvqa84) rfl rfl (by kernel_rfl) (by kernel_rfl) (by kernel_rfl) ?ddqa84 (by rfl) ?yyqa84 hHeld ?rrqa84
      case ddqa84 => first | exact fun _ _ _ h => h | exact fun _ _ _ h => HQ.out _ _ _ _ (by rfl) h
      case yyqa84 => (intro wx hSw; obtain ⟨y0, y1, y2, y3, y4, y5, y6, y7, y8, y9, y10, y11, y12, y13, y14⟩ := hSw; go_simp; try (with_reducible rfl))
      try simp only [Act.put, List.setIfInBounds_toArray, List.set_cons_zero, List.set_cons_succ]
      refine takeD (i := 2) (oi := { dst := some 85, op := _, type := _, pos := _, after := _, guard := _ }) (d := some 85) (v := ?vvqa85) rfl rfl (by kernel_rfl) (by kernel_rfl) (by kernel_rfl) ?ddqa85 (by rfl) ?yyqa85 hHeld ?rrqa85
      case ddqa85 => first | exact fun _ _ _ h => h | exact fun _ _ _ h => HQ.out _ _ _ _ (by rfl) h
      case yyqa85 => (intro wx hSw; obtain ⟨y0, y1, y2, y3, y4, y5, y6, y7, y8, y9, y10, y11, y12, y13, y14⟩ := hSw; go_simp; try (with_reducible rfl))
      try simp only [Act.put, List.setIfInBounds_toArray, List.set_cons_zero, List.set_cons_succ]
      refine takeD (i := 3) (oi := { dst := some 86, op := _, type := _, pos := _, after := _, guard := _ }) (d := some 86) (v := ?vvqa86) rfl rfl (by kernel_rfl) (by kernel_rfl) (by kernel_rfl) ?ddqa86 (by rfl) ?yyqa86 hHeld ?rrqa86
      case ddqa86 => first | exact fun _ _ _ h => h | exact fun _ _ _ h => HQ.out _ _ _ _ (by rfl) h
      case yyqa86 => (intro wx hSw; obtain ⟨y0, y1, y2, y3, y4, y5, y6, y7, y8, y9, y10, y11, y12, y13, y14⟩ := hSw; go_simp; try (with_reducible rfl))
      try simp only [Act.put, List.setIfInBounds_toArray, List.set_cons_zero, List.set_cons_succ]
      refine takeD (i := 4) (oi := { dst := some 87, op := _, type := _, pos := _, after := _, guard := _ }) (d := some 87) (v := ?vvqa87) rfl rfl (by kernel_rfl) (by kernel_rfl) (by kernel_rfl) ?ddqa87 (by rfl) ?yyqa87 hHeld ?rrqa87
      case ddqa87 => first | exact fun _ _ _ h => h | exact fun _ _ _ h => HQ.out _ _ _ _ (by rfl) h
      case yyqa87 => (intro wx hSw; obtain ⟨y0, y1, y2, y3, y4, y5, y6, y7, y8, y9, y10, y11, y12, y13, y14⟩ := hSw; go_simp; try (with_reducible rfl))
      try simp only [Act.put, List.setIfInBounds_toArray, List.set_cons_zero, List.set_cons_succ]
      refine wpAnyH_ready (rs := [5]) (by kernel_rfl) (by simp) ?_
      refine AllReadyH.cons (o := { dst := some 88, op := _, type := _, pos := _, after := _, guard := _ }) rfl (fun K hK => ?_) AllReadyH.nil
      go_simp
      refine (extent_any kt E N ax (wr).drew (HBX.out kt (by assumption)) (HT.out.below (Nat.le_refl _) (HB.out).drew)).mono ?_
      rintro e w5 ⟨rfl, hbx⟩
      have HB5 := Lib.hid ((HB.out).drew.trans (hbx.mono (HB.out).size))
      refine hK.out _ _ ⟨by rw [hbx.cell (lt_of_cell (show (wr).drew.cell? ⟨g, 1 + j, none⟩ = _ by rw [World.cell?_drew]; exact z0)), World.cell?_drew]; exact z0, CS.of (ShF.below HA.out (Nat.le_refl _) (HB5).out) (by assumption) (((HB5).out.cell (lt_of_cell HBOX.out.1)).trans HBOX.out.1) (((HB5).out.cell (lt_of_cell HBOX.out.2.1)).trans HBOX.out.2.1)⟩ (fun hHeld2 => ?_)
      clear hK K hHeld
      try simp only [Act.put, List.setIfInBounds_toArray, List.set_cons_zero, List.set_cons_succ]
      refine takeD (i := 6) (oi := { dst := some 82, op := _, type := _, pos := _, after := _, guard := _ }) (d := some 82) (v := ?vvqb82) rfl rfl (by kernel_rfl) (by kernel_rfl) (by kernel_rfl) ?ddqb82 (by rfl) ?yyqb82 hHeld2 ?rrqb82
      case ddqb82 => first | exact fun _ _ _ h => h | exact fun _ _ _ h => HQ.out _ _ _ _ (by rfl) h
      case yyqb82 => (intro wx hSw; obtain ⟨y0, y1, y2, y3, y4, y5, y6, y7, y8, y9, y10, y11, y12, y13, y14⟩ := hSw; go_simp; try (with_reducible rfl))
      try simp only [Act.put, List.setIfInBounds_toArray, List.set_cons_zero, List.set_cons_succ]
      refine takeD (i := 7) (oi := { dst := some 89, op := _, type := _, pos := _, after := _, guard := _ }) (d := some 89) (v := ?vvqb89) rfl rfl (by kernel_rfl) (by kernel_rfl) (by kernel_rfl) ?ddqb89 (by rfl) ?yyqb89 hHeld2 ?rrqb89
      case ddqb89 => first | exact fun _ _ _ h => h | exact fun _ _ _ h => HQ.out _ _ _ _ (by rfl) h
      case yyqb89 => (intro wx hSw; obtain ⟨y0, y1, y2, y3, y4, y5, y6, y7, y8, y9, y10, y11, y12, y13, y14⟩ := hSw; go_simp; try (with_reducible rfl))
      try simp only [Act.put, List.setIfInBounds_toArray, List.set_cons_zero, List.set_cons_succ]
      refine takeD (i := 8) (oi := { dst := some 90, op := _, type := _, pos := _, after := _, guard := _ }) (d := some 90) (v := ?vvqb90) rfl rfl (by kernel_rfl) (by kernel_rfl) (by kernel_rfl) ?ddqb90 (by rfl) ?yyqb90 hHeld2 ?rrqb90
      case ddqb90 => first | exact fun _ _ _ h => h | exact fun _ _ _ h => HQ.out _ _ _ _ (by rfl) h
      case yyqb90 => (intro wx hSw; obtain ⟨y0, y1, y2, y3, y4, y5, y6, y7, y8, y9, y10, y11, y12, y13, y14⟩ := hSw; go_simp; try (with_reducible rfl))
      try simp only [Act.put, List.setIfInBounds_toArray, List.set_cons_zero, List.set_cons_succ]
      refine takeD (i := 9) (oi := { dst := some 17, op := _, type := _, pos := _, after := _, guard := _ }) (d := some 17) (v := ?vvqb17) rfl rfl (by kernel_rfl) (by kernel_rfl) (by kernel_rfl) ?ddqb17 (by rfl) ?yyqb17 hHeld2 ?rrqb17
      case ddqb17 => first | exact fun _ _ _ h => h | exact fun _ _ _ h => HQ.out _ _ _ _ (by rfl) h
      case yyqb17 => (intro wx hSw; obtain ⟨y0, y1, y2, y3, y4, y5, y6, y7, y8, y9, y10, y11, y12, y13, y14⟩ := hSw; go_simp; try (with_reducible rfl))
      try simp only [Act.put, List.setIfInBounds_toArray, List.set_cons_zero, List.set_cons_succ]
      refine takeD (i := 10) (oi := { dst := some 18, op := _, type := _, pos := _, after := _, guard := _ }) (d := some 18) (v := ?vvqb18) rfl rfl (by kernel_rfl) (by kernel_rfl) (by kernel_rfl) ?ddqb18 (by rfl) ?yyqb18 hHeld2 ?rrqb18
      case ddqb18 => first | exact fun _ _ _ h => h | exact fun _ _ _ h => HQ.out _ _ _ _ (by rfl) h
      case yyqb18 => (intro wx hSw; obtain ⟨y0, y1, y2, y3, y4, y5, y6, y7, y8, y9, y10, y11, y12, y13, y14⟩ := hSw; go_simp; try (with_reducible rfl))
      try simp only [Act.put, List.setIfInBounds_toArray, List.set_cons_zero, List.set_cons_succ]
      refine wpAnyH_done (by kernel_rfl) ?_ _
      clear hHeld2
      have HR5 := Lib.hid (RowI.below (RowI.drew HR.out) hbx (Nat.le_refl _))
      obtain ⟨tv, htv⟩ : ∃ x, x = sA E S ax (j + 1) := ⟨_, rfl⟩
      rw [show extA (E kt) ax = tv by rw [htv]; unfold sA; rw [HKT.out]]
      obtain ⟨tb, htb⟩ : ∃ x, x = sB E S ax (j + 1) := ⟨_, rfl⟩
      rw [show extB (E kt) ax = tb by rw [htb]; unfold sB; rw [HKT.out]]
      have HRM := Lib.hid (show roomR E S ax c (j + 1) = wrap64 (roomR E S ax c j - wrap64 (tb - tv)) by rw [htv, htb]; rfl)
      clear htv htb hbx z0 HR hkn2 hk0
      go_wp2_with fail
      go_roundw
      case rel => exact ⟨j + 1, by go_num, by omega, by rw [HRM.out], HB5.out, HR5.out⟩
      case measure => simp [intOf]; omega
    · obtain rfl : j = c - 2 := by omega
      have hnn : ¬ ((c - 2 : Nat) : Int) < ((c - 1 - 1 : Nat) : Int) := by omega
      go_wp2_with fail
      go_meet
      exact ⟨rfl, HB.out, HR.out⟩
set_option maxHeartbeats 8000000 in
theorem spMove {n c ca cap q1 q2 g b0 off0 : Nat} {E : Nat → Nat → Int} {N : Nat → Nat → ByteArray} {S : Nat → Int} {ax : Int} {w0 w4 : World} (hc0 : 3 ≤ c) (hcn : c ≤ n) (hn : n ≤ 20) (hcap : c ≤ cap)
    (HA : Hid (ShF w0 (some ⟨b0, off0, none⟩) n E N)) (HT : Hid (Arr w0 1)) (HBX : Hid (∀ k, k < n → boxS (E k))) (HBOX : Hid (w0.cell? ⟨q1, 0, none⟩ = some (.slice (some ⟨b0, off0, none⟩) n ca) ∧ w0.cell? ⟨q2, 0, none⟩ = some (.int .i64 ax) ∧ q1 < w0.heap.size ∧ q2 < w0.heap.size))
    (HSN : Hid (∀ j, j < c → 0 ≤ S j ∧ S j < n)) (HB4 : Hid (Below w0.heap.size w0 w4)) (HR4 : Hid (RowI w4 w0.heap.size 3 1 (.slice (some ⟨g, 0, none⟩) c cap) c S))
    {fr room : Int} {o oc : Nat} (HFR : Hid (fr = sB E S ax 0)) (HRO : Hid (room = roomR E S ax c (c - 2))) (hgo : g < o) (hoB : w0.heap.size ≤ o) (HO4 : Hid (ShR w4 w0.heap.size (.slice (some ⟨o, 0, none⟩) n oc) n E N))
    {s0 s1 s2 s4 s6 s7 s9 s10 s12 s13 s15 s16 s17 s18 s21 s22 s23 s24 s25 s26 s27 s28 s29 s30 s31 s32 s33 s34 s35 s36 s37 s38 s39 s40 s41 s42 s43 s44 s45 s46 s47 s48 s49 s50 s51 s52 s53 s54 s55 s56 s57 s58 s59 s60 s61 s62 s63 s64 s65 s66 s67 s68 s69 s70 s71 s72 s73 s74 s75 s76 s77 s78 s79 s80 s81 s82 s83 s84 s85 s86 s87 s88 s89 s90 s91 s92 s93 s94 s95 s96 s97 s98 s99 s100 s101 s102 s106 s107 s108 s109 s110 s111 s112 s113 s114 s115 s116 s117 s118 s119 s120 s121 s122 s123 s124 s125 s126 s127 s128 s129 s130 s131 s132 s133 s134 s135 s136 s137 s138 s139 s140 s141 s142 s143 s144 s145 s146 s147 s148 s149 : Value} {J K : Act → World → Prop} {Q : Exit → Act → World → Prop}
    (HQ : Hid (∀ (c : List PanicEntry) (a a' : Act) (w : World), a.defers = a'.defers → Q (.panic c) a w → Q (.panic c) a' w))
    (hJ : ∀ (a' : Act) (w' : World), (∃ u20 u21 u22 u23 u24 u105 u106 u107 u108 u109 u110 u111 u112 u113 u114 u115 u116 u117 u118 u119 u120 u121 u122 u123 u124 u125 u126 u127 u128 u129 u130 u131 u132 u133 u134 u135 u136 u137 u138 u139 u140 u141 u142 u143 : Value, (Below w0.heap.size w0 w' ∧ ShR w' w0.heap.size (.slice (some ⟨o, 0, none⟩) n oc) n (sprE E S ax c) N) ∧ a' = ⟨#[s0, s1, s2, .pointer (some ⟨q1, 0, none⟩), s4, .pointer (some ⟨q2, 0, none⟩), s6, s7, .slice (some ⟨g, 0, none⟩) c cap, s9, s10, .int .i64 fr, s12, s13, .int .i64 room, s15, s16, s17, s18, .slice (some ⟨o, 0, none⟩) n oc, u20, u21, u22, u23, u24, s25, s26, s27, s28, s29, s30, s31, s32, s33, s34, s35, s36, s37, s38, s39, s40, s41, s42, s43, s44, s45, s46, s47, s48, s49, s50, s51, s52, s53, s54, s55, s56, s57, s58, s59, s60, s61, s62, s63, s64, s65, s66, s67, s68, s69, s70, s71, s72, s73, s74, s75, s76, s77, s78, s79, s80, s81, s82, s83, s84, s85, s86, s87, s88, s89, s90, s91, s92, s93, s94, s95, s96, s97, s98, s99, s100, s101, s102, .slice (some ⟨g, 1, none⟩) (c - 1 - 1 : Nat) (cap - 1), .int .i64 (c - 1 - 1 : Nat), u105, u106, u107, u108, u109, u110, u111, u112, u113, u114, u115, u116, u117, u118, u119, u120, u121, u122, u123, u124, u125, u126, u127, u128, u129, u130, u131, u132, u133, u134, u135, u136, u137, u138, u139, u140, u141, u142, u143, s144, s145, s146, s147, s148, s149], []⟩) → J a' w')
    (hK : ∀ (a' : Act) (w' : World), Met J a' w' → K a' w') :
    Code.wp Tryd.prog (theBlk Tryd.f8 2) (Exit.then K Q) ⟨#[s0, s1, s2, .pointer (some ⟨q1, 0, none⟩), s4, .pointer (some ⟨q2, 0, none⟩), s6, s7, .slice (some ⟨g, 0, none⟩) c cap, s9, s10, .int .i64 fr, s12, s13, .int .i64 room, s15, s16, s17, s18, .slice (some ⟨o, 0, none⟩) n oc, .int .i64 0, s21, s22, s23, s24, s25, s26, s27, s28, s29, s30, s31, s32, s33, s34, s35, s36, s37, s38, s39, s40, s41, s42, s43, s44, s45, s46, s47, s48, s49, s50, s51, s52, s53, s54, s55, s56, s57, s58, s59, s60, s61, s62, s63, s64, s65, s66, s67, s68, s69, s70, s71, s72, s73, s74, s75, s76, s77, s78, s79, s80, s81, s82, s83, s84, s85, s86, s87, s88, s89, s90, s91, s92, s93, s94, s95, s96, s97, s98, s99, s100, s101, s102, .slice (some ⟨g, 1, none⟩) (c - 1 - 1 : Nat) (cap - 1), .int .i64 (c - 1 - 1 : Nat), .int .i64 0, s106, s107, s108, s109, s110, s111, s112, s113, s114, s115, s116, s117, s118, s119, s120, s121, s122, s123, s124, s125, s126, s127, s128, s129, s130, s131, s132, s133, s134, s135, s136, s137, s138, s139, s140, s141, s142, s143, s144, s145, s146, s147, s148, s149], []⟩ w4 := by
  conv => arg 2; whnf
  go_wp2_with fail
  obtain ⟨E1, hE1⟩ : ∃ F : Nat → Nat → Nat → Int, F = mvR E (fun j => S (j + 1)) ax (byS E S ax c) := ⟨_, rfl⟩
  have HE1 := Lib.hid hE1
  have HE10 := Lib.hid (show E1 0 = E by rw [hE1]; rfl)
  clear hE1
  obtain ⟨col, hcol⟩ : ∃ col : Nat, col = if ax = 0 then 3 else 4 := ⟨_, rfl⟩
  have hcol10 : col < 10 := by rw [hcol]; split <;> omega
  have HCOL := Lib.hid hcol
  have e1 : (c : Int) - 1 = ((c - 1 : Nat) : Int) := by omega
  have hw1 := IntWalk.i64_in ((c - 1 : Nat) : Int) (by omega)
  clear hcol
  go_loopw [20, 105] (fun uv ix wr => ∃ j : Nat, ix = .int .i64 j ∧ j ≤ c - 2 ∧ uv = .int .i64 (usedR E S ax j) ∧ Below w0.heap.size w0 wr ∧ RowI wr w0.heap.size 3 1 (.slice (some ⟨g, 0, none⟩) c cap) c S ∧ ShR wr w0.heap.size (.slice (some ⟨o, 0, none⟩) n oc) n (E1 j) N) (fun _ ix _ => c - 2 - (intOf ix).toNat)
  case atStart => exact ⟨0, rfl, by omega, rfl, HB4.out, HR4.out, by rw [HE10.out]; exact HO4.out⟩
  case round =>
    obtain ⟨j, rfl, hj, rfl, hbel, hrow, hso⟩ := hrel
    have HB := Lib.hid hbel
    have HR := Lib.hid hrow
    have HO := Lib.hid hso
    clear hbel hrow hso HB4 HR4 HO4
    by_cases h : j < c - 2
    · have hj2 : (j : Int) < ((c - 1 - 1 : Nat) : Int) := by omega
      have hj0 : (0 : Int) ≤ (j : Int) := by omega
      obtain ⟨kt, hke, hktn⟩ : ∃ k : Nat, S (j + 1) = (k : Int) ∧ k < n := ⟨(S (j + 1)).toNat, by have := HSN.out (j + 1) (by omega); omega, by have := HSN.out (j + 1) (by omega); omega⟩
      obtain ⟨_, _, hv, _, hg3, _, _, hfz, hcell⟩ := RowI.at HR.out (by omega)
      cases hv
      have z0 := hcell (1 + j) (by omega)
      rw [Nat.add_comm 1 j, hke, Nat.add_comm j 1] at z0
      have hkn2 : (kt : Int) < (n : Int) := by omega
      have hk0 : (0 : Int) ≤ (kt : Int) := by omega
      have HKT := Lib.hid (show (S (j + 1)).toNat = kt by rw [hke]; rfl)
      clear hke hfz hcell
      go_upto_region 21 with fail
      refine wp_region_held_drew (S := fun w' => w'.cell? ⟨g, 1 + j, none⟩ = some (.int .i64 (kt : Nat)) ∧ CS q1 q2 b0 off0 kt n ca ax E N w') (by kernel_rfl) (by exact ⟨by rw [World.cell?_drew]; exact z0, CS.of (ShF.below HA.out (Nat.le_refl _) ((HB.out).drew)) (by assumption) (by rw [World.cell?_drew]; exact ((HB.out).cell (lt_of_cell HBOX.out.1)).trans HBOX.out.1) (by rw [World.cell?_drew]; exact ((HB.out).cell (lt_of_cell HBOX.out.2.1)).trans HBOX.out.2.1)⟩) ?_
      intro hHeld
      refine takeD (i := 0) (oi := { dst := some 111, op := _, type := _, pos := _, after := _, guard := _ }) (d := some 111) (v := ?vvqa111) rfl rfl (by kernel_rfl) (by kernel_rfl) (by kernel_rfl) ?ddqa111 (by rfl) ?yyqa111 hHeld ?rrqa111
      case ddqa111 => first | exact fun _ _ _ h => h | exact fun _ _ _ h => HQ.out _ _ _ _ (by rfl) h
      case yyqa111 => (intro wx hSw; obtain ⟨y0, y1, y2, y3, y4, y5, y6, y7, y8, y9, y10, y11, y12, y13, y14⟩ := hSw; go_simp; try (with_reducible rfl))
      try simp only [Act.put, List.setIfInBounds_toArray, List.set_cons_zero, List.set_cons_succ]
      refine takeD (i := 1) (oi := { dst := some 112, op := _, type := _, pos := _, after := _, guard := _ }) (d := some 112) (v := ?vvqa112) rfl rfl (by kernel_rfl) (by kernel_rfl) (by kernel_rfl) ?ddqa112 (by rfl) ?yyqa112 hHeld ?rrqa112
      case ddqa112 => first | exact fun _ _ _ h => h | exact fun _ _ _ h => HQ.out _ _ _ _ (by rfl) h
      case yyqa112 => (intro wx hSw; obtain ⟨y0, y1, y2, y3, y4, y5, y6, y7, y8, y9, y10, y11, y12, y13, y14⟩ := hSw; go_simp; try (with_reducible rfl))
      try simp only [Act.put, List.setIfInBounds_toArray, List.set_cons_zero, List.set_cons_succ]
      refine takeD (i := 2) (oi := { dst := some 113, op := _, type := _, pos := _, after := _, guard := _ }) (d := some 113) (v := ?vvqa113) rfl rfl (by kernel_rfl) (by kernel_rfl) (by kernel_rfl) ?ddqa113 (by rfl) ?yyqa113 hHeld ?rrqa113
      case ddqa113 => first | exact fun _ _ _ h => h | exact fun _ _ _ h => HQ.out _ _ _ _ (by rfl) h
      case yyqa113 => (intro wx hSw; obtain ⟨y0, y1, y2, y3, y4, y5, y6, y7, y8, y9, y10, y11, y12, y13, y14⟩ := hSw; go_simp; try (with_reducible rfl))
      try simp only [Act.put, List.setIfInBounds_toArray, List.set_cons_zero, List.set_cons_succ]
      refine takeD (i := 3) (oi := { dst := some 114, op := _, type := _, pos := _, after := _, guard := _ }) (d := some 114) (v := ?vvqa114) rfl rfl (by kernel_rfl) (by kernel_rfl) (by kernel_rfl) ?ddqa114 (by rfl) ?yyqa114 hHeld ?rrqa114
      case ddqa114 => first | exact fun _ _ _ h => h | exact fun _ _ _ h => HQ.out _ _ _ _ (by rfl) h
      case yyqa114 => (intro wx hSw; obtain ⟨y0, y1, y2, y3, y4, y5, y6, y7, y8, y9, y10, y11, y12, y13, y14⟩ := hSw; go_simp; try (with_reducible rfl))
      try simp only [Act.put, List.setIfInBounds_toArray, List.set_cons_zero, List.set_cons_succ]
      refine takeD (i := 4) (oi := { dst := some 115, op := _, type := _, pos := _, after := _, guard := _ }) (d := some 115) (v := ?vvqa115) rfl rfl (by kernel_rfl) (by kernel_rfl) (by kernel_rfl) ?ddqa115 (by rfl) ?yyqa115 hHeld ?rrqa115
      case ddqa115 => first | exact fun _ _ _ h => h | exact fun _ _ _ h => HQ.out _ _ _ _ (by rfl) h
      case yyqa115 => (intro wx hSw; obtain ⟨y0, y1, y2, y3, y4, y5, y6, y7, y8, y9, y10, y11, y12, y13, y14⟩ := hSw; go_simp; try (with_reducible rfl))
      try simp only [Act.put, List.setIfInBounds_toArray, List.set_cons_zero, List.set_cons_succ]
      refine wpAnyH_ready (rs := [5]) (by kernel_rfl) (by simp) ?_
      refine AllReadyH.cons (o := { dst := some 116, op := _, type := _, pos := _, after := _, guard := _ }) rfl (fun K hK => ?_) AllReadyH.nil
      go_simp
      refine (extent_any kt E N ax (wr).drew (HBX.out kt (by assumption)) (HT.out.below (Nat.le_refl _) (HB.out).drew)).mono ?_
      rintro e w5 ⟨rfl, hbx⟩
      have HB5 := Lib.hid ((HB.out).drew.trans (hbx.mono (HB.out).size))
      refine hK.out _ _ ⟨by rw [hbx.cell (lt_of_cell (show (wr).drew.cell? ⟨g, 1 + j, none⟩ = _ by rw [World.cell?_drew]; exact z0)), World.cell?_drew]; exact z0, CS.of (ShF.below HA.out (Nat.le_refl _) (HB5).out) (by assumption) (((HB5).out.cell (lt_of_cell HBOX.out.1)).trans HBOX.out.1) (((HB5).out.cell (lt_of_cell HBOX.out.2.1)).trans HBOX.out.2.1)⟩ (fun hHeld2 => ?_)
      clear hK K hHeld
      try simp only [Act.put, List.setIfInBounds_toArray, List.set_cons_zero, List.set_cons_succ]
      refine takeD (i := 6) (oi := { dst := some 110, op := _, type := _, pos := _, after := _, guard := _ }) (d := some 110) (v := ?vvqb110) rfl rfl (by kernel_rfl) (by kernel_rfl) (by kernel_rfl) ?ddqb110 (by rfl) ?yyqb110 hHeld2 ?rrqb110
      case ddqb110 => first | exact fun _ _ _ h => h | exact fun _ _ _ h => HQ.out _ _ _ _ (by rfl) h
      case yyqb110 => (intro wx hSw; obtain ⟨y0, y1, y2, y3, y4, y5, y6, y7, y8, y9, y10, y11, y12, y13, y14⟩ := hSw; go_simp; try (with_reducible rfl))
      try simp only [Act.put, List.setIfInBounds_toArray, List.set_cons_zero, List.set_cons_succ]
      refine takeD (i := 7) (oi := { dst := some 117, op := _, type := _, pos := _, after := _, guard := _ }) (d := some 117) (v := ?vvqb117) rfl rfl (by kernel_rfl) (by kernel_rfl) (by kernel_rfl) ?ddqb117 (by rfl) ?yyqb117 hHeld2 ?rrqb117
      case ddqb117 => first | exact fun _ _ _ h => h | exact fun _ _ _ h => HQ.out _ _ _ _ (by rfl) h
      case yyqb117 => (intro wx hSw; obtain ⟨y0, y1, y2, y3, y4, y5, y6, y7, y8, y9, y10, y11, y12, y13, y14⟩ := hSw; go_simp; try (with_reducible rfl))
      try simp only [Act.put, List.setIfInBounds_toArray, List.set_cons_zero, List.set_cons_succ]
      refine takeD (i := 8) (oi := { dst := some 118, op := _, type := _, pos := _, after := _, guard := _ }) (d := some 118) (v := ?vvqb118) rfl rfl (by kernel_rfl) (by kernel_rfl) (by kernel_rfl) ?ddqb118 (by rfl) ?yyqb118 hHeld2 ?rrqb118
      case ddqb118 => first | exact fun _ _ _ h => h | exact fun _ _ _ h => HQ.out _ _ _ _ (by rfl) h
      case yyqb118 => (intro wx hSw; obtain ⟨y0, y1, y2, y3, y4, y5, y6, y7, y8, y9, y10, y11, y12, y13, y14⟩ := hSw; go_simp; try (with_reducible rfl))
      try simp only [Act.put, List.setIfInBounds_toArray, List.set_cons_zero, List.set_cons_succ]
      refine takeD (i := 9) (oi := { dst := some 23, op := _, type := _, pos := _, after := _, guard := _ }) (d := some 23) (v := ?vvqb23) rfl rfl (by kernel_rfl) (by kernel_rfl) (by kernel_rfl) ?ddqb23 (by rfl) ?yyqb23 hHeld2 ?rrqb23
      case ddqb23 => first | exact fun _ _ _ h => h | exact fun _ _ _ h => HQ.out _ _ _ _ (by rfl) h
      case yyqb23 => (intro wx hSw; obtain ⟨y0, y1, y2, y3, y4, y5, y6, y7, y8, y9, y10, y11, y12, y13, y14⟩ := hSw; go_simp; try (with_reducible rfl))
      try simp only [Act.put, List.setIfInBounds_toArray, List.set_cons_zero, List.set_cons_succ]
      refine takeD (i := 10) (oi := { dst := some 24, op := _, type := _, pos := _, after := _, guard := _ }) (d := some 24) (v := ?vvqb24) rfl rfl (by kernel_rfl) (by kernel_rfl) (by kernel_rfl) ?ddqb24 (by rfl) ?yyqb24 hHeld2 ?rrqb24
      case ddqb24 => first | exact fun _ _ _ h => h | exact fun _ _ _ h => HQ.out _ _ _ _ (by rfl) h
      case yyqb24 => (intro wx hSw; obtain ⟨y0, y1, y2, y3, y4, y5, y6, y7, y8, y9, y10, y11, y12, y13, y14⟩ := hSw; go_simp; try (with_reducible rfl))
      try simp only [Act.put, List.setIfInBounds_toArray, List.set_cons_zero, List.set_cons_succ]
      refine wpAnyH_done (by kernel_rfl) ?_ _
      clear hHeld2
      have HR5 := Lib.hid (RowI.below (RowI.drew HR.out) hbx (Nat.le_refl _))
      have HO5 := Lib.hid (show ShR w5 w0.heap.size (.slice (some ⟨o, 0, none⟩) n oc) n (E1 j) N from RowV.below (RowV.block HO.out (fun _ _ => rfl) : ShR wr.drew _ _ n (E1 j) N) hbx (Nat.le_refl _))
      obtain ⟨tv, htv⟩ : ∃ x, x = sA E S ax (j + 1) := ⟨_, rfl⟩
      rw [show extA (E kt) ax = tv by rw [htv]; unfold sA; rw [HKT.out]]
      obtain ⟨tb, htb⟩ : ∃ x, x = sB E S ax (j + 1) := ⟨_, rfl⟩
      rw [show extB (E kt) ax = tb by rw [htb]; unfold sB; rw [HKT.out]]
      obtain ⟨us, hus⟩ : ∃ x, x = usedR E S ax j := ⟨_, rfl⟩
      rw [← hus]
      have HUM := Lib.hid (show usedR E S ax (j + 1) = wrap64 (us + wrap64 (tb - tv)) by rw [htv, htb, hus]; rfl)
      obtain ⟨MU, hMU⟩ : ∃ x, x = wrap64 (room * ((j : Int) + 1)) := ⟨_, rfl⟩
      obtain ⟨QU, hQU⟩ : ∃ x, x = MU / ((c - 1 : Nat) : Int) := ⟨_, rfl⟩
      have HBY := Lib.hid (show byS E S ax c j = wrap64 (wrap64 (wrap64 (fr + us) + QU) - tv) by
        rw [hQU, hMU, hus, htv, HFR.out, HRO.out, ← e1]; rfl)
      have HFL := Lib.hid (fun W => floor_any MU ((c - 1 : Nat) : Int) W (by rw [hMU]; exact wrap_range _) (by omega))
      rw [← hQU] at HFL
      have hwj := IntWalk.i64_in ((j : Int) + 1) (by omega)
      have hMUW : IntKind.i64.wrap (room * ((j : Int) + 1)) = MU := by rw [IntWalk.i64_left]; exact hMU.symm
      obtain ⟨_, _, hv, _, hgo5, _, _, hfz, hcl⟩ := RowV.at HO5.out (by omega)
      cases hv
      have hx := hcl kt hktn col (by omega)
      have hxv : shV (E1 j) N kt col = .int .i64 (E1 j kt col) := by unfold shV; rw [if_pos (by omega)]
      rw [hxv] at hx
      have hfx := hfz (kt * 12 + col)
      have HMV := Lib.hid (fun (W : World) (B : Int) (h1 : W.cell? ⟨o, kt * 12 + col, none⟩ = some (.int .i64 (E1 j kt col))) (h2 : W.frozen? ⟨o, kt * 12 + col, none⟩ = false) => move_any o (kt * 12) ax (E1 j kt col) B col W HCOL.out h1 h2)
      have hax5 : w5.cell? ⟨q2, 0, none⟩ = some (.int .i64 ax) := (HB5.out.cell (lt_of_cell HBOX.out.2.1)).trans HBOX.out.2.1
      have HX5 := Lib.hid (show w5.cell? ⟨o, kt * 12 + col, none⟩ = some (.int .i64 (E1 j kt col)) ∧ w5.frozen? ⟨o, kt * 12 + col, none⟩ = false ∧ w5.cell? ⟨q2, 0, none⟩ = some (.int .i64 ax) from ⟨hx, hfx, hax5⟩)
      have hqo : q2 ≠ o := by have := HBOX.out.2.2.2; omega
      clear htv htb hus hbx z0 HR hMU hQU hfz hcl hx hfx hxv hax5
      go_upto_region 22 with fail
      refine wp_region_held_drew (S := fun w' => w'.cell? ⟨q2, 0, none⟩ = some (.int .i64 ax)) (by kernel_rfl) (by rw [World.cell?_drew]; exact HX5.out.2.2) ?_
      intro hHeld
      refine takeD (i := 0) (oi := { dst := some 119, op := _, type := _, pos := _, after := _, guard := _ }) (d := some 119) (v := ?vvr119) rfl rfl (by kernel_rfl) (by kernel_rfl) (by kernel_rfl) ?ddr119 (by rfl) ?yyr119 hHeld ?rrr119
      case ddr119 => first | exact fun _ _ _ h => h | exact fun _ _ _ h => HQ.out _ _ _ _ (by rfl) h
      case yyr119 => (intro wx hSw; obtain y0 := hSw; go_simp; try (with_reducible rfl))
      try simp only [Act.put, List.setIfInBounds_toArray, List.set_cons_zero, List.set_cons_succ]
      refine takeD (i := 1) (oi := { dst := some 120, op := _, type := _, pos := _, after := _, guard := _ }) (d := some 120) (v := ?vvr120) rfl rfl (by kernel_rfl) (by kernel_rfl) (by kernel_rfl) ?ddr120 (by rfl) ?yyr120 hHeld ?rrr120
      case ddr120 => first | exact fun _ _ _ h => h | exact fun _ _ _ h => HQ.out _ _ _ _ (by rfl) h
      case yyr120 => (intro wx hSw; obtain y0 := hSw; go_simp; try (with_reducible rfl))
      try simp only [Act.put, List.setIfInBounds_toArray, List.set_cons_zero, List.set_cons_succ]
      refine takeD (i := 2) (oi := { dst := some 121, op := _, type := _, pos := _, after := _, guard := _ }) (d := some 121) (v := ?vvr121) rfl rfl (by kernel_rfl) (by kernel_rfl) (by kernel_rfl) ?ddr121 (by rfl) ?yyr121 hHeld ?rrr121
      case ddr121 => first | exact fun _ _ _ h => h | exact fun _ _ _ h => HQ.out _ _ _ _ (by rfl) h
      case yyr121 => (intro wx hSw; obtain y0 := hSw; go_simp; try (with_reducible rfl))
      try simp only [Act.put, List.setIfInBounds_toArray, List.set_cons_zero, List.set_cons_succ]
      refine takeD (i := 3) (oi := { dst := some 122, op := _, type := _, pos := _, after := _, guard := _ }) (d := some 122) (v := ?vvr122) rfl rfl (by kernel_rfl) (by kernel_rfl) (by kernel_rfl) ?ddr122 (by rfl) ?yyr122 hHeld ?rrr122
      case ddr122 => first | exact fun _ _ _ h => h | exact fun _ _ _ h => HQ.out _ _ _ _ (by rfl) h
      case yyr122 => (intro wx hSw; obtain y0 := hSw; go_simp; try (with_reducible rfl))
      try simp only [Act.put, List.setIfInBounds_toArray, List.set_cons_zero, List.set_cons_succ]
      refine takeD (i := 4) (oi := { dst := some 123, op := _, type := _, pos := _, after := _, guard := _ }) (d := some 123) (v := ?vvr123) rfl rfl (by kernel_rfl) (by kernel_rfl) (by kernel_rfl) ?ddr123 (by rfl) ?yyr123 hHeld ?rrr123
      case ddr123 => first | exact fun _ _ _ h => h | exact fun _ _ _ h => HQ.out _ _ _ _ (by rfl) h
      case yyr123 => (intro wx hSw; obtain y0 := hSw; go_simp; try (with_reducible rfl))
      try simp only [Act.put, List.setIfInBounds_toArray, List.set_cons_zero, List.set_cons_succ]
      refine takeD (i := 5) (oi := { dst := some 124, op := _, type := _, pos := _, after := _, guard := _ }) (d := some 124) (v := ?vvr124) rfl rfl (by kernel_rfl) (by kernel_rfl) (by kernel_rfl) ?ddr124 (by rfl) ?yyr124 hHeld ?rrr124
      case ddr124 => first | exact fun _ _ _ h => h | exact fun _ _ _ h => HQ.out _ _ _ _ (by rfl) h
      case yyr124 => (intro wx hSw; obtain y0 := hSw; go_simp; try (with_reducible rfl))
      try simp only [Act.put, List.setIfInBounds_toArray, List.set_cons_zero, List.set_cons_succ]
      refine takeD (i := 6) (oi := { dst := some 125, op := _, type := _, pos := _, after := _, guard := _ }) (d := some 125) (v := ?vvr125) rfl rfl (by kernel_rfl) (by kernel_rfl) (by kernel_rfl) ?ddr125 (by rfl) ?yyr125 hHeld ?rrr125
      case ddr125 => first | exact fun _ _ _ h => h | exact fun _ _ _ h => HQ.out _ _ _ _ (by rfl) h
      case yyr125 => (intro wx hSw; obtain y0 := hSw; go_simp; try (with_reducible rfl))
      try simp only [Act.put, List.setIfInBounds_toArray, List.set_cons_zero, List.set_cons_succ]
      refine takeD (i := 7) (oi := { dst := some 126, op := _, type := _, pos := _, after := _, guard := _ }) (d := some 126) (v := ?vvr126) rfl rfl (by kernel_rfl) (by kernel_rfl) (by kernel_rfl) ?ddr126 (by rfl) ?yyr126 hHeld ?rrr126
      case ddr126 => first | exact fun _ _ _ h => h | exact fun _ _ _ h => HQ.out _ _ _ _ (by rfl) h
      case yyr126 => (intro wx hSw; obtain y0 := hSw; go_simp; try (with_reducible rfl))
      try simp only [Act.put, List.setIfInBounds_toArray, List.set_cons_zero, List.set_cons_succ]
      refine takeD (i := 8) (oi := { dst := some 127, op := _, type := _, pos := _, after := _, guard := _ }) (d := some 127) (v := ?vvr127) rfl rfl (by kernel_rfl) (by kernel_rfl) (by kernel_rfl) ?ddr127 (by rfl) ?yyr127 hHeld ?rrr127
      case ddr127 => first | exact fun _ _ _ h => h | exact fun _ _ _ h => HQ.out _ _ _ _ (by rfl) h
      case yyr127 => (intro wx hSw; obtain y0 := hSw; go_simp; try (with_reducible rfl))
      try simp only [Act.put, List.setIfInBounds_toArray, List.set_cons_zero, List.set_cons_succ]
      refine takeD (i := 9) (oi := { dst := some 128, op := _, type := _, pos := _, after := _, guard := _ }) (d := some 128) (v := ?vvr128) rfl rfl (by kernel_rfl) (by kernel_rfl) (by kernel_rfl) ?ddr128 (by rfl) ?yyr128 hHeld ?rrr128
      case ddr128 => first | exact fun _ _ _ h => h | exact fun _ _ _ h => HQ.out _ _ _ _ (by rfl) h
      case yyr128 => (intro wx hSw; obtain y0 := hSw; go_simp; try (with_reducible rfl))
      try simp only [Act.put, List.setIfInBounds_toArray, List.set_cons_zero, List.set_cons_succ]
      refine takeD (i := 10) (oi := { dst := some 129, op := _, type := _, pos := _, after := _, guard := _ }) (d := some 129) (v := ?vvr129) rfl rfl (by kernel_rfl) (by kernel_rfl) (by kernel_rfl) ?ddr129 (by rfl) ?yyr129 hHeld ?rrr129
      case ddr129 => first | exact fun _ _ _ h => h | exact fun _ _ _ h => HQ.out _ _ _ _ (by rfl) h
      case yyr129 => (intro wx hSw; obtain y0 := hSw; go_simp; try (with_reducible rfl))
      try simp only [Act.put, List.setIfInBounds_toArray, List.set_cons_zero, List.set_cons_succ]
      refine takeD (i := 11) (oi := { dst := some 130, op := _, type := _, pos := _, after := _, guard := _ }) (d := some 130) (v := ?vvr130) rfl rfl (by kernel_rfl) (by kernel_rfl) (by kernel_rfl) ?ddr130 (by rfl) ?yyr130 hHeld ?rrr130
      case ddr130 => first | exact fun _ _ _ h => h | exact fun _ _ _ h => HQ.out _ _ _ _ (by rfl) h
      case yyr130 => (intro wx hSw; obtain y0 := hSw; go_simp; try (with_reducible rfl))
      try simp only [Act.put, List.setIfInBounds_toArray, List.set_cons_zero, List.set_cons_succ]
      refine takeD (i := 12) (oi := { dst := some 131, op := _, type := _, pos := _, after := _, guard := _ }) (d := some 131) (v := ?vvr131) rfl rfl (by kernel_rfl) (by kernel_rfl) (by kernel_rfl) ?ddr131 (by rfl) ?yyr131 hHeld ?rrr131
      case ddr131 => first | exact fun _ _ _ h => h | exact fun _ _ _ h => HQ.out _ _ _ _ (by rfl) h
      case yyr131 => (intro wx hSw; obtain y0 := hSw; go_simp; try (with_reducible rfl))
      try simp only [Act.put, List.setIfInBounds_toArray, List.set_cons_zero, List.set_cons_succ]
      refine takeD (i := 13) (oi := { dst := some 132, op := _, type := _, pos := _, after := _, guard := _ }) (d := some 132) (v := ?vvr132) rfl rfl (by kernel_rfl) (by kernel_rfl) (by kernel_rfl) ?ddr132 (by rfl) ?yyr132 hHeld ?rrr132
      case ddr132 => first | exact fun _ _ _ h => h | exact fun _ _ _ h => HQ.out _ _ _ _ (by rfl) h
      case yyr132 => (intro wx hSw; obtain y0 := hSw; go_simp; try (with_reducible rfl))
      try simp only [Act.put, List.setIfInBounds_toArray, List.set_cons_zero, List.set_cons_succ]
      refine takeD (i := 16) (oi := { dst := some 135, op := _, type := _, pos := _, after := _, guard := _ }) (d := some 135) (v := ?vvr135) rfl rfl (by kernel_rfl) (by kernel_rfl) (by kernel_rfl) ?ddr135 (by rfl) ?yyr135 hHeld ?rrr135
      case ddr135 => first | exact fun _ _ _ h => h | exact fun _ _ _ h => HQ.out _ _ _ _ (by rfl) h
      case yyr135 => (intro wx hSw; obtain y0 := hSw; go_simp; try (with_reducible rfl))
      try simp only [Act.put, List.setIfInBounds_toArray, List.set_cons_zero, List.set_cons_succ]
      refine wpAnyH_ready (rs := [14]) (by kernel_rfl) (by simp) ?_
      refine AllReadyH.cons (o := { dst := some 133, op := _, type := _, pos := _, after := _, guard := _ }) rfl (fun K hK => ?_) AllReadyH.nil
      go_simp
      refine (HFL.out _).mono ?_
      rintro e wq ⟨rfl, rfl⟩
      refine hK.out _ _ (by rw [World.cell?_drew]; exact HX5.out.2.2) (fun hHeld2 => ?_)
      clear hK K hHeld
      try simp only [Act.put, List.setIfInBounds_toArray, List.set_cons_zero, List.set_cons_succ]
      refine takeD (i := 15) (oi := { dst := some 134, op := _, type := _, pos := _, after := _, guard := _ }) (d := some 134) (v := ?vvs134) rfl rfl (by kernel_rfl) (by kernel_rfl) (by kernel_rfl) ?dds134 (by rfl) ?yys134 hHeld2 ?rrs134
      case dds134 => first | exact fun _ _ _ h => h | exact fun _ _ _ h => HQ.out _ _ _ _ (by rfl) h
      case yys134 => (intro wx hSw; obtain y0 := hSw; go_simp; try (with_reducible rfl))
      try simp only [Act.put, List.setIfInBounds_toArray, List.set_cons_zero, List.set_cons_succ]
      refine takeD (i := 17) (oi := { dst := some 136, op := _, type := _, pos := _, after := _, guard := _ }) (d := some 136) (v := ?vvs136) rfl rfl (by kernel_rfl) (by kernel_rfl) (by kernel_rfl) ?dds136 (by rfl) ?yys136 hHeld2 ?rrs136
      case dds136 => first | exact fun _ _ _ h => h | exact fun _ _ _ h => HQ.out _ _ _ _ (by rfl) h
      case yys136 => (intro wx hSw; obtain y0 := hSw; go_simp; try (with_reducible rfl))
      try simp only [Act.put, List.setIfInBounds_toArray, List.set_cons_zero, List.set_cons_succ]
      refine wpAnyH_ready (rs := [18]) (by kernel_rfl) (by simp) ?_
      refine AllReadyH.cons (o := { dst := some 137, op := _, type := _, pos := _, after := _, guard := _ }) rfl (fun K hK => ?_) AllReadyH.nil
      go_simp
      simp only [IntWalk.i64_left]
      rw [← HBY.out]
      refine (HMV.out w5.drew (byS E S ax c j) (by rw [World.cell?_drew]; exact HX5.out.1) (by exact HX5.out.2.1)).mono ?_
      rintro e w6 ⟨rfl, hw6⟩
      have HO6 := Lib.hid (show ShR w6 w0.heap.size (.slice (some ⟨o, 0, none⟩) n oc) n (E1 (j + 1)) N by
        rw [hw6]
        have h1 : ShR w5.drew w0.heap.size (.slice (some ⟨o, 0, none⟩) n oc) n (E1 j) N := RowV.block HO5.out (fun _ _ => rfl)
        have h2 := ShR.mov h1 hktn ax (byS E S ax c j) col HCOL.out
        rw [HE1.out] at h2 ⊢
        show ShR _ _ _ n (movE (mvR E (fun j => S (j + 1)) ax (byS E S ax c) j) (S (j + 1)).toNat ax (byS E S ax c j)) N
        rw [HKT.out]
        exact h2)
      have HR6 := Lib.hid (show RowI w6 w0.heap.size 3 1 (.slice (some ⟨g, 0, none⟩) c cap) c S by
        rw [hw6]
        exact RowI.other (RowI.drew HR5.out) (a := ⟨o, kt * 12 + col, none⟩) (by simp [Value.ownBlock]; omega) _)
      have HB6 := Lib.hid (show Below w0.heap.size w0 w6 by
        rw [hw6]
        exact HB5.out.drew.setCell (by simpa using hoB) _)
      have hax6 : w6.cell? ⟨q2, 0, none⟩ = some (.int .i64 ax) := (HB6.out.cell (lt_of_cell HBOX.out.2.1)).trans HBOX.out.2.1
      refine hK.out _ _ hax6 (fun hHeld => ?_)
      clear hK K hHeld2 hw6
      try simp only [Act.put, List.setIfInBounds_toArray, List.set_cons_zero, List.set_cons_succ]
      refine wpAnyH_done (by kernel_rfl) ?_ _
      clear hHeld HMV HFL hMUW hax6
      go_wp2_with fail
      go_roundw
      case rel => exact ⟨j + 1, by go_num, by omega, by rw [HUM.out], HB6.out, HR6.out, HO6.out⟩
      case measure => simp [intOf]; omega
    · obtain rfl : j = c - 2 := by omega
      have hnn : ¬ ((c - 2 : Nat) : Int) < ((c - 1 - 1 : Nat) : Int) := by omega
      have HFIN := Lib.hid (show E1 (c - 2) = sprE E S ax c by rw [HE1.out]; rfl)
      go_wp2_with fail
      go_meet
      exact ⟨HB.out, by rw [← HFIN.out]; exact HO.out⟩
end Go.Proofs.YtabnohphgegflaaDoor.ShT
