
/-
  The reference's ColumnWidths.
-/
import Derived.Test.YtpbnkkeplhgepaaBalWidths
namespace Go.Proofs.Ytpbnkkeplhgepaa.BA
open Go.RowKit Go.Law Go.Law.Bal Ref
set_option linter.unusedVariables false
set_option linter.unusedSimpArgs false
set_option maxRecDepth 100000
def ColWPost (cols n : Nat) (E : Nat → Nat → Int) (width : Int) (w : World) (e : Ending) (w' : World) : Prop :=
  Below w.heap.size w w' ∧ ∃ a cap, e = .returned (.slice a cols cap) ∧ IntsF w' a cols (colG (needF E (wantA E) n cols) (mostF E n cols) cols width)
-- the sums of G's row and the parts are put into a new row
set_option maxHeartbeats 8000000 in
theorem colw_any (cols n : Nat) (E : Nat → Nat → Int) (a : Option Addr) (c : Nat) (width : Int) (w : World) (ha : StrF w a n 4 E) (he : balE cols n E = 0) (hw : 0 ≤ width ∧ width ≤ 31680) :
    Calls Try.prog 44 #[.int .i64 cols, .slice a n c, .int .i64 width] w (ColWPost cols n E width w) := by
  obtain ⟨hw1, hw2⟩ := hw
  have hmk := make_ints cols (by obtain ⟨hc, hn, hE⟩ := balE_zero he; omega)
  have HMK := Lib.hid hmk
  clear hmk
  obtain ⟨hc, hn, hE⟩ := balE_zero he
  have hc' : 1 ≤ cols ∧ cols ≤ 64 := ⟨by omega, by omega⟩
  have htop := columns_any cols n E a c w ha hc' hn hE
  have HAB := Lib.hid (ab_of (n := n) (cols := cols) hE)
  obtain ⟨i0, hi0, hz0, hz1, hz2⟩ := info_parts (show (Try.prog.info? 3).map (fun i => (i.zero, i.size, i.bytes)) = some (some (.int .i64 0), 1, 8) by kernel_rfl)
  clear ha he hE
  go_enter Try.func44, Try.ntmps44
  go_wp2_with fail
  refine htop.mono ?_
  rintro e w1 ⟨hb1, g1, g2, rfl, hg1, hg2, hO1, hO2⟩
  obtain ⟨A, hA⟩ : ∃ A, A = needF E (wantA E) n cols := ⟨_, rfl⟩
  obtain ⟨B, hB⟩ : ∃ B, B = mostF E n cols := ⟨_, rfl⟩
  rw [← hA, ← hB] at HAB
  rw [← hA] at hO1
  rw [← hB] at hO2
  clear hA hB
  have HSA := Lib.hid (fun wx (h : OwnF wx 3 g1 cols A) => total_any cols A _ cols wx h.ints (by omega) (fun i hi => by have := HAB.out.lo i hi; omega))
  have HSB := Lib.hid (fun wx (h : OwnF wx 3 g2 cols B) => total_any cols B _ cols wx h.ints (by omega) (fun i hi => by have := HAB.out.lo i hi; omega))
  have hsa := sumB_bd (f := A) (k := cols) (B := 31680) (fun i hi => by have := HAB.out.lo i hi; omega)
  have hsb := sumB_bd (f := B) (k := cols) (B := 31680) (fun i hi => by have := HAB.out.lo i hi; omega)
  have hra := HAB.out.ha
  have hrb := HAB.out.hb
  obtain ⟨SA, hSA⟩ : ∃ SA, SA = sumB A cols := ⟨_, rfl⟩
  obtain ⟨SB, hSB⟩ : ∃ SB, SB = sumB B cols := ⟨_, rfl⟩
  rw [← hSA] at HSA hsa
  rw [← hSB] at HSB hsb
  have HA2 := Lib.hid hSA
  have HB2 := Lib.hid hSB
  have HRA := Lib.hid hra
  have HRB := Lib.hid hrb
  obtain ⟨hsa1, hsa2⟩ := hsa
  obtain ⟨hsb1, hsb2⟩ := hsb
  clear hSA hSB hra hrb
  have HO1 := Lib.hid hO1
  have HO2 := Lib.hid hO2
  have HB1 := Lib.hid hb1
  have HRS := Lib.hid (hO1.lt)
  have HRT := Lib.hid (hO2.lt)
  clear hO1 hO2 hb1
  go_wp2_with fail
  refine (HSA.out w1 HO1.out).mono ?_
  rintro e w2 ⟨rfl, rfl⟩
  go_wp2_with fail
  refine (HSB.out w1 HO2.out).mono ?_
  rintro e w2 ⟨rfl, rfl⟩
  by_cases h0 : width = 0 ∨ width = SB
  · have HCOL := Lib.hid (colG_most (A := A) (B := B) (cols := cols) (width := width) (by rw [← HB2.out]; exact h0))
    by_cases hz : width = 0
    · have e1 : (width == 0) = true := by simpa using hz
      clear h0 hz
      go_wp2_with fail
      go_ret
      exact ⟨HB1.out, _, _, rfl, by rw [← HRA.out, ← HRB.out, HCOL.out]; exact HO2.out.ints⟩
    · have e1 : (width == 0) = false := by simpa using hz
      have e2 : (width == SB) = true := by simp; omega
      clear h0 hz
      go_wp2_with fail
      go_ret
      exact ⟨HB1.out, _, _, rfl, by rw [← HRA.out, ← HRB.out, HCOL.out]; exact HO2.out.ints⟩
  · have H0 := Lib.hid h0
    have e1 : (width == 0) = false := by simp; omega
    have e2 : (width == SB) = false := by simp; omega
    have hlo : width ≠ SB := by omega
    clear h0
    by_cases h1 : width ≤ SA
    · have HCOL := Lib.hid (colG_least (A := A) (B := B) (cols := cols) (width := width) (by rw [← HB2.out]; exact H0.out) (by rw [← HA2.out]; exact h1))
      clear hlo
      go_wp2_with fail
      go_ret
      exact ⟨HB1.out, _, _, rfl, by rw [← HRA.out, ← HRB.out, HCOL.out]; exact HO1.out.ints⟩
    · have hmk := HMK.out
      have hws : IntKind.i64.wrap (width - SA) = width - SA := IntWalk.i64_in _ ⟨by omega, by omega⟩
      go_wp2_with fail
      go_region
      clear hws
      go_wp2_with fail
      go_loopw [48] (fun iv wr => ∃ k : Nat, iv = .int .i64 k ∧ k ≤ cols ∧ OwnF wr 3 g1 cols A ∧ OwnF wr 3 g2 cols B ∧ OwnF wr 3 w1.heap.size cols (subK B A k) ∧ Below w1.heap.size w1 wr) (fun iv _ => cols - (intOf iv).toNat)
      case atStart => exact ⟨0, rfl, by omega, (HO1.out.alloc _).drew, (HO2.out.alloc _).drew, by rw [subK_zero]; exact (OwnF.make 3 cols).drew, ((Below.refl _ _).alloc (Nat.le_refl _) _).drew⟩
      case round =>
        clear hmk
        obtain ⟨k, rfl, hk, hO1, hO2, hO3, hbel⟩ := hrel
        by_cases hkt : k < cols
        · have d1 := hO1.cell hkt
          have d2 := hO2.cell hkt
          have d3 := hO3.cell hkt
          have z3 := hO3.frozen k
          have hfb := HAB.out.lo k hkt
          obtain ⟨hfb1, hfb2, hfb3⟩ := hfb
          have HO1 := Lib.hid hO1
          have HO2 := Lib.hid hO2
          have HO3 := Lib.hid hO3
          have HBEL := Lib.hid hbel
          have HJ := Lib.hid (subK_step B A k)
          have hgs1 : g1 ≠ w1.heap.size := by have := HRS.out; omega
          have hgs2 : g2 ≠ w1.heap.size := by have := HRT.out; omega
          have hws : IntKind.i64.wrap (B k - A k) = B k - A k := IntWalk.i64_in _ ⟨by omega, by omega⟩
          clear hO1 hO2 hO3 hbel
          obtain ⟨we, hwe⟩ : ∃ we, we = wr.drew := ⟨_, rfl⟩
          have HWE := Lib.hid hwe
          have d3' : we.cell? ⟨w1.heap.size, k, none⟩ = some (.int .i64 (subK B A k k)) := by rw [hwe]; exact d3
          have z3' : we.frozen? ⟨w1.heap.size, k, none⟩ = false := by rw [hwe]; exact z3
          clear hwe
          go_wp2_with fail
          go_still_tail 12, (by kernel_rfl)
          change wpList _ _ _ _ _ wr.drew
          rw [← HWE.out]
          clear d1 d2 d3 z3 hws
          go_wp2_with fail
          go_roundw
          case rel => exact ⟨k + 1, by go_num, by omega, by rw [HWE.out]; exact HO1.out.drew.other hgs1 _, by rw [HWE.out]; exact HO2.out.drew.other hgs2 _, by rw [HJ.out, HWE.out]; exact HO3.out.drew.set k _, by rw [HWE.out]; exact HBEL.out.drew.setCell (Nat.le_refl _) _⟩
          case measure => simp [intOf]; omega
        · obtain rfl : cols = k := by omega
          have HO3 := Lib.hid (hO3.congr (f' := fun j => B j - A j) fun j hj => subK_end hj)
          have HOA := Lib.hid hO1
          have HOB := Lib.hid hO2
          have HBE := Lib.hid (HB1.out.trans (hbel.mono HB1.out.size))
          have hl1 := hO1.lt
          have hl2 := hO2.lt
          have hmx : cols ≤ maxLen := by unfold maxLen; omega
          clear hO1 hO2 hO3 hbel
          obtain ⟨wq, rfl⟩ : ∃ wq : World, wq = wr := ⟨_, rfl⟩
          by_cases h2 : SB < width
          · have HCOL := Lib.hid (colG_over (A := A) (B := B) (cols := cols) (width := width) (by rw [← HB2.out]; exact H0.out) (by rw [← HA2.out]; omega) (by rw [← HB2.out]; exact h2))
            rw [← HB2.out] at HCOL
            clear hlo
            have hbb : ∀ i, i < cols → 0 ≤ B i ∧ B i ≤ 31680 := fun i hi => by have := HAB.out.lo i hi; omega
            have HPB := Lib.hid (portF_bd hc' (show 0 ≤ width - SB ∧ width - SB ≤ 31680 by omega) hbb)
            have HBB := Lib.hid hbb
            clear hbb
            go_wp2_with fail
            refine (portions_any (width - SB) cols B _ cols _ HOB.out.ints hc' ⟨by omega, by omega⟩ HBB.out (Nat.le_refl _) hmx).mono ?_
            rintro e w3 ⟨hb3, g3, rfl, hg3, hO4⟩
            have HOG := Lib.hid (HOB.out.below hb3 hl2)
            have HOP := Lib.hid hO4
            have HBEL := Lib.hid (HBE.out.trans (hb3.mono HBE.out.size))
            obtain ⟨Q, hQ⟩ : ∃ Q, Q = portF (width - SB) B cols := ⟨_, rfl⟩
            rw [← hQ] at HOP HPB HCOL
            clear hb3 hO4 hQ
            go_wp2_with fail
            obtain ⟨wp, hwp⟩ : ∃ wp, wp = w3 := ⟨_, rfl⟩
            rw [← hwp] at HOG HOP HBEL ⊢
            clear hwp
            go_loopw [15, 76] (fun ov iv wr => ∃ k : Nat, iv = .int .i64 k ∧ k ≤ cols ∧ wr.ownsRow wp.heap.size 3 1 ov k ((List.range k).map fun (i : Nat) => Value.int .i64 (B i + Q i)) ∧ Below wp.heap.size wp wr) (fun _ iv _ => cols - (intOf iv).toNat)
            case atStart => exact ⟨0, rfl, by omega, World.ownsRow_nil _ _ _ _, Below.refl _ _⟩
            case round =>
              obtain ⟨k, rfl, hk, hown, hbel⟩ := hrel
              by_cases hkt : k < cols
              · have d1 := (HOG.out.below hbel HOG.out.lt).cell hkt
                have d2 := (HOP.out.below hbel HOP.out.lt).cell hkt
                have hpb := HPB.out k hkt
                have hfb := HAB.out.lo k hkt
                obtain ⟨hpb1, hpb2⟩ := hpb
                obtain ⟨hfb1, hfb2, hfb3⟩ := hfb
                have hsz := hbel.size
                go_wp2_with (at_builtin; refine wpList_append_own _ rfl _ _ 34 rfl (wp.heap.size) 3 i0 (.int .i64 0) 1 8 Try.underlying34 hi0 hz0 hz1 hz2 rfl (by decide) _ _ _ rfl ((hown).alloc _) ⟨wr.heap.size, 0, none⟩ 1 1 [.int .i64 (B k + Q k)] rfl rfl ?c1 ?c2 ?c3 ?c4 ?c5 ?_)
                case c1 =>
                  intro j u hj
                  match j, hj with
                  | 0, hj => simp at hj; subst hj; simp [Addr.add]
                case c2 => intro u hu; simp at hu; subst hu; rfl
                case c3 => unfold maxLen; omega
                case c4 => omega
                case c5 => simp; omega
                intro v' w5 hown' hgrow _
                have hb5 := below_grown hbel hsz hown hgrow
                clear hown hgrow hbel d1 d2
                go_wp2
                go_roundw
                case rel => exact ⟨k + 1, by go_num, by omega, by rw [List.range_succ, List.map_append]; exact hown', hb5⟩
                case measure => simp [intOf]; omega
              · obtain rfl : cols = k := by omega
                obtain ⟨g, cap, rfl, hg, hnc, hcm, hown0⟩ := OwnF.of_row (f := fun i => B i + Q i) hown (fun i hi => by simp [hi]) (by omega)
                clear hown
                go_wp2_with fail
                go_ret
                exact ⟨HBEL.out.trans (hbel.mono HBEL.out.size), _, _, rfl, by rw [← HRA.out, ← HRB.out, HCOL.out]; exact hown0.ints⟩
          · have HCOL := Lib.hid (colG_mid (A := A) (B := B) (cols := cols) (width := width) (by rw [← HB2.out]; exact H0.out) (by rw [← HA2.out]; omega) (by rw [← HB2.out]; exact h2))
            rw [← HA2.out] at HCOL
            have hww : ∀ i, i < cols → 0 ≤ B i - A i ∧ B i - A i ≤ 31680 := fun i hi => by have := HAB.out.lo i hi; omega
            have HPB := Lib.hid (portF_bd hc' (show 0 ≤ width - SA ∧ width - SA ≤ 31680 by omega) hww)
            have HBB := Lib.hid hww
            clear hww hlo
            go_wp2_with fail
            refine (portions_any (width - SA) cols (fun j => B j - A j) _ cols _ HO3.out.ints hc' ⟨by omega, by omega⟩ HBB.out (Nat.le_refl _) hmx).mono ?_
            rintro e w3 ⟨hb3, g3, rfl, hg3, hO4⟩
            have HOG := Lib.hid (HOA.out.below hb3 hl1)
            have HOP := Lib.hid hO4
            have HBEL := Lib.hid (HBE.out.trans (hb3.mono HBE.out.size))
            obtain ⟨Q, hQ⟩ : ∃ Q, Q = portF (width - SA) (fun j => B j - A j) cols := ⟨_, rfl⟩
            rw [← hQ] at HOP HPB HCOL
            clear hb3 hO4 hQ
            go_wp2_with fail
            obtain ⟨wp, hwp⟩ : ∃ wp, wp = w3 := ⟨_, rfl⟩
            rw [← hwp] at HOG HOP HBEL ⊢
            clear hwp
            go_loopw [15, 76] (fun ov iv wr => ∃ k : Nat, iv = .int .i64 k ∧ k ≤ cols ∧ wr.ownsRow wp.heap.size 3 1 ov k ((List.range k).map fun (i : Nat) => Value.int .i64 (A i + Q i)) ∧ Below wp.heap.size wp wr) (fun _ iv _ => cols - (intOf iv).toNat)
            case atStart => exact ⟨0, rfl, by omega, World.ownsRow_nil _ _ _ _, Below.refl _ _⟩
            case round =>
              obtain ⟨k, rfl, hk, hown, hbel⟩ := hrel
              by_cases hkt : k < cols
              · have d1 := (HOG.out.below hbel HOG.out.lt).cell hkt
                have d2 := (HOP.out.below hbel HOP.out.lt).cell hkt
                have hpb := HPB.out k hkt
                have hfb := HAB.out.lo k hkt
                obtain ⟨hpb1, hpb2⟩ := hpb
                obtain ⟨hfb1, hfb2, hfb3⟩ := hfb
                have hsz := hbel.size
                go_wp2_with (at_builtin; refine wpList_append_own _ rfl _ _ 34 rfl (wp.heap.size) 3 i0 (.int .i64 0) 1 8 Try.underlying34 hi0 hz0 hz1 hz2 rfl (by decide) _ _ _ rfl ((hown).alloc _) ⟨wr.heap.size, 0, none⟩ 1 1 [.int .i64 (A k + Q k)] rfl rfl ?c1 ?c2 ?c3 ?c4 ?c5 ?_)
                case c1 =>
                  intro j u hj
                  match j, hj with
                  | 0, hj => simp at hj; subst hj; simp [Addr.add]
                case c2 => intro u hu; simp at hu; subst hu; rfl
                case c3 => unfold maxLen; omega
                case c4 => omega
                case c5 => simp; omega
                intro v' w5 hown' hgrow _
                have hb5 := below_grown hbel hsz hown hgrow
                clear hown hgrow hbel d1 d2
                go_wp2
                go_roundw
                case rel => exact ⟨k + 1, by go_num, by omega, by rw [List.range_succ, List.map_append]; exact hown', hb5⟩
                case measure => simp [intOf]; omega
              · obtain rfl : cols = k := by omega
                obtain ⟨g, cap, rfl, hg, hnc, hcm, hown0⟩ := OwnF.of_row (f := fun i => A i + Q i) hown (fun i hi => by simp [hi]) (by omega)
                clear hown
                go_wp2_with fail
                go_ret
                exact ⟨HBEL.out.trans (hbel.mono HBEL.out.size), _, _, rfl, by rw [← HRA.out, ← HRB.out, HCOL.out]; exact hown0.ints⟩
end Go.Proofs.Ytpbnkkeplhgepaa.BA
