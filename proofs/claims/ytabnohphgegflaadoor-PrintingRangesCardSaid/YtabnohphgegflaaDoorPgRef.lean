
/-
  The reference reads ranges of pages.
-/
import Derived.Test.YtabnohphgegflaaDoorPgW
import Derived.Test.YtabnohphgegflaaDoorIn
import Derived.Test.YtabnohphgegflaaDoorCommon
import Derived.WalkKit
import Derived.WalkLawsBesides
import Derived.IntWalk
import Derived.Lib.Hide
import Derived.Deep.QuietTactic
import Derived.BigQuiet
import Derived.StillTailTactics
import Derived.Deep.CutRange
import Derived.Deep.CutBlock
namespace Go.Proofs.YtabnohphgegflaaDoor.PG
open Go.RowKit Go.Law Go.Law.Pg Ref
set_option linter.unusedVariables false
set_option linter.unusedSimpArgs false
set_option maxRecDepth 100000
set_option maxHeartbeats 8000000 in
theorem refRanges_any (s : ByteArray) (pages : Int) (w : World) : Calls Tryd.prog 7 #[.string s, .int .i64 pages] w (ZPost 3 w (rangesL s.data.toList pages)) := by
  have hsl : s.data.toList.length = s.size := Array.length_toList
  obtain ⟨L, hL⟩ : ∃ L, L = s.data.toList := ⟨_, rfl⟩
  rw [← hL] at hsl ⊢
  have HSL := Lib.hid hsl
  have HL := Lib.hid hL
  clear hsl hL
  obtain ⟨R, hR⟩ : ∃ R, R = rangesL L pages := ⟨_, rfl⟩
  rw [← hR]
  by_cases hlen : 200 < s.size
  · have HR := Lib.hid (show R = ([], 3) by rw [hR]; unfold rangesL; rw [if_pos (by have := HSL.out; omega)])
    have e1 : (200 : Int) < (s.size : Int) := by omega
    clear hR
    go_enter Tryd.func7, Tryd.ntmps7
    go_wp2_with fail
    go_ret2
    rw [HR.out]
    exact ZPost.fail (Below.refl _ _)
  have e1 : ¬ (200 : Int) < (s.size : Int) := by omega
  by_cases hpg : pages < 1 ∨ 500 < pages
  · have HR := Lib.hid (show R = ([], 2) by rw [hR]; unfold rangesL; rw [if_neg (by have := HSL.out; omega), if_pos hpg])
    have HB := Lib.hid (show inB pages 1 500 = false by rw [inB_false]; omega)
    clear hR hpg
    go_enter Tryd.func7, Tryd.ntmps7
    go_wp2_with fail
    refine (in_any pages 1 500 w).mono ?_
    rintro e w1 ⟨rfl, rfl⟩
    rw [HB.out]
    go_wp2_with fail
    go_ret2
    rw [HR.out]
    exact ZPost.fail (Below.refl _ _)
  have HR := Lib.hid (show R = run pages (rest L 0) [] by rw [hR, rest_zero]; unfold rangesL; rw [if_neg (by have := HSL.out; omega), if_neg hpg])
  have HB := Lib.hid (show inB pages 1 500 = true by rw [inB_true]; omega)
  have hp1 : 1 ≤ pages := by omega
  have hp2 : pages ≤ 500 := by omega
  clear hR hpg
  go_enter Tryd.func7, Tryd.ntmps7
  go_wp2_with fail
  refine (in_any pages 1 500 w).mono ?_
  rintro e w1 ⟨rfl, rfl⟩
  rw [HB.out]
  go_upto_region 7 with fail
  go_wp2_with fail
  go_loopw [6, 7] (fun v iv wr => ∃ (k : Nat) (acc : List Int), iv = .int .i64 k ∧ k ≤ s.size + 1 ∧ run pages (rest L k) acc = R ∧ acc.length ≤ 10000 ∧ RowZ wr w.heap.size 3 v acc ∧ Below w.heap.size w wr) (fun _ iv _ => s.size + 1 - (intOf iv).toNat)
  case atStart => exact ⟨0, [], rfl, by omega, HR.out.symm, by simp, RowZ.nil _ _ _, Below.refl _ _⟩
  case round =>
    obtain ⟨k, acc, rfl, hk, hrun, hacc, hrow, hbel⟩ := hrel
    have HRUN := Lib.hid hrun
    have HROW := Lib.hid hrow
    have HBEL := Lib.hid hbel
    have hsz := hbel.size
    clear hrun hrow hbel HR
    by_cases hke : k = s.size + 1
    · subst hke
      have e2 : ¬ ((s.size + 1 : Nat) : Int) ≤ (s.size : Int) := by omega
      have HE := Lib.hid (show R = (acc, 0) by rw [← HRUN.out, rest_end (by have := HSL.out; omega)]; rfl)
      go_wp2_with fail
      go_ret2
      rw [HE.out]
      exact ⟨_, rfl, HROW.out, HBEL.out⟩
    have e2 : (k : Int) ≤ (s.size : Int) := by omega
    go_upto_block 2 with fail
    go_cut [8] from 28 to 39 (fun tv wx => ∃ m : Nat, tv = .int .i64 m ∧ k ≤ m ∧ m ≤ s.size ∧ (∀ j, k ≤ j → j < m → L.getD j 0 ≠ 44) ∧ (m = s.size ∨ L.getD m 0 = 44) ∧ wr = wx)
    case first =>
      go_wp2_with fail
      go_loopw [8] (fun tv wx => ∃ m : Nat, tv = .int .i64 m ∧ k ≤ m ∧ m ≤ s.size ∧ (∀ j, k ≤ j → j < m → L.getD j 0 ≠ 44) ∧ wr = wx) (fun tv _ => s.size - (intOf tv).toNat)
      case atStart => exact ⟨k, rfl, Nat.le_refl _, by omega, fun j h1 h2 => by omega, rfl⟩
      case round =>
        obtain ⟨m, rfl, hkm, hms, hno, rfl⟩ := hrel
        have HNO := Lib.hid hno
        clear hno
        by_cases hme : m < s.size
        · have e3 : (m : Int) < (s.size : Int) := by omega
          have e4 : (0 : Int) ≤ (m : Int) := by omega
          have HBY := Lib.hid (byte_at s m hme)
          by_cases hc : s[m].toNat = 44
          · have e5 : ((s[m].toNat : Int) != 44) = false := by simp [hc]
            have HC := Lib.hid (show L.getD m 0 = 44 by rw [HL.out, ← HBY.out]; exact byte_of hc 44 rfl)
            clear hc
            go_wp2_with fail
            go_meet
            exact ⟨m, rfl, hkm, hms, HNO.out, .inr HC.out, rfl⟩
          · have e5 : ((s[m].toNat : Int) != 44) = true := by simp; omega
            have HC := Lib.hid (show L.getD m 0 ≠ 44 by rw [HL.out, ← HBY.out]; exact fun e => hc (by rw [e]; rfl))
            clear hc
            go_wp2_with fail
            go_roundw
            case rel =>
              refine ⟨m + 1, by go_num, by omega, by omega, fun j h1 h2 => ?_, trivial⟩
              by_cases hj : j = m
              · subst hj; exact HC.out
              · exact HNO.out j h1 (by omega)
            case measure => simp [intOf]; omega
        · obtain rfl : m = s.size := by omega
          have e3 : ¬ ((s.size : Nat) : Int) < (s.size : Int) := by omega
          go_wp2_with fail
          go_meet
          exact ⟨s.size, rfl, hkm, hms, HNO.out, .inl rfl, rfl⟩
    case rest =>
    obtain ⟨m, rfl, hkm, hms, hno, hend, hw⟩ := hcut
    obtain rfl : wr = wc := hw
    obtain ⟨P, hP⟩ : ∃ P, P = (L.drop k).take (m - k) := ⟨_, rfl⟩
    have HRUN2 := Lib.hid (show run pages (P :: rest L (m + 1)) acc = R by rw [← HRUN.out, rest_cut hkm (by have := HSL.out; omega) hno (hend.elim (fun h => .inl (by rw [h]; exact HSL.out.symm)) .inr), hP])
    have HPB := Lib.hid (show (s.extract k m).data.toList = P by rw [piece_bytes, hP, HL.out])
    have HPS := Lib.hid (piece_size s k m hms)
    clear hno hend hP HRUN
    go_upto_region 13 with fail
    have e5 : (k : Int) ≤ (m : Int) := by omega
    have e6 : (m : Int) ≤ (s.size : Int) := by omega
    have hcv := Lib.run_convert_string_bytes (P := Tryd.prog) (wr.alloc (Obj.cells #[Value.int IntKind.i64 0, Value.int IntKind.i64 0] 41)) 9 42 5 (s.extract k m) Tryd.underlying9 Tryd.underlying42 Tryd.underlying5
    go_wp2_with fail
    obtain ⟨wb, hwb⟩ : ∃ wb, wb = Lib.bytesWorld (wr.alloc (Obj.cells #[Value.int IntKind.i64 0, Value.int IntKind.i64 0] 41)) 5 (s.extract k m) := ⟨_, rfl⟩
    obtain ⟨g, hg⟩ : ∃ g, g = wr.heap.size := ⟨_, rfl⟩
    have HN0 := Lib.hid (show Blk wb g #[.int .i64 0, .int .i64 0] 41 by rw [hwb, hg]; exact (Blk.new wr _ _).below (Lib.bytesWorld_below _ _ _) (by simp))
    have HBY := Lib.hid (show ∀ j, j < m - k → wb.cell? ⟨g + 1, j, none⟩ = some (.int .u8 ((P.getD j 0).toNat : Int)) by intro j hj; rw [hwb, hg]; have := Lib.bytesWorld_cell (wr.alloc (Obj.cells #[Value.int IntKind.i64 0, Value.int IntKind.i64 0] 41)) 5 (s.extract k m) j (by rw [HPS.out]; exact hj); rw [HPB.out] at this; simpa using this)
    have HBW := Lib.hid (show Below wr.heap.size wr wb by rw [hwb]; exact ((Below.refl _ _).alloc (Nat.le_refl _) _).trans ((Lib.bytesWorld_below _ _ _).mono (by simp)))
    have hwbs : wb.heap.size = g + 2 := by rw [hwb, Lib.bytesWorld_size, hg]; simp
    have HPL := Lib.hid (show P.length = m - k by rw [← HPB.out, ← HPS.out]; exact Array.length_toList)
    rw [← hwb, ← hg]
    clear hwb hcv
    have hgw : w.heap.size ≤ g := by omega
    have HGE := Lib.hid (show wr.heap.size ≤ g by omega)
    clear hg
    go_loopw [10, 11, 12, 46] (fun v10 v11 v12 v46 wx => ∃ (i : Nat) (n0 n1 : Int) (kk bb ss : Bool), v46 = .int .i64 i ∧ i ≤ m - k ∧ rdr (P.take i) = ⟨n0, n1, kk, bb, ss⟩ ∧ (∃ kn : Int, v10 = .int .i64 kn ∧ (kk = false ∧ kn = 0 ∨ kk = true ∧ kn = 1)) ∧ v11 = .bool bb ∧ v12 = .bool ss ∧ Blk wx g #[.int .i64 n0, .int .i64 n1] 41 ∧ Only g wb wx) (fun _ _ _ v46 _ => m - k - (intOf v46).toNat)
    case atStart => exact ⟨0, 0, 0, false, false, false, rfl, by omega, rfl, ⟨0, rfl, .inl ⟨rfl, rfl⟩⟩, rfl, rfl, HN0.out, Aside.refl _ _ _⟩
    case round =>
      obtain ⟨i, n0, n1, kk, bb, ss, rfl, hi, hrd, ⟨kn, rfl, hkn⟩, rfl, rfl, hblk, honly⟩ := hrel
      have HRD := Lib.hid hrd
      have HBL := Lib.hid hblk
      have HON := Lib.hid honly
      have hok := rdr_ok (P.take i)
      rw [hrd] at hok
      obtain ⟨b0, b1, b2, b3⟩ := hok
      simp only at b0 b1 b2 b3
      have hxs := honly.size
      clear hrd hblk honly
      by_cases hil : i < m - k
      · have hil2 : (i : Int) < ((m - k : Nat) : Int) := by omega
        have y0 : wr.cell? ⟨g + 1, i, none⟩ = some (.int .u8 ((P.getD i 0).toNat : Int)) := (HON.out.cell (by show g + 1 < wb.heap.size; omega) (by show g + 1 ≠ g; omega)).trans (HBY.out i hil)
        have HST := Lib.hid (show rdr (P.take (i + 1)) = stp ⟨n0, n1, kk, bb, ss⟩ (P.getD i 0) by rw [rdr_take (by have := HPL.out; omega), HRD.out])
        obtain ⟨c, hc⟩ : ∃ c, c = P.getD i 0 := ⟨_, rfl⟩
        rw [← hc] at y0 HST
        have hcb : (c.toNat : Int) < 256 := by have := c.toNat_lt; omega
        have hcb0 : 0 ≤ (c.toNat : Int) := by omega
        have y1 := HBL.out.cell (i := 0) rfl
        have y2 := HBL.out.cell (i := 1) rfl
        have z1 := HBL.out.frozen 0
        have z2 := HBL.out.frozen 1
        clear hc
        rcases hkn with ⟨rfl, rfl⟩ | ⟨rfl, rfl⟩
        · by_cases h45 : (c.toNat : Int) = 45
          · have f0 : ((c.toNat : Int) == 45) = true := by simpa using h45
            go_wp2_with fail
            go_roundw
            case rel => exact ⟨i + 1, _, _, _, _, _, by go_num, by omega, HST.out.trans (stp_hy _ _ _ _ h45), ⟨_, rfl, by first | exact .inl ⟨rfl, rfl⟩ | exact .inr ⟨rfl, rfl⟩⟩, rfl, rfl, HBL.out, HON.out⟩
            case measure => simp [intOf]; omega
          have f0 : ((c.toNat : Int) == 45) = false := by simpa using h45
          by_cases hc1 : (c.toNat : Int) < 48
          · go_wp2_with fail
            go_roundw
            case rel => exact ⟨i + 1, _, _, _, _, _, by go_num, by omega, HST.out.trans (stp_no0 _ _ _ _ h45 (.inl hc1)), ⟨_, rfl, by first | exact .inl ⟨rfl, rfl⟩ | exact .inr ⟨rfl, rfl⟩⟩, rfl, rfl, HBL.out, HON.out⟩
            case measure => simp [intOf]; omega
          by_cases hc2 : 57 < (c.toNat : Int)
          · go_wp2_with fail
            go_roundw
            case rel => exact ⟨i + 1, _, _, _, _, _, by go_num, by omega, HST.out.trans (stp_no0 _ _ _ _ h45 (.inr (.inl hc2))), ⟨_, rfl, by first | exact .inl ⟨rfl, rfl⟩ | exact .inr ⟨rfl, rfl⟩⟩, rfl, rfl, HBL.out, HON.out⟩
            case measure => simp [intOf]; omega
          have hc1 : 48 ≤ (c.toNat : Int) := by omega
          by_cases hz : n0 = 0
          · have f1 : (n0 == 0) = true := by simpa using hz
            by_cases h48 : (c.toNat : Int) = 48
            · have f2 : ((c.toNat : Int) == 48) = true := by simpa using h48
              go_wp2_with fail
              go_roundw
              case rel => exact ⟨i + 1, _, _, _, _, _, by go_num, by omega, HST.out.trans (stp_no0 _ _ _ _ h45 (.inr (.inr (.inl ⟨hz, h48⟩)))), ⟨_, rfl, by first | exact .inl ⟨rfl, rfl⟩ | exact .inr ⟨rfl, rfl⟩⟩, rfl, rfl, HBL.out, HON.out⟩
              case measure => simp [intOf]; omega
            · have f2 : ((c.toNat : Int) == 48) = false := by simpa using h48
              have f3 : ¬ 10000 < n0 := by omega
              have ew1 : IntKind.u8.wrap ((c.toNat : Int) - 48) = (c.toNat : Int) - 48 := by unfold IntKind.wrap; simp [IntKind.min, IntKind.max, IntKind.bits, IntKind.signed]; omega
              go_wp2_with fail
              go_roundw
              case rel => exact ⟨i + 1, (c.toNat : Int) - 48, n1, false, bb, true, by go_num, by omega, HST.out.trans (by rw [stp_d0 _ _ _ _ hc1 (by omega)]; congr 1; omega), ⟨_, rfl, by first | exact .inl ⟨rfl, rfl⟩ | exact .inr ⟨rfl, rfl⟩⟩, rfl, rfl, HBL.out.set 0 _, HON.out.set _ _⟩
              case measure => simp [intOf]; omega
          · have f1 : (n0 == 0) = false := by simpa using hz
            by_cases hb : 10000 < n0
            · go_wp2_with fail
              go_roundw
              case rel => exact ⟨i + 1, _, _, _, _, _, by go_num, by omega, HST.out.trans (stp_no0 _ _ _ _ h45 (.inr (.inr (.inr hb)))), ⟨_, rfl, by first | exact .inl ⟨rfl, rfl⟩ | exact .inr ⟨rfl, rfl⟩⟩, rfl, rfl, HBL.out, HON.out⟩
              case measure => simp [intOf]; omega
            · have ew1 : IntKind.u8.wrap ((c.toNat : Int) - 48) = (c.toNat : Int) - 48 := by unfold IntKind.wrap; simp [IntKind.min, IntKind.max, IntKind.bits, IntKind.signed]; omega
              go_wp2_with fail
              go_roundw
              case rel => exact ⟨i + 1, _, _, _, _, _, by go_num, by omega, HST.out.trans (stp_d0 _ _ _ _ hc1 (by omega)), ⟨_, rfl, by first | exact .inl ⟨rfl, rfl⟩ | exact .inr ⟨rfl, rfl⟩⟩, rfl, rfl, HBL.out.set 0 _, HON.out.set _ _⟩
              case measure => simp [intOf]; omega
        · by_cases hc1 : (c.toNat : Int) < 48
          · by_cases h45 : (c.toNat : Int) = 45
            · have f0 : ((c.toNat : Int) == 45) = true := by simpa using h45
              go_wp2_with fail
              go_roundw
              case rel => exact ⟨i + 1, _, _, _, _, _, by go_num, by omega, HST.out.trans (stp_no1 _ _ _ _ (.inl hc1)), ⟨_, rfl, by first | exact .inl ⟨rfl, rfl⟩ | exact .inr ⟨rfl, rfl⟩⟩, rfl, rfl, HBL.out, HON.out⟩
              case measure => simp [intOf]; omega
            · have f0 : ((c.toNat : Int) == 45) = false := by simpa using h45
              go_wp2_with fail
              go_roundw
              case rel => exact ⟨i + 1, _, _, _, _, _, by go_num, by omega, HST.out.trans (stp_no1 _ _ _ _ (.inl hc1)), ⟨_, rfl, by first | exact .inl ⟨rfl, rfl⟩ | exact .inr ⟨rfl, rfl⟩⟩, rfl, rfl, HBL.out, HON.out⟩
              case measure => simp [intOf]; omega
          have f0 : ((c.toNat : Int) == 45) = false := by simp; omega
          by_cases hc2 : 57 < (c.toNat : Int)
          · go_wp2_with fail
            go_roundw
            case rel => exact ⟨i + 1, _, _, _, _, _, by go_num, by omega, HST.out.trans (stp_no1 _ _ _ _ (.inr (.inl hc2))), ⟨_, rfl, by first | exact .inl ⟨rfl, rfl⟩ | exact .inr ⟨rfl, rfl⟩⟩, rfl, rfl, HBL.out, HON.out⟩
            case measure => simp [intOf]; omega
          have hc1 : 48 ≤ (c.toNat : Int) := by omega
          by_cases hz : n1 = 0
          · have f1 : (n1 == 0) = true := by simpa using hz
            by_cases h48 : (c.toNat : Int) = 48
            · have f2 : ((c.toNat : Int) == 48) = true := by simpa using h48
              go_wp2_with fail
              go_roundw
              case rel => exact ⟨i + 1, _, _, _, _, _, by go_num, by omega, HST.out.trans (stp_no1 _ _ _ _ (.inr (.inr (.inl ⟨hz, h48⟩)))), ⟨_, rfl, by first | exact .inl ⟨rfl, rfl⟩ | exact .inr ⟨rfl, rfl⟩⟩, rfl, rfl, HBL.out, HON.out⟩
              case measure => simp [intOf]; omega
            · have f2 : ((c.toNat : Int) == 48) = false := by simpa using h48
              have f3 : ¬ 10000 < n1 := by omega
              have ew1 : IntKind.u8.wrap ((c.toNat : Int) - 48) = (c.toNat : Int) - 48 := by unfold IntKind.wrap; simp [IntKind.min, IntKind.max, IntKind.bits, IntKind.signed]; omega
              go_wp2_with fail
              go_roundw
              case rel => exact ⟨i + 1, n0, (c.toNat : Int) - 48, true, bb, true, by go_num, by omega, HST.out.trans (by rw [stp_d1 _ _ _ _ hc1 (by omega)]; congr 1; omega), ⟨_, rfl, by first | exact .inl ⟨rfl, rfl⟩ | exact .inr ⟨rfl, rfl⟩⟩, rfl, rfl, HBL.out.set 1 _, HON.out.set _ _⟩
              case measure => simp [intOf]; omega
          · have f1 : (n1 == 0) = false := by simpa using hz
            by_cases hb : 10000 < n1
            · go_wp2_with fail
              go_roundw
              case rel => exact ⟨i + 1, _, _, _, _, _, by go_num, by omega, HST.out.trans (stp_no1 _ _ _ _ (.inr (.inr (.inr hb)))), ⟨_, rfl, by first | exact .inl ⟨rfl, rfl⟩ | exact .inr ⟨rfl, rfl⟩⟩, rfl, rfl, HBL.out, HON.out⟩
              case measure => simp [intOf]; omega
            · have ew1 : IntKind.u8.wrap ((c.toNat : Int) - 48) = (c.toNat : Int) - 48 := by unfold IntKind.wrap; simp [IntKind.min, IntKind.max, IntKind.bits, IntKind.signed]; omega
              go_wp2_with fail
              go_roundw
              case rel => exact ⟨i + 1, _, _, _, _, _, by go_num, by omega, HST.out.trans (stp_d1 _ _ _ _ hc1 (by omega)), ⟨_, rfl, by first | exact .inl ⟨rfl, rfl⟩ | exact .inr ⟨rfl, rfl⟩⟩, rfl, rfl, HBL.out.set 1 _, HON.out.set _ _⟩
              case measure => simp [intOf]; omega
      · obtain rfl : i = m - k := by omega
        have hil2 : ¬ ((m - k : Nat) : Int) < ((m - k : Nat) : Int) := by omega
        have HRD2 := Lib.hid (show rdr P = ⟨n0, n1, kk, bb, ss⟩ by rw [← HRD.out, List.take_of_length_le (by have := HPL.out; omega)])
        have y1 := HBL.out.cell (i := 0) rfl
        have y2 := HBL.out.cell (i := 1) rfl
        have HRX := Lib.hid (HROW.out.below (HBW.out.trans (HON.out.to_below (by have := HGE.out; omega) HGE.out)) (Nat.le_refl _))
        have HBX := Lib.hid (show Below w.heap.size w wr from HBEL.out.trans ((HBW.out.trans (HON.out.to_below (by have := HGE.out; omega) HGE.out)).mono hsz))
        clear HRD HBL
        cases bb
        case true =>
          have HE := Lib.hid ((run_err (ps := rest L (m + 1)) (acc := acc) (e := 10) (by rw [HRD2.out, refB_bad _ (.inl rfl)]) (by decide)).symm.trans HRUN2.out)
          go_wp2_with fail
          go_ret2
          rw [← HE.out]
          exact ZPost.fail HBX.out
        cases ss
        case false =>
          have HE := Lib.hid ((run_err (ps := rest L (m + 1)) (acc := acc) (e := 10) (by rw [HRD2.out, refB_bad _ (.inr (.inl rfl))]) (by decide)).symm.trans HRUN2.out)
          go_wp2_with fail
          go_ret2
          rw [← HE.out]
          exact ZPost.fail HBX.out
        by_cases hn0 : 10000 < n0
        · have HE := Lib.hid ((run_err (ps := rest L (m + 1)) (acc := acc) (e := 10) (by rw [HRD2.out, refB_bad _ (.inr (.inr (.inl hn0)))]) (by decide)).symm.trans HRUN2.out)
          go_wp2_with fail
          go_ret2
          rw [← HE.out]
          exact ZPost.fail HBX.out
        by_cases hn1 : 10000 < n1
        · have HE := Lib.hid ((run_err (ps := rest L (m + 1)) (acc := acc) (e := 10) (by rw [HRD2.out, refB_bad _ (.inr (.inr (.inr hn1)))]) (by decide)).symm.trans HRUN2.out)
          go_wp2_with fail
          go_ret2
          rw [← HE.out]
          exact ZPost.fail HBX.out
        obtain ⟨b0', hb0⟩ : ∃ b0', b0' = (if kk = true then n1 else n0) := ⟨_, rfl⟩
        obtain ⟨A, hA⟩ : ∃ A, A = (if n0 = 0 then 1 else n0) := ⟨_, rfl⟩
        obtain ⟨B, hB⟩ : ∃ B, B = (if b0' = 0 then pages else b0') := ⟨_, rfl⟩
        have HREF := Lib.hid (show refB (rdr P) pages = if A > pages ∨ B > pages then (0, 0, 7) else (A, B, 0) by rw [HRD2.out, refB_good _ _ _ _ b0 (by omega) b2 (by omega), hA, hB, hb0])
        have hA0 : 1 ≤ A ∧ A ≤ 10000 := by rw [hA]; split <;> omega
        have hB0 : 1 ≤ B ∧ B ≤ 10000 := by
          rw [hB]
          have : 0 ≤ b0' ∧ b0' ≤ 10000 := by rw [hb0]; split <;> omega
          split <;> omega
        have HAA := Lib.hid hA
        have HBB := Lib.hid hB
        have HB0 := Lib.hid hb0
        clear hA hB hb0 HRD2
        go_upto_region 24 with fail
        go_quiet (fail)
        obtain ⟨wz, hwz⟩ : ∃ wz, wz = wr.drewN nq := ⟨_, rfl⟩
        have HBZ := Lib.hid (show Below w.heap.size w wz by rw [hwz]; exact below_drewN HBX.out nq)
        have HRZ := Lib.hid (show RowZ wz w.heap.size 3 u6 acc by rw [hwz]; exact RowL.drewN HRX.out nq)
        rw [← hwz]
        clear hwz HBX HRX HON y1 y2 hxs
        go_upto_if 111 with fail
        go_cut [16] from 112 to 112 (fun bv wx => bv = .int .i64 b0' ∧ wz = wx)
        case first =>
          rcases hkn with ⟨rfl, rfl⟩ | ⟨rfl, rfl⟩
          · go_wp2_with fail
            go_meet
            exact ⟨by rw [HB0.out]; rfl, rfl⟩
          · go_wp2_with fail
            go_meet
            exact ⟨by rw [HB0.out]; rfl, rfl⟩
        case rest =>
        obtain ⟨rfl, hw⟩ := hcut
        obtain rfl : wz = wc := hw
        go_upto_if 114 with fail
        go_cut [15] from 106 to 117 (fun av wx => av = .int .i64 A ∧ wz = wx)
        case first =>
          by_cases hz : n0 = 0
          · subst hz
            go_wp2_with fail
            go_meet
            exact ⟨by rw [HAA.out]; simp, rfl⟩
          · have f1 : (n0 == 0) = false := by simpa using hz
            have hz := Lib.hid hz
            go_wp2_with fail
            go_meet
            exact ⟨by rw [HAA.out, if_neg hz.out], rfl⟩
        case rest =>
        obtain ⟨rfl, hw⟩ := hcut
        obtain rfl : wz = wc := hw
        go_upto_if 116 with fail
        go_cut [16] from 106 to 117 (fun av wx => av = .int .i64 B ∧ wz = wx)
        case first =>
          by_cases hz : b0' = 0
          · have f1 : (b0' == 0) = true := by simpa using hz
            have hz := Lib.hid hz
            go_wp2_with fail
            go_meet
            exact ⟨by rw [HBB.out, if_pos hz.out], rfl⟩
          · have f1 : (b0' == 0) = false := by simpa using hz
            have hz := Lib.hid hz
            go_wp2_with fail
            go_meet
            exact ⟨by rw [HBB.out, if_neg hz.out], rfl⟩
        case rest =>
        obtain ⟨rfl, hw⟩ := hcut
        obtain rfl : wz = wc := hw
        have eAP : ∀ x : Int, (x > pages) = (pages < x) := fun _ => rfl
        by_cases hA1 : pages < A
        · have HE := Lib.hid ((run_err (ps := rest L (m + 1)) (acc := acc) (e := 7) (by rw [HREF.out, if_pos (.inl hA1)]) (by decide)).symm.trans HRUN2.out)
          go_wp2_with fail
          go_ret2
          rw [← HE.out]
          exact ZPost.fail HBZ.out
        by_cases hB1 : pages < B
        · have HE := Lib.hid ((run_err (ps := rest L (m + 1)) (acc := acc) (e := 7) (by rw [HREF.out, if_pos (.inr hB1)]) (by decide)).symm.trans HRUN2.out)
          go_wp2_with fail
          go_ret2
          rw [← HE.out]
          exact ZPost.fail HBZ.out
        have HAB := Lib.hid (show refB (rdr P) pages = (A, B, 0) by rw [HREF.out, if_neg (by omega)])
        have HOV := Lib.hid (show ∀ h : 10000 < acc.length + (B - A).natAbs + 1, R = ([], 19) from fun h => HRUN2.out.symm.trans (run_over HAB.out h))
        have HOK := Lib.hid (show ∀ h : acc.length + (B - A).natAbs + 1 ≤ 10000, run pages (rest L (m + 1)) (acc ++ steps A B) = R from fun h => (run_ok HAB.out h).symm.trans HRUN2.out)
        clear eAP HREF HAB HRUN2 HROW HPB HPS HN0 HBY HBW HPL HGE HAA HBB HB0 hkn hn0 hn1 b0 b1 b2 b3
        have hb8 : Below w.heap.size w wz := HBZ.out
        have HI := Lib.hid (info_parts (show (Tryd.prog.info? 3).map (fun i => (i.zero, i.size, i.bytes)) = some (some (.int .i64 0), 1, 8) by kernel_rfl))
        clear HBZ HBEL
        go_wp2_with fail
        go_loopw [6, 15] (fun v av wx => ∃ j : Nat, av = .int .i64 (if A ≤ B then A + (j : Int) else A - (j : Int)) ∧ j ≤ (B - A).natAbs ∧ acc.length + j ≤ 10000 ∧ RowZ wx w.heap.size 3 v (acc ++ (steps A B).take j) ∧ Below w.heap.size w wx) (fun _ av _ => (B - intOf av).natAbs)
        case atStart => exact ⟨0, by simp, by omega, by omega, by rw [List.take_zero, List.append_nil]; exact HRZ.out, hb8⟩
        case round =>
          obtain ⟨j, rfl, hj, hjl, hrow, hbel⟩ := hrel
          obtain ⟨X, hX⟩ : ∃ X, X = (if A ≤ B then A + (j : Int) else A - (j : Int)) := ⟨_, rfl⟩
          have hXB : (X = B ↔ j = (B - A).natAbs) ∧ (X < B → A ≤ B) ∧ (B < X → ¬ A ≤ B) := by rw [hX]; split <;> omega
          have HXS := Lib.hid hX
          have HQN := Lib.hid (steps_next (acc := acc) hj)
          rw [← hX] at HQN ⊢
          obtain ⟨Q, hQ⟩ : ∃ Q, Q = acc ++ (steps A B).take j := ⟨_, rfl⟩
          have hql : Q.length ≤ acc.length + j ∧ acc.length + j ≤ Q.length := by have : Q.length = acc.length + j := by (rw [hQ]; exact taken_len (by omega)); 
                                                                                 omega
          rw [← hQ] at hrow HQN
          have HX := Lib.hid hrow
          have HBEL := Lib.hid hbel
          have HLOW := Lib.hid hbel.size
          obtain ⟨av, cv, hv, _, _⟩ := RowL.slice hrow
          subst hv
          clear hX hQ hrow hbel HRZ hb8
          by_cases hfull : Q.length = 10000
          · have f1 : ((Q.length : Int) == 10000) = true := by simp; omega
            have HE := Lib.hid (HOV.out (by omega))
            go_wp2_with fail
            go_ret2
            rw [HE.out]
            exact ZPost.fail HBEL.out
          have f1 : ((Q.length : Int) == 10000) = false := by simp; omega
          obtain ⟨ii, hii, hz0, hz1, hz2⟩ := HI.out
          go_wp2_with (at_builtin; go_loud (refine wpList_append_own _ rfl _ _ 22 rfl (w.heap.size) 3 ii _ 1 8 Tryd.underlying22 hii hz0 hz1 hz2 rfl (by decide) _ _ _ rfl (RowL.alloc HX.out _) ⟨wr.heap.size, 0, none⟩ 1 1 [.int .i64 X] rfl rfl ?k1a ?k2a ?k3a ?k4a ?k5a ?_))
          try (case k1a =>
            intro j u hj
            match j, hj with
            | 0, hj => (simp at hj; subst hj; simp [Addr.add]))
          try (case k2a => first | rfl | (intro u hu; simp at hu; subst hu; rfl))
          try (case k3a => unfold maxLen; (try simp); (try omega))
          try (case k4a => (try simp); (try omega))
          try (case k5a => have := HLOW.out; (try simp); (try omega))
          intro v6 w6 hown hgrow _
          have HB8 := Lib.hid (Below.grown (HBEL.out.alloc HLOW.out _) hgrow (by have := HLOW.out; simp; omega) (fun k hk => RowL.ge HX.out k hk))
          have HR8 := Lib.hid (show RowZ w6 w.heap.size 3 v6 (acc ++ (steps A B).take (j + 1)) by rw [← HQN.out]; exact RowZ.push hown)
          clear hown hgrow hii hz0 hz1 hz2 HQN HX
          by_cases hxb : X = B
          · have f2 : (X == B) = true := by simpa using hxb
            have HJ := Lib.hid (hXB.1.1 hxb)
            have HXB := Lib.hid hxb
            have HE := Lib.hid (HOK.out (by rw [← HJ.out]; omega))
            clear hxb hXB
            have e9 : IntKind.i64.wrap ((m : Int) + 1) = (m : Int) + 1 := IntWalk.i64_in _ ⟨by omega, by omega⟩
            go_wp2_with fail
            go_roundw
            case rel =>
              refine ⟨m + 1, acc ++ steps A B, by go_num, by omega, HE.out, ?_, ?_, HB8.out⟩
              · rw [List.length_append, steps_len]; have := HJ.out; omega
              · have := HR8.out
                rw [HJ.out, steps_all] at this
                exact this
            case measure => simp [intOf]; omega
          · have f2 : (X == B) = false := by simpa using hxb
            by_cases hlt : X < B
            · have e9 : IntKind.i64.wrap (X + 1) = X + 1 := IntWalk.i64_in _ ⟨by have := HXS.out; split at this <;> omega, by omega⟩
              go_wp2_with fail
              go_roundw
              case rel => exact ⟨j + 1, by rw [HXS.out, if_pos (hXB.2.1 hlt), if_pos (hXB.2.1 hlt)]; go_num, by omega, by omega, HR8.out, HB8.out⟩
              case measure => simp [intOf]; omega
            · have e9 : IntKind.i64.wrap (X - 1) = X - 1 := IntWalk.i64_in _ ⟨by omega, by have := HXS.out; split at this <;> omega⟩
              go_wp2_with fail
              go_roundw
              case rel => exact ⟨j + 1, by rw [HXS.out]; have h3 := hXB.2.2 (by omega); split <;> first | (exfalso; omega) | go_num, by omega, by omega, HR8.out, HB8.out⟩
              case measure => simp [intOf]; omega
end Go.Proofs.YtabnohphgegflaaDoor.PG
