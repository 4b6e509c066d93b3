

/-
  TimelineStates: the law's walk.
-/
import Derived.Test.YthddbinbeinafaaTlSort
import Derived.Test.YthddbinbeinafaaTlTimed
import Derived.Test.YthddbinbeinafaaTlState2
import Derived.Test.YthddbinbeinafaaTlOf
import Derived.Test.YthddbinbeinafaaTlBases
import Derived.Test.YthddbinbeinafaaIn
import Derived.Deep.RegionHeld3
import Derived.StillTailTactics
import Derived.Outline
namespace Go.Proofs.Ythddbinbeinafaa.TL
open Go.RowKit Go.Law Go.Law.Tl Ref
set_option linter.unusedVariables false
set_option linter.unusedSimpArgs false
set_option maxRecDepth 100000
def lastF (l : List Int) (i : Nat) : Int := if i = 0 then 0 else l.getD (i - 1) 0
theorem rowI_cells {w : World} {base : Nat} {e : TypeId} {a : Option Addr} {n c : Nat} {F : Nat → Int} (h : RowI w base e 3 (.slice a n c) n F) : CellsF w a n 3 (fun i j => .int .i64 (F (i * 3 + j))) := by
  intro hn
  obtain ⟨g, cap, hv, _, _, _, _, _, hc⟩ := RowI.at h (by omega)
  cases hv
  exact ⟨g, 0, rfl, fun i hi j hj => by rw [Nat.zero_add]; exact hc _ (by omega)⟩
theorem mem_take_succ (l : List Int) (k : Nat) (hk : k < l.length) (x : Int) : decide (x ∈ l.take (k + 1)) = (decide (x ∈ l.take k) || (l.getD k 0 == x)) := by
  have e : l.getD k 0 = l[k] := by simp [List.getD, hk]
  rw [e]
  have h : x ∈ l.take (k + 1) ↔ x ∈ l.take k ∨ l[k] = x := by
    rw [List.take_add_one, List.getElem?_eq_getElem hk, Option.toList_some, List.mem_append, List.mem_singleton, @eq_comm _ x]
  rw [Bool.eq_iff_iff]
  simp only [decide_eq_true_eq, Bool.or_eq_true, beq_iff_eq]
  exact h
set_option maxHeartbeats 8000000 in
theorem statesLaw_any (n : Nat) (L : Nat → Eff) (a : Option Addr) (c : Nat) (click at' : Int) (w : World) (ha : CellsF w a n 7 (fun i => (L i).V)) (hn : n ≤ 1000000000000000) (hnc : n ≤ c) :
    Calls Try.prog 3 #[.slice a n c, .int .i64 click, .int .i64 at'] w fun e w' => e = .returned (.bool true) ∧ Below w.heap.size w w' := by
  have HA := Lib.hid ha
  clear ha
  go_enter Try.func3, Try.ntmps3
  go_wp2_with fail
  refine (timed_any w sortC).mono ?_
  rintro e w1 ⟨rfl, hb1⟩
  have HB1 := Lib.hid hb1
  clear hb1
  obtain ⟨m, hm⟩ : ∃ m, m = min n 30 := ⟨_, rfl⟩
  have hm30 : m ≤ 30 := by omega
  have hmn : m ≤ n := by omega
  have HA1 := Lib.hid ((HA.out.below (Nat.le_refl _) HB1.out).take hmn)
  have hm200 : m ≤ 1000000000000000000 := by omega
  go_upto_if 23 with fail
  go_cut [0] from 19 to 25 (fun lv wx => (∃ c' : Nat, lv = .slice a m c') ∧ wx = w1)
  case first =>
    by_cases h30 : 30 < n
    · have e : m = 30 := by omega
      subst e
      clear hm
      go_wp2_with fail
      go_meet
      exact ⟨⟨_, rfl⟩, rfl⟩
    · have e : m = n := by omega
      subst e
      clear hm
      go_wp2_with fail
      go_meet
      exact ⟨⟨_, rfl⟩, rfl⟩
  case rest =>
  obtain ⟨⟨cl, rfl⟩, hwc⟩ := hcut
  obtain rfl : w1 = wc := hwc.symm
  clear hm HA
  obtain ⟨E, hEE⟩ : ∃ E, E = effsE m L := ⟨_, rfl⟩
  have HE := Lib.hid hEE
  clear hEE
  by_cases hE : E = 0
  · by_cases hr : (0 ≤ click ∧ click ≤ 200) ∧ (0 ≤ at' ∧ at' ≤ 10000000)
    · have hE0 : effsE m L = 0 := by rw [← HE.out]; exact hE
      subst hE
      have HE0 := Lib.hid hE0
      clear hE0
      have hi1 : inB click 0 200 = true := inB_true.2 hr.1
      have hi2 : inB at' 0 10000000 = true := inB_true.2 hr.2
      obtain ⟨hck, hat⟩ := hr
      have HSTATE := Lib.hid (state_ok m L a cl click at' w1 HA1.out sortC HE0.out hck hat)
      go_wp2_with fail
      refine HSTATE.out.mono ?_
      rintro e w2 ⟨l', a9, c9, rfl, h1, h2, h3, h4⟩
      have HA2 := Lib.hid (HA1.out.below (Nat.le_refl _) h4)
      have HPM := Lib.hid h1
      have HLT := Lib.hid h2
      have HC2 := Lib.hid h3
      have HB2 := Lib.hid (HB1.out.trans (h4.mono HB1.out.size))
      clear h1 h2 h3 h4 HSTATE
      go_wp2_with fail
      refine (error_any m L a cl w2 HA2.out hm200).mono ?_
      rintro e w3 ⟨rfl, hb3⟩
      rw [HE0.out]
      have HA3 := Lib.hid (HA2.out.below (Nat.le_refl _) hb3)
      have HC3 := Lib.hid (HC2.out.below (Nat.le_refl _) hb3)
      have HB3 := Lib.hid (HB2.out.trans (hb3.mono HB2.out.size))
      clear hb3
      go_wp2_with (go_at_call 8; refine (in_any _ _ _ _).mono ?_; rintro e w' ⟨rfl, rfl⟩)
      refine (bases_any m L a cl w3 HA3.out (by omega) (effsE_zero HE0.out).2).mono ?_
      rintro e w4 ⟨tv, rfl, hrow, hb4⟩
      have HA4 := Lib.hid (HA3.out.below (Nat.le_refl _) hb4)
      have HC4 := Lib.hid (HC3.out.below (Nat.le_refl _) hb4)
      have HT4 := Lib.hid hrow
      obtain ⟨ta, tc, htv, _, _⟩ := RowI.slice hrow
      subst htv
      have HTC4 := Lib.hid (rowI_cells hrow)
      have HB4 := Lib.hid (HB3.out.trans (hb4.mono HB3.out.size))
      clear hrow hb4 HT4 HA1 HA2 HA3 HC2 HC3
      have hpos : ∀ i, i < l'.length → lastF l' i < l'.getD i 0 := by
        intro i hi
        unfold lastF
        by_cases h0 : i = 0
        · rw [if_pos h0]
          have hm1 := HPM.out.mem_iff.1 (getD_mem hi)
          obtain ⟨j, hj, hje⟩ := itsF_mem.1 hm1
          have := ((effsE_zero HE0.out).2 j hj).item
          omega
        · rw [if_neg h0]
          exact HLT.out _ _ (by omega) hi
      have HPOS := Lib.hid hpos
      have hbd : ∀ i, i < l'.length → 1 ≤ l'.getD i 0 ∧ l'.getD i 0 ≤ 1073741824 := by
        intro i hi
        have hm1 := HPM.out.mem_iff.1 (getD_mem hi)
        obtain ⟨j, hj, hje⟩ := itsF_mem.1 hm1
        have := ((effsE_zero HE0.out).2 j hj).item
        omega
      have HBD := Lib.hid hbd
      have hlen : l'.length ≤ 30 := by
        have h1 := HPM.out.length_eq
        have h2 := itsF_len (L := L) m
        omega
      clear hpos hbd
      go_wp2_with fail
      go_loopw [11, 13, 61] (fun lv xv iv wr => ∃ i : Nat, iv = .int .i64 i ∧ i ≤ l'.length ∧ lv = .int .i64 (lastF l' i) ∧ Below w4.heap.size w4 wr) (fun _ _ iv _ => l'.length - (intOf iv).toNat)
      case atStart => exact ⟨0, rfl, by omega, rfl, Below.refl _ _⟩
      case round =>
        obtain ⟨i, rfl, hi, rfl, hb5⟩ := hrel
        have HB5 := Lib.hid hb5
        clear hb5
        by_cases hin : i < l'.length
        · obtain ⟨sb, soff, hsa, hcell⟩ := HC4.out.below (Nat.le_refl _) HB5.out (by omega)
          subst hsa
          have s0 : wr.cell? ⟨sb, soff + i * 4 + 0, none⟩ = some (.int .i64 (l'.getD i 0)) := hcell i hin 0 (by omega)
          have s1 : wr.cell? ⟨sb, soff + i * 4 + 1, none⟩ = some (.int .i64 (seenF (staF L click at' (l'.getD i 0) m))) := hcell i hin 1 (by omega)
          have s2 : wr.cell? ⟨sb, soff + i * 4 + 2, none⟩ = some (.int .i64 (staF L click at' (l'.getD i 0) m).x) := hcell i hin 2 (by omega)
          have s3 : wr.cell? ⟨sb, soff + i * 4 + 3, none⟩ = some (.int .i64 (staF L click at' (l'.getD i 0) m).y) := hcell i hin 3 (by omega)
          rw [Nat.add_zero] at s0
          have zs := lt_of_cell s0
          simp only at zs
          have hlt := HPOS.out i hin
          have hib := HBD.out i hin
          have HNX := Lib.hid (show lastF l' (i + 1) = l'.getD i 0 by unfold lastF; rw [if_neg (by omega), Nat.add_sub_cancel])
          obtain ⟨I, hI⟩ : ∃ I, I = l'.getD i 0 := ⟨_, rfl⟩
          obtain ⟨la, hla⟩ : ∃ la, la = lastF l' i := ⟨_, rfl⟩
          rw [← hI] at s0 s1 s2 s3 hlt hib HNX
          rw [← hla] at hlt ⊢
          obtain ⟨sn, hsn⟩ : ∃ s, s = seenF (staF L click at' I m) := ⟨_, rfl⟩
          obtain ⟨sx, hsx⟩ : ∃ s, s = (staF L click at' I m).x := ⟨_, rfl⟩
          obtain ⟨sy, hsy⟩ : ∃ s, s = (staF L click at' I m).y := ⟨_, rfl⟩
          rw [← hsn] at s1
          rw [← hsx] at s2
          rw [← hsy] at s3
          have HV := Lib.hid (And.intro hsn (And.intro hsx hsy))
          have hnle : ¬ I ≤ la := by omega
          clear hcell hI hla hsn hsx hsy
          go_upto_region 19 with fail
          obtain ⟨wz, hwz⟩ : ∃ wz, wz = wr.alloc (Obj.cells #[.int .i64 I, .int .i64 sn, .int .i64 sx, .int .i64 sy] 33) := ⟨_, rfl⟩
          have qz : Blk wz wr.heap.size #[.int .i64 I, .int .i64 sn, .int .i64 sx, .int .i64 sy] 33 := by rw [hwz]; exact Blk.new _ _ _
          have hbz : Below wr.heap.size wr wz := by rw [hwz]; exact (Below.refl _ _).alloc (Nat.le_refl _) _
          have HBZ := Lib.hid (HB5.out.trans (hbz.mono HB5.out.size))
          rw [← hwz]
          obtain ⟨z, hz⟩ : ∃ z, z = wr.heap.size := ⟨_, rfl⟩
          rw [← hz] at qz ⊢
          clear hwz hz hbz s0 s1 s2 s3 zs HB5
          have zz := qz.lt
          have y0 : wz.cell? ⟨z, 0, none⟩ = some (.int .i64 I) := qz.cell (i := 0) rfl
          have y1 : wz.cell? ⟨z, 1, none⟩ = some (.int .i64 sn) := qz.cell (i := 1) rfl
          have y2 : wz.cell? ⟨z, 2, none⟩ = some (.int .i64 sx) := qz.cell (i := 2) rfl
          have y3 : wz.cell? ⟨z, 3, none⟩ = some (.int .i64 sy) := qz.cell (i := 3) rfl
          clear qz
          have hso := stateOf_any m L a ta cl tc I click at' wz.drew (HA4.out.below (Nat.le_refl _) HBZ.out.drew) (HTC4.out.below (Nat.le_refl _) HBZ.out.drew) (by omega) (effsE_zero HE0.out).2 hck hat
          rw [← HV.out.1, ← HV.out.2.1, ← HV.out.2.2] at hso
          have HSO := Lib.hid hso
          clear hso
          go_region_held3 (fun w' => w'.cell? ⟨z, 0, none⟩ = some (.int .i64 I) ∧ w'.cell? ⟨z, 1, none⟩ = some (.int .i64 sn) ∧ w'.cell? ⟨z, 2, none⟩ = some (.int .i64 sx) ∧ w'.cell? ⟨z, 3, none⟩ = some (.int .i64 sy))
            (first | go_keep | (refine ⟨?_, ?_, ?_, ?_⟩ <;> (rw [hb6.cell (by simp; omega)]; assumption)))
            (first | (go_at_call 10; refine HSO.out.mono ?_; rintro e w6 ⟨rfl, hb6⟩))
          have HB6 := Lib.hid (HBZ.out.trans ((Below.refl _ _).drew.trans hb6 |>.mono HBZ.out.size))
          clear hb6
          go_wp2_with fail
          go_roundw
          case rel => exact ⟨i + 1, by go_num, by omega, by rw [HNX.out], HB6.out⟩
          case measure => simp [intOf]; omega
        · obtain rfl : i = l'.length := by omega
          go_wp2_with fail
          have HA := HA4
          have hall : ∀ j, j < m → (L j).item ∈ l' := fun j hj => HPM.out.mem_iff.2 (itsF_mem.2 ⟨j, hj, rfl⟩)
          have HALL := Lib.hid hall
          clear hall
          go_loopw [15, 16, 18, 83] (fun xv fv yv iv wx => ∃ j : Nat, iv = .int .i64 j ∧ j ≤ m ∧ Below w4.heap.size w4 wx) (fun _ _ _ iv _ => m - (intOf iv).toNat)
          case atStart => exact ⟨0, rfl, by omega, HB5.out⟩
          case round =>
            obtain ⟨j, rfl, hj, hb7⟩ := hrel
            have HB7 := Lib.hid hb7
            clear hb7 HB5
            by_cases hjm : j < m
            · obtain ⟨b, off, rfl, hcell⟩ := HA.out.below (Nat.le_refl _) HB7.out (by omega)
              have d0 : wr.cell? ⟨b, off + j * 7 + 0, none⟩ = some ((L j).V 0) := hcell j (by omega) 0 (by omega)
              have d1 : wr.cell? ⟨b, off + j * 7 + 1, none⟩ = some ((L j).V 1) := hcell j (by omega) 1 (by omega)
              have d2 : wr.cell? ⟨b, off + j * 7 + 2, none⟩ = some ((L j).V 2) := hcell j (by omega) 2 (by omega)
              have d3 : wr.cell? ⟨b, off + j * 7 + 3, none⟩ = some ((L j).V 3) := hcell j (by omega) 3 (by omega)
              have d4 : wr.cell? ⟨b, off + j * 7 + 4, none⟩ = some ((L j).V 4) := hcell j (by omega) 4 (by omega)
              have d5 : wr.cell? ⟨b, off + j * 7 + 5, none⟩ = some ((L j).V 5) := hcell j (by omega) 5 (by omega)
              have d6 : wr.cell? ⟨b, off + j * 7 + 6, none⟩ = some ((L j).V 6) := hcell j (by omega) 6 (by omega)
              have zb := lt_of_cell d0
              simp only at zb
              clear hcell
              obtain ⟨p, hp⟩ : ∃ p, p = L j := ⟨_, rfl⟩
              rw [← hp] at d0 d1 d2 d3 d4 d5 d6
              have HP := Lib.hid hp
              clear hp
              obtain ⟨I, KI, S, D, T, X, Y⟩ := p
              simp only [Eff.V] at d0 d1 d2 d3 d4 d5 d6
              rw [Nat.add_zero] at d0
              have HMEM := Lib.hid (show I ∈ l' by have h := HALL.out j hjm; rw [← HP.out] at h; exact h)
              go_upto_region 25 with fail
              obtain ⟨wz, hwz⟩ : ∃ wz, wz = wr.alloc (Obj.cells #[.int .i64 I, .int .i64 KI, .int .i64 S, .int .i64 D, .int .i64 T, .int .i64 X, .int .i64 Y] 36) := ⟨_, rfl⟩
              have qz : Blk wz wr.heap.size #[.int .i64 I, .int .i64 KI, .int .i64 S, .int .i64 D, .int .i64 T, .int .i64 X, .int .i64 Y] 36 := by rw [hwz]; exact Blk.new _ _ _
              have hbz : Below wr.heap.size wr wz := by rw [hwz]; exact (Below.refl _ _).alloc (Nat.le_refl _) _
              have HBZ := Lib.hid (HB7.out.trans (hbz.mono HB7.out.size))
              rw [← hwz]
              obtain ⟨z, hz⟩ : ∃ z, z = wr.heap.size := ⟨_, rfl⟩
              rw [← hz] at qz ⊢
              have HQZ := Lib.hid qz
              clear hwz hz hbz qz d0 d1 d2 d3 d4 d5 d6 zb HB7
              go_wp2_with fail
              go_loopw [16, 18, 89] (fun fv yv iv wy => ∃ k : Nat, iv = .int .i64 k ∧ k ≤ l'.length ∧ fv = .bool (decide (I ∈ l'.take k)) ∧ Below w4.heap.size w4 wy ∧ Blk wy z #[.int .i64 I, .int .i64 KI, .int .i64 S, .int .i64 D, .int .i64 T, .int .i64 X, .int .i64 Y] 36) (fun _ _ iv _ => l'.length - (intOf iv).toNat)
              case atStart => exact ⟨0, rfl, by omega, by simp, HBZ.out, HQZ.out⟩
              case round =>
                obtain ⟨k, rfl, hk, rfl, hb8, hq8⟩ := hrel
                have HB8 := Lib.hid hb8
                have HQ8 := Lib.hid hq8
                clear hb8 hq8 HBZ HQZ
                by_cases hkl : k < l'.length
                · obtain ⟨sb, soff, hsa, hcell⟩ := HC4.out.below (Nat.le_refl _) HB8.out (by omega)
                  subst hsa
                  have s0 : wr.cell? ⟨sb, soff + k * 4 + 0, none⟩ = some (.int .i64 (l'.getD k 0)) := hcell k hkl 0 (by omega)
                  have s1 : wr.cell? ⟨sb, soff + k * 4 + 1, none⟩ = some (.int .i64 (seenF (staF L click at' (l'.getD k 0) m))) := hcell k hkl 1 (by omega)
                  have s2 : wr.cell? ⟨sb, soff + k * 4 + 2, none⟩ = some (.int .i64 (staF L click at' (l'.getD k 0) m).x) := hcell k hkl 2 (by omega)
                  have s3 : wr.cell? ⟨sb, soff + k * 4 + 3, none⟩ = some (.int .i64 (staF L click at' (l'.getD k 0) m).y) := hcell k hkl 3 (by omega)
                  rw [Nat.add_zero] at s0
                  have zs := lt_of_cell s0
                  simp only at zs
                  have y0 : wr.cell? ⟨z, 0, none⟩ = some (.int .i64 I) := HQ8.out.cell (i := 0) rfl
                  have zz := HQ8.out.lt
                  have HTK := Lib.hid (mem_take_succ l' k hkl I)
                  obtain ⟨J, hJ⟩ : ∃ J, J = l'.getD k 0 := ⟨_, rfl⟩
                  rw [← hJ] at s0 s1 s2 s3 HTK
                  obtain ⟨fd, hfd⟩ : ∃ fd, fd = decide (I ∈ l'.take k) := ⟨_, rfl⟩
                  rw [← hfd] at HTK ⊢
                  have hbz : ∀ o : Obj, Below wr.heap.size wr (wr.alloc o) := fun o => (Below.refl _ _).alloc (Nat.le_refl _) _
                  have HBA := Lib.hid hbz
                  clear hcell hJ hfd hbz
                  cases fd
                  · by_cases hJI : J = I
                    · have e1 : (J == I) = true := by simp [hJI]
                      have HN := Lib.hid (show decide (I ∈ l'.take (k + 1)) = true by rw [HTK.out]; simp [hJI])
                      clear hJI
                      go_wp2_with fail
                      go_roundw
                      case rel => exact ⟨k + 1, by go_num, by omega, by rw [HN.out], HB8.out.trans ((HBA.out _).mono HB8.out.size), HQ8.out.alloc _⟩
                      case measure => simp [intOf]; omega
                    · have e1 : (J == I) = false := by simp [hJI]
                      have HN := Lib.hid (show decide (I ∈ l'.take (k + 1)) = false by rw [HTK.out]; simp [hJI])
                      clear hJI
                      go_wp2_with fail
                      go_roundw
                      case rel => exact ⟨k + 1, by go_num, by omega, by rw [HN.out], HB8.out.trans ((HBA.out _).mono HB8.out.size), HQ8.out.alloc _⟩
                      case measure => simp [intOf]; omega
                  · have HN := Lib.hid (show decide (I ∈ l'.take (k + 1)) = true by rw [HTK.out]; rfl)
                    go_wp2_with fail
                    go_roundw
                    case rel => exact ⟨k + 1, by go_num, by omega, by rw [HN.out], HB8.out.trans ((HBA.out _).mono HB8.out.size), HQ8.out.alloc _⟩
                    case measure => simp [intOf]; omega
                · obtain rfl : k = l'.length := by omega
                  have e1 : decide (I ∈ l'.take l'.length) = true := by rw [List.take_length]; exact decide_eq_true HMEM.out
                  rw [e1]
                  clear e1
                  go_wp2_with fail
                  go_roundw
                  case rel => exact ⟨j + 1, by go_num, by omega, HB8.out⟩
                  case measure => simp [intOf]; omega
            · obtain rfl : j = m := by omega
              go_wp2_with fail
              go_ret
              exact ⟨rfl, HB4.out.trans (HB7.out.mono HB4.out.size)⟩
    · have hE0 : effsE m L = 0 := by rw [← HE.out]; exact hE
      subst hE
      have HE0 := Lib.hid hE0
      clear hE0
      have hio : inB click 0 200 = false ∨ inB at' 0 10000000 = false := by
        rw [inB_false, inB_false]; omega
      have HR := Lib.hid hr
      clear hr
      go_wp2_with fail
      refine (state_range m L a cl click at' w1 HA1.out hm200 HE0.out HR.out).mono ?_
      rintro e w2 ⟨rfl, hb2⟩
      have HA2 := Lib.hid (HA1.out.below (Nat.le_refl _) hb2)
      have HB2 := Lib.hid (HB1.out.trans (hb2.mono HB1.out.size))
      clear hb2
      go_wp2_with fail
      refine (error_any m L a cl w2 HA2.out hm200).mono ?_
      rintro e w3 ⟨rfl, hb3⟩
      rw [HE0.out]
      have HB3 := Lib.hid (HB2.out.trans (hb3.mono HB2.out.size))
      clear hb3
      by_cases h1 : inB click 0 200 = true
      · have h2 : inB at' 0 10000000 = false := by
          rcases hio with h | h
          · rw [h1] at h; cases h
          · exact h
        clear hio
        go_wp2_with (go_at_call 8; refine (in_any _ _ _ _).mono ?_; rintro e w' ⟨rfl, rfl⟩)
        go_ret
        exact ⟨rfl, HB3.out⟩
      · have h1 : inB click 0 200 = false := by simpa using h1
        clear hio
        by_cases h2 : inB at' 0 10000000 = true
        · go_wp2_with (go_at_call 8; refine (in_any _ _ _ _).mono ?_; rintro e w' ⟨rfl, rfl⟩)
          go_ret
          exact ⟨rfl, HB3.out⟩
        · have h2 : inB at' 0 10000000 = false := by simpa using h2
          go_wp2_with (go_at_call 8; refine (in_any _ _ _ _).mono ?_; rintro e w' ⟨rfl, rfl⟩)
          go_ret
          exact ⟨rfl, HB3.out⟩
  · have hE' : ¬ effsE m L = 0 := by rw [← HE.out]; exact hE
    have HE' := Lib.hid hE'
    clear hE'
    go_wp2_with fail
    refine (state_bad m L a cl click at' w1 HA1.out hm200 HE'.out).mono ?_
    rintro e w2 ⟨rfl, hb2⟩
    rw [← HE.out]
    have HA2 := Lib.hid (HA1.out.below (Nat.le_refl _) hb2)
    have HB2 := Lib.hid (HB1.out.trans (hb2.mono HB1.out.size))
    clear hb2
    go_wp2_with fail
    refine (error_any m L a cl w2 HA2.out hm200).mono ?_
    rintro e w3 ⟨rfl, hb3⟩
    rw [← HE.out]
    have HB3 := Lib.hid (HB2.out.trans (hb3.mono HB2.out.size))
    clear hb3
    have e1 : (E == 0) = false := by simp [hE]
    go_wp2_with fail
    go_ret
    exact ⟨rfl, HB3.out⟩
end Go.Proofs.Ythddbinbeinafaa.TL
