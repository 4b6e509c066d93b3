/-
  BdWeakW.
-/
import Derived.Test.YtojbicdmcodgdaaDoorBdM10
namespace Go.Proofs.YtojbicdmcodgdaaDoor.BD
open Go.RowKit Go.Law Go.Law.Bd
set_option linter.unusedVariables false
set_option linter.unusedSimpArgs false
set_option maxRecDepth 100000
section
variable {p : SqP} {C0 V : Nat → Int} {w0 w : World}
theorem sg_w2 {C : Nat → Int} {bef : Int} {k : Nat} : sgB (prt (w2 C bef) C k) bef k = sgB C bef k := by
  rw [sgB_congr (C' := w2 C bef) k (fun j hj => prt_lt hj), sgB_w2]
theorem sg_w7 {C : Nat → Int} {bef : Int} {k : Nat} : sgB (prt (w7 C bef) C k) bef k = sg7 C bef k := by
  rw [sgB_congr (C' := w7 C bef) k (fun j hj => prt_lt hj), sgB_w7]
theorem set_zero (ok : SqOk p) (h : Sq p C0 w0 w V) (hk : 0 < p.m) (x : Int) :
    Calls Tryd.prog 37 #[.pointer (some ⟨p.sz, 0, none⟩), .int .i64 0, .int .i64 x] w fun e w' => e = .returned (.tuple #[]) ∧ Sq p C0 w0 w' (upd V 0 x) := set_any ok h 0 hk x
set_option maxHeartbeats 8000000 in
theorem weak_any (ok : SqOk p) (h : Sq p C0 w0 w V) :
    Calls Tryd.prog 16 #[.pointer (some ⟨p.sz, 0, none⟩)] w fun e w' => e = .returned (.tuple #[]) ∧ Sq p C0 w0 w' (wWK V (fun k => p.K (p.A k)) p.m p.beg) := by
  have H := Lib.hid h
  have OK := Lib.hid ok
  have hm2 := ok.mn
  have hn2 := ok.n2
  have hmc := ok.mc
  have s1 : w.cell? ⟨p.sz, 1, none⟩ = _ := h.st.sb.cell (i := 1) rfl
  clear h ok
  obtain ⟨Ow, hOw⟩ : ∃ Ow : Nat → Int, Ow = fun k => p.K (p.A k) := ⟨_, rfl⟩
  have HOW := Lib.hid (show ∀ k, Ow k = p.K (p.A k) from fun k => by rw [hOw])
  rw [← hOw]
  clear hOw
  obtain ⟨V1, hV1⟩ : ∃ V1, V1 = w1 V Ow p.beg := ⟨_, rfl⟩
  obtain ⟨V2, hV2⟩ : ∃ V2, V2 = w2 V1 p.beg := ⟨_, rfl⟩
  obtain ⟨V3, hV3⟩ : ∃ V3, V3 = w3 V2 := ⟨_, rfl⟩
  obtain ⟨V4, hV4⟩ : ∃ V4, V4 = w4 V3 p.m := ⟨_, rfl⟩
  obtain ⟨V6, hV6⟩ : ∃ V6, V6 = w6 (wET V4 p.m) := ⟨_, rfl⟩
  have HEND := Lib.hid (show wWK V Ow p.m p.beg = w7 V6 p.beg by rw [hV6, hV4, hV3, hV2, hV1]; rfl)
  have HV1 := Lib.hid hV1
  have HV2 := Lib.hid hV2
  have HV3 := Lib.hid hV3
  have HV4 := Lib.hid hV4
  have HV6 := Lib.hid hV6
  clear hV1 hV2 hV3 hV4 hV6
  go_enter Tryd.func16, Tryd.ntmps16
  go_wp2_with fail
  go_loopw [15] (fun iv wr => ∃ k : Nat, iv = .int .i64 k ∧ k ≤ p.m ∧ Sq p C0 w0 wr (prt (V1) (V) k)) (fun iv _ => p.m - (intOf iv).toNat)
  case atStart => exact ⟨0, rfl, by omega, H.out.congr fun j _ => (prt_zero _ _ _).symm⟩
  case round =>
    clear H s1
    obtain ⟨k, rfl, hk, hq⟩ := hrel
    have HQ := Lib.hid hq
    have s1 : wr.cell? ⟨p.sz, 1, none⟩ = _ := hq.st.sb.cell (i := 1) rfl
    clear hq
    by_cases hkm : k < p.m
    · have HG := Lib.hid (getk0_any OK.out HQ.out k hkm)
      rw [prt_ge (Nat.le_refl _)] at HG
      by_cases h8 : V k = 8
      · rw [h8] at HG
        cases k with
        | zero =>
          have HW := Lib.hid (show V1 0 = p.beg by rw [HV1.out, w1, if_pos h8])
          have HG2 := Lib.hid (get_any OK.out HQ.out (-1) (by omega))
          rw [gtV_neg] at HG2
          clear h8
          go_wp2_with fail
          refine HG.out.mono ?_
          rintro e w2 ⟨rfl, q, rfl⟩
          go_wp2_with fail
          go_quiet ((go_at_call 32; exact quiet_call (isolate_any _ _)))
          go_wp2_with fail
          refine (HG2.out _).mono ?_
          rintro e w2 ⟨rfl, q2, rfl⟩
          go_wp2_with fail
          refine (set_zero OK.out (HQ.out.drewN q2) hkm p.beg).mono ?_
          rintro e w3 ⟨rfl, hq3⟩
          have HQ3 := Lib.hid (hq3.congr fun j _ => prt_set _ _ 0 HW.out j)
          clear hq3 HQ
          go_wp2_with fail
          go_roundw
          case rel => exact ⟨0 + 1, by go_num, by omega, HQ3.out⟩
          case measure => simp [intOf]; omega
        | succ k =>
          have hA := OK.out.lt k (by omega)
          have hA2 : ((p.A k : Nat) : Int) < (p.n : Int) := by omega
          have e1 : ((k + 1 : Nat) : Int) - 1 = k := by omega
          have hk0 : (0 : Int) < ((k + 1 : Nat) : Int) := by omega
          have hkm3 : (k : Int) < (p.m : Int) := by omega
          have hw1 := IntWalk.i64_in (k : Int) (by omega)
          have HV := Lib.hid (show V1 (k + 1) = if isoB (Ow k) = true ∨ Ow k = 22 then 13 else V1 k by rw [HV1.out, w1, if_pos h8])
          go_wp2_with fail
          refine HG.out.mono ?_
          rintro e w2 ⟨rfl, q, hw2⟩
          have HQ' := Lib.hid (show Sq p C0 w0 w2 (prt V1 V (k + 1)) by rw [hw2]; exact HQ.out.drewN q)
          clear hw2 HQ s1 HG h8
          replace HQ := HQ'
          clear HQ'
          have HG2 := Lib.hid (getk_any OK.out HQ.out k (by omega))
          rw [prt_lt (by omega)] at HG2
          have s1 : w2.cell? ⟨p.sz, 1, none⟩ = _ := HQ.out.st.sb.cell (i := 1) rfl
          have s2 : w2.cell? ⟨p.sz, 2, none⟩ = _ := HQ.out.st.sb.cell (i := 2) rfl
          have a1 := HQ.out.st.at_ k (by omega)
          have a2 := HQ.out.st.ow (p.A k) hA
          rw [← HOW.out] at a2
          obtain ⟨x, hx⟩ : ∃ x, x = Ow k := ⟨_, rfl⟩
          rw [← hx] at a2 HV
          clear hx hA
          by_cases hi : isoB x = true
          · have HW := Lib.hid (HV.out.trans (if_pos (.inl hi)))
            have HI := Lib.hid hi
            clear hi
            go_wp2_with fail
            go_quiet ((go_at_call 32; exact quiet_call (isolate_is HI.out _)))
            go_wp2_with fail
            refine (set_any OK.out (HQ.out.drewN nq) (k + 1) hkm (13)).mono ?_
            rintro e w3 ⟨rfl, hq3⟩
            have HQ3 := Lib.hid (hq3.congr fun j _ => prt_set _ _ (k + 1) HW.out j)
            clear hq3 HQ
            go_wp2_with fail
            go_roundw
            case rel => exact ⟨k + 1 + 1, by go_num, by omega, HQ3.out⟩
            case measure => simp [intOf]; omega
          · have HI := Lib.hid (show isoB x = false by simpa using hi)
            by_cases h22 : x = 22
            · have HW := Lib.hid (HV.out.trans (if_pos (.inr h22)))
              have hx22 : (x == 22) = true := by simpa using h22
              clear hi h22
              go_wp2_with fail
              go_quiet ((go_at_call 32; exact quiet_call (isolate_is HI.out _)))
              go_wp2_with fail
              refine (set_any OK.out (HQ.out.drewN nq) (k + 1) hkm (13)).mono ?_
              rintro e w3 ⟨rfl, hq3⟩
              have HQ3 := Lib.hid (hq3.congr fun j _ => prt_set _ _ (k + 1) HW.out j)
              clear hq3 HQ
              go_wp2_with fail
              go_roundw
              case rel => exact ⟨k + 1 + 1, by go_num, by omega, HQ3.out⟩
              case measure => simp [intOf]; omega
            · have HW := Lib.hid (HV.out.trans (if_neg (fun h => h.elim hi h22)))
              have hx22 : (x == 22) = false := by simpa using h22
              clear hi h22
              go_wp2_with fail
              go_quiet ((go_at_call 32; exact quiet_call (isolate_is HI.out _)))
              go_wp2_with fail
              refine (HG2.out _).mono ?_
              rintro e w4 ⟨rfl, q2, rfl⟩
              go_wp2_with fail
              refine (set_any OK.out (HQ.out.drewN q2) (k + 1) hkm (V1 k)).mono ?_
              rintro e w3 ⟨rfl, hq3⟩
              have HQ3 := Lib.hid (hq3.congr fun j _ => prt_set _ _ (k + 1) HW.out j)
              clear hq3 HQ
              go_wp2_with fail
              go_roundw
              case rel => exact ⟨k + 1 + 1, by go_num, by omega, HQ3.out⟩
              case measure => simp [intOf]; omega
      · have HW := Lib.hid (show V1 k = V k by
          rw [HV1.out]
          cases k with
          | zero => rw [w1, if_neg h8]
          | succ k => rw [w1, if_neg h8])
        have h8' : (V k != 8) = true := by simpa using h8
        clear h8
        go_wp2_with fail
        refine HG.out.mono ?_
        rintro e w2 ⟨rfl, q, rfl⟩
        go_wp2_with fail
        go_roundw
        case rel => exact ⟨k + 1, by go_num, by omega, (HQ.out.drewN q).congr fun j _ => prt_same HW.out j⟩
        case measure => simp [intOf]; omega
    · obtain rfl : k = p.m := by omega
      have HQ2 := Lib.hid (HQ.out.congr fun j hj => prt_lt hj)
      clear HQ
      go_wp2_with fail
      go_loopw [74] (fun iv wr => ∃ k : Nat, iv = .int .i64 k ∧ k ≤ p.m ∧ Sq p C0 w0 wr (prt (V2) (V1) k)) (fun iv _ => p.m - (intOf iv).toNat)
      case atStart => exact ⟨0, rfl, by omega, HQ2.out.congr fun j _ => (prt_zero _ _ _).symm⟩
      case round =>
        clear HQ2
        obtain ⟨k, rfl, hk, hq⟩ := hrel
        have HQ := Lib.hid hq
        have s1 : wr.cell? ⟨p.sz, 1, none⟩ = _ := hq.st.sb.cell (i := 1) rfl
        clear hq
        by_cases hkm : k < p.m
        · have HG := Lib.hid (getk0_any OK.out HQ.out k hkm)
          rw [prt_ge (Nat.le_refl _)] at HG
          have HS := Lib.hid (strong_any OK.out HQ.out k (by omega))
          rw [(show sgB (prt V2 V1 k) p.beg k = sgB V1 p.beg k by rw [HV2.out]; exact sg_w2)] at HS
          obtain ⟨x, hx⟩ : ∃ x, x = V1 k := ⟨_, rfl⟩
          obtain ⟨y, hy⟩ : ∃ y, y = sgB V1 p.beg k := ⟨_, rfl⟩
          have HX := Lib.hid hx
          have HY := Lib.hid hy
          rw [← hx] at HG
          rw [← hy] at HS
          clear hx hy
          by_cases hx3 : x = 3
          · subst hx3
            by_cases hy2 : y = 2
            · have HW := Lib.hid (show V2 k = 6 by rw [HV2.out]; unfold w2; rw [← HX.out, ← HY.out, if_pos ⟨rfl, hy2⟩])
              subst hy2
              go_wp2_with fail
              refine HG.out.mono ?_
              rintro e w2 ⟨rfl, q, rfl⟩
              go_wp2_with fail
              refine (HS.out q).mono ?_
              rintro e w2 ⟨rfl, q2, rfl⟩
              go_wp2_with fail
              refine (set_any OK.out (HQ.out.drewN q2) k hkm (6)).mono ?_
              rintro e w3 ⟨rfl, hq3⟩
              have HQ3 := Lib.hid (hq3.congr fun j _ => prt_set _ _ k HW.out j)
              clear hq3 HQ
              go_wp2_with fail
              go_roundw
              case rel => exact ⟨k + 1, by go_num, by omega, HQ3.out⟩
              case measure => simp [intOf]; omega
            · have HW := Lib.hid (show V2 k = V1 k by rw [HV2.out]; unfold w2; rw [← HX.out, ← HY.out, if_neg (fun h => hy2 h.2)])
              have f2 : (y == 2) = false := by simpa using hy2
              clear hy2
              go_wp2_with fail
              refine HG.out.mono ?_
              rintro e w2 ⟨rfl, q, rfl⟩
              go_wp2_with fail
              refine (HS.out q).mono ?_
              rintro e w2 ⟨rfl, q2, rfl⟩
              go_wp2_with fail
              go_roundw
              case rel => exact ⟨k + 1, by go_num, by omega, (HQ.out.drewN q2).congr fun j _ => prt_same HW.out j⟩
              case measure => simp [intOf]; omega
          · have HW := Lib.hid (show V2 k = V1 k by rw [HV2.out]; unfold w2; rw [← HX.out, ← HY.out, if_neg (fun h => hx3 h.1)])
            have f3 : (x == 3) = false := by simpa using hx3
            clear hx3
            go_wp2_with fail
            refine HG.out.mono ?_
            rintro e w2 ⟨rfl, q, rfl⟩
            go_wp2_with fail
            go_roundw
            case rel => exact ⟨k + 1, by go_num, by omega, (HQ.out.drewN q).congr fun j _ => prt_same HW.out j⟩
            case measure => simp [intOf]; omega
        obtain rfl : k = p.m := by omega
        have HQ2 := Lib.hid (HQ.out.congr fun j hj => prt_lt hj)
        clear HQ
        go_wp2_with fail
        go_loopw [96] (fun iv wr => ∃ k : Nat, iv = .int .i64 k ∧ k ≤ p.m ∧ Sq p C0 w0 wr (prt (V3) (V2) k)) (fun iv _ => p.m - (intOf iv).toNat)
        case atStart => exact ⟨0, rfl, by omega, HQ2.out.congr fun j _ => (prt_zero _ _ _).symm⟩
        case round =>
          clear HQ2
          obtain ⟨k, rfl, hk, hq⟩ := hrel
          have HQ := Lib.hid hq
          have s1 : wr.cell? ⟨p.sz, 1, none⟩ = _ := hq.st.sb.cell (i := 1) rfl
          clear hq
          by_cases hkm : k < p.m
          · have HG := Lib.hid (getk0_any OK.out HQ.out k hkm)
            rw [prt_ge (Nat.le_refl _)] at HG
            by_cases h2 : V2 k = 2
            · have HW := Lib.hid (show V3 k = 1 by rw [HV3.out]; unfold w3; rw [if_pos h2])
              rw [h2] at HG
              clear h2
              go_wp2_with fail
              refine HG.out.mono ?_
              rintro e w2 ⟨rfl, q, rfl⟩
              go_wp2_with fail
              refine (set_any OK.out (HQ.out.drewN q) k hkm (1)).mono ?_
              rintro e w3 ⟨rfl, hq3⟩
              have HQ3 := Lib.hid (hq3.congr fun j _ => prt_set _ _ k HW.out j)
              clear hq3 HQ
              go_wp2_with fail
              go_roundw
              case rel => exact ⟨k + 1, by go_num, by omega, HQ3.out⟩
              case measure => simp [intOf]; omega
            · have HW := Lib.hid (show V3 k = V2 k by rw [HV3.out]; unfold w3; rw [if_neg h2])
              have h2' : (V2 k == 2) = false := by simpa using h2
              clear h2
              go_wp2_with fail
              refine HG.out.mono ?_
              rintro e w2 ⟨rfl, q, rfl⟩
              go_wp2_with fail
              go_roundw
              case rel => exact ⟨k + 1, by go_num, by omega, (HQ.out.drewN q).congr fun j _ => prt_same HW.out j⟩
              case measure => simp [intOf]; omega
          · obtain rfl : k = p.m := by omega
            have HQ2 := Lib.hid (HQ.out.congr fun j hj => prt_lt hj)
            clear HQ
            go_wp2_with fail
            go_loopw [5] (fun iv wr => ∃ k : Nat, iv = .int .i64 k ∧ 1 ≤ k ∧ (k < p.m ∨ k = 1) ∧ Sq p C0 w0 wr (prt V4 V3 k)) (fun iv _ => p.m - (intOf iv).toNat)
            case atStart => exact ⟨1, rfl, by omega, .inr rfl, HQ2.out.congr fun j _ => by rw [← prt_same (show V4 0 = V3 0 by rw [HV4.out, w4]) j, prt_zero]⟩
            case round =>
              clear HQ2 s1
              obtain ⟨k, rfl, hk, hk2, hq⟩ := hrel
              have HQ := Lib.hid hq
              have s1 : wr.cell? ⟨p.sz, 1, none⟩ = _ := hq.st.sb.cell (i := 1) rfl
              clear hq
              have hw1 := IntWalk.i64_in ((k : Int) + 1) (by omega)
              by_cases hkm : k + 1 < p.m
              · have e1 : (k : Int) - 1 = ((k - 1 : Nat) : Int) := by omega
                have hw2 := IntWalk.i64_in ((k - 1 : Nat) : Int) (by omega)
                have HG1 := Lib.hid (getk0_any OK.out HQ.out (k - 1) (by omega))
                rw [prt_lt (by omega)] at HG1
                have HG2 := Lib.hid (getk_any OK.out HQ.out k (by omega))
                rw [prt_ge (Nat.le_refl _)] at HG2
                have HG3 := Lib.hid (get_any OK.out HQ.out ((k : Int) + 1) (by omega))
                rw [show gtV p (prt V4 V3 k) ((k : Int) + 1) = V3 (k + 1) from (gtV_in (k := k + 1) (by omega)).trans (prt_ge (by omega))] at HG3
                have HV := Lib.hid (show V4 k = if k + 1 < p.m ∧ V4 (k - 1) = V3 (k + 1) ∧ ((V3 k = 4 ∧ V4 (k - 1) = 3) ∨ (V3 k = 7 ∧ (V4 (k - 1) = 3 ∨ V4 (k - 1) = 6))) then V4 (k - 1) else V3 k by
                  obtain ⟨j, rfl⟩ : ∃ j, k = j + 1 := ⟨k - 1, by omega⟩
                  rw [HV4.out, w4]; rfl)
                obtain ⟨a, ha⟩ : ∃ a, a = V4 (k - 1) := ⟨_, rfl⟩
                obtain ⟨c, hc⟩ : ∃ c, c = V3 k := ⟨_, rfl⟩
                obtain ⟨b, hb⟩ : ∃ b, b = V3 (k + 1) := ⟨_, rfl⟩
                have HC := Lib.hid hc
                rw [← ha, ← hc, ← hb] at HV
                rw [← ha] at HG1
                rw [← hc] at HG2
                rw [← hb] at HG3
                clear ha hc hb
                by_cases hab : a = b
                · subst hab
                  have hab' : (a == a) = true := by simp
                  by_cases hc4 : c = 4
                  · subst hc4
                    by_cases ha3 : a = 3
                    · subst ha3
                      have HW := Lib.hid (HV.out.trans (if_pos ⟨hkm, rfl, .inl ⟨rfl, rfl⟩⟩))
                      clear HV
                      go_wp2_with fail
                      refine HG1.out.mono ?_
                      rintro e w2 ⟨rfl, q1, rfl⟩
                      go_wp2_with fail
                      refine (HG2.out _).mono ?_
                      rintro e w2 ⟨rfl, q2, rfl⟩
                      go_wp2_with fail
                      refine (HG3.out _).mono ?_
                      rintro e w2 ⟨rfl, q3, rfl⟩
                      go_wp2_with fail
                      refine (set_any OK.out (HQ.out.drewN q3) k (by omega) 3).mono ?_
                      rintro e w3 ⟨rfl, hq3⟩
                      have HQ3 := Lib.hid (hq3.congr fun j _ => prt_set _ _ k HW.out j)
                      clear hq3 HQ
                      go_wp2_with fail
                      go_roundw
                      case rel => exact ⟨k + 1, by go_num, by omega, by omega, HQ3.out⟩
                      case measure => simp [intOf]; omega
                    · have HW := Lib.hid ((HV.out.trans (if_neg (fun h => by omega))).trans HC.out)
                      have f3 : (a == 3) = false := by simpa using ha3
                      clear ha3
                      clear HV
                      go_wp2_with fail
                      refine HG1.out.mono ?_
                      rintro e w2 ⟨rfl, q1, rfl⟩
                      go_wp2_with fail
                      refine (HG2.out _).mono ?_
                      rintro e w2 ⟨rfl, q2, rfl⟩
                      go_wp2_with fail
                      refine (HG3.out _).mono ?_
                      rintro e w2 ⟨rfl, q3, rfl⟩
                      go_wp2_with fail
                      go_roundw
                      case rel => exact ⟨k + 1, by go_num, by omega, by omega, (HQ.out.drewN q3).congr fun j _ => prt_same HW.out j⟩
                      case measure => simp [intOf]; omega
                  · have f4 : (c == 4) = false := by simpa using hc4
                    by_cases hc7 : c = 7
                    · subst hc7
                      by_cases ha3 : a = 3
                      · subst ha3
                        have HW := Lib.hid (HV.out.trans (if_pos ⟨hkm, rfl, .inr ⟨rfl, .inl rfl⟩⟩))
                        clear hc4
                        clear HV
                        go_wp2_with fail
                        refine HG1.out.mono ?_
                        rintro e w2 ⟨rfl, q1, rfl⟩
                        go_wp2_with fail
                        refine (HG2.out _).mono ?_
                        rintro e w2 ⟨rfl, q2, rfl⟩
                        go_wp2_with fail
                        refine (HG3.out _).mono ?_
                        rintro e w2 ⟨rfl, q3, rfl⟩
                        go_wp2_with fail
                        refine (set_any OK.out (HQ.out.drewN q3) k (by omega) 3).mono ?_
                        rintro e w3 ⟨rfl, hq3⟩
                        have HQ3 := Lib.hid (hq3.congr fun j _ => prt_set _ _ k HW.out j)
                        clear hq3 HQ
                        go_wp2_with fail
                        go_roundw
                        case rel => exact ⟨k + 1, by go_num, by omega, by omega, HQ3.out⟩
                        case measure => simp [intOf]; omega
                      · have f3 : (a == 3) = false := by simpa using ha3
                        by_cases ha6 : a = 6
                        · subst ha6
                          have HW := Lib.hid (HV.out.trans (if_pos ⟨hkm, rfl, .inr ⟨rfl, .inr rfl⟩⟩))
                          clear hc4 ha3
                          clear HV
                          go_wp2_with fail
                          refine HG1.out.mono ?_
                          rintro e w2 ⟨rfl, q1, rfl⟩
                          go_wp2_with fail
                          refine (HG2.out _).mono ?_
                          rintro e w2 ⟨rfl, q2, rfl⟩
                          go_wp2_with fail
                          refine (HG3.out _).mono ?_
                          rintro e w2 ⟨rfl, q3, rfl⟩
                          go_wp2_with fail
                          refine (set_any OK.out (HQ.out.drewN q3) k (by omega) 6).mono ?_
                          rintro e w3 ⟨rfl, hq3⟩
                          have HQ3 := Lib.hid (hq3.congr fun j _ => prt_set _ _ k HW.out j)
                          clear hq3 HQ
                          go_wp2_with fail
                          go_roundw
                          case rel => exact ⟨k + 1, by go_num, by omega, by omega, HQ3.out⟩
                          case measure => simp [intOf]; omega
                        · have HW := Lib.hid ((HV.out.trans (if_neg (fun h => by omega))).trans HC.out)
                          have f6 : (a == 6) = false := by simpa using ha6
                          clear hc4 ha3 ha6
                          clear HV
                          go_wp2_with fail
                          refine HG1.out.mono ?_
                          rintro e w2 ⟨rfl, q1, rfl⟩
                          go_wp2_with fail
                          refine (HG2.out _).mono ?_
                          rintro e w2 ⟨rfl, q2, rfl⟩
                          go_wp2_with fail
                          refine (HG3.out _).mono ?_
                          rintro e w2 ⟨rfl, q3, rfl⟩
                          go_wp2_with fail
                          go_roundw
                          case rel => exact ⟨k + 1, by go_num, by omega, by omega, (HQ.out.drewN q3).congr fun j _ => prt_same HW.out j⟩
                          case measure => simp [intOf]; omega
                    · have HW := Lib.hid ((HV.out.trans (if_neg (fun h => by omega))).trans HC.out)
                      have f7 : (c == 7) = false := by simpa using hc7
                      clear hc4 hc7
                      clear HV
                      go_wp2_with fail
                      refine HG1.out.mono ?_
                      rintro e w2 ⟨rfl, q1, rfl⟩
                      go_wp2_with fail
                      refine (HG2.out _).mono ?_
                      rintro e w2 ⟨rfl, q2, rfl⟩
                      go_wp2_with fail
                      refine (HG3.out _).mono ?_
                      rintro e w2 ⟨rfl, q3, rfl⟩
                      go_wp2_with fail
                      go_roundw
                      case rel => exact ⟨k + 1, by go_num, by omega, by omega, (HQ.out.drewN q3).congr fun j _ => prt_same HW.out j⟩
                      case measure => simp [intOf]; omega
                · have HW := Lib.hid ((HV.out.trans (if_neg (fun h => hab h.2.1))).trans HC.out)
                  have hab' : (a == b) = false := by simpa using hab
                  clear hab
                  clear HV
                  go_wp2_with fail
                  refine HG1.out.mono ?_
                  rintro e w2 ⟨rfl, q1, rfl⟩
                  go_wp2_with fail
                  refine (HG2.out _).mono ?_
                  rintro e w2 ⟨rfl, q2, rfl⟩
                  go_wp2_with fail
                  refine (HG3.out _).mono ?_
                  rintro e w2 ⟨rfl, q3, rfl⟩
                  go_wp2_with fail
                  go_roundw
                  case rel => exact ⟨k + 1, by go_num, by omega, by omega, (HQ.out.drewN q3).congr fun j _ => prt_same HW.out j⟩
                  case measure => simp [intOf]; omega
              · have HQ2 := Lib.hid (show Sq p C0 w0 wr V4 from HQ.out.congr fun j hj => by
                  by_cases h : j < k
                  · exact prt_lt h
                  · rw [prt_ge (by omega), HV4.out]
                    cases j with
                    | zero => rw [w4]
                    | succ j => rw [w4, if_neg (by omega)])
                clear HQ
                go_wp2_with fail
                refine (ends_any OK.out HQ2.out).mono ?_
                rintro e w2 ⟨rfl, hq⟩
                rw [← HV6.out] at hq
                have HQ := Lib.hid hq
                have s1 : w2.cell? ⟨p.sz, 1, none⟩ = _ := hq.st.sb.cell (i := 1) rfl
                clear hq HQ2
                go_wp2_with fail
                obtain ⟨V7, hV7⟩ : ∃ V7, V7 = w7 V6 p.beg := ⟨_, rfl⟩
                have HV7 := Lib.hid hV7
                clear hV7
                go_loopw [162] (fun iv wr => ∃ k : Nat, iv = .int .i64 k ∧ k ≤ p.m ∧ Sq p C0 w0 wr (prt (V7) (V6) k)) (fun iv _ => p.m - (intOf iv).toNat)
                case atStart => exact ⟨0, rfl, by omega, HQ.out.congr fun j _ => (prt_zero _ _ _).symm⟩
                case round =>
                  clear HQ
                  obtain ⟨k, rfl, hk, hq⟩ := hrel
                  have HQ := Lib.hid hq
                  have s1 : wr.cell? ⟨p.sz, 1, none⟩ = _ := hq.st.sb.cell (i := 1) rfl
                  clear hq
                  by_cases hkm : k < p.m
                  · have HG := Lib.hid (getk0_any OK.out HQ.out k hkm)
                    rw [prt_ge (Nat.le_refl _)] at HG
                    have HS := Lib.hid (strong_any OK.out HQ.out k (by omega))
                    rw [(show sgB (prt V7 V6 k) p.beg k = sg7 V6 p.beg k by rw [HV7.out]; exact sg_w7)] at HS
                    obtain ⟨x, hx⟩ : ∃ x, x = V6 k := ⟨_, rfl⟩
                    obtain ⟨y, hy⟩ : ∃ y, y = sg7 V6 p.beg k := ⟨_, rfl⟩
                    have HX := Lib.hid hx
                    have HY := Lib.hid hy
                    rw [← hx] at HG
                    rw [← hy] at HS
                    clear hx hy
                    by_cases hx3 : x = 3
                    · subst hx3
                      by_cases hy2 : y = 0
                      · have HW := Lib.hid (show V7 k = 0 by rw [HV7.out]; unfold w7; rw [← HX.out, ← HY.out, if_pos ⟨rfl, hy2⟩])
                        subst hy2
                        go_wp2_with fail
                        refine HG.out.mono ?_
                        rintro e w2 ⟨rfl, q, rfl⟩
                        go_wp2_with fail
                        refine (HS.out q).mono ?_
                        rintro e w2 ⟨rfl, q2, rfl⟩
                        go_wp2_with fail
                        refine (set_any OK.out (HQ.out.drewN q2) k hkm (0)).mono ?_
                        rintro e w3 ⟨rfl, hq3⟩
                        have HQ3 := Lib.hid (hq3.congr fun j _ => prt_set _ _ k HW.out j)
                        clear hq3 HQ
                        go_wp2_with fail
                        go_roundw
                        case rel => exact ⟨k + 1, by go_num, by omega, HQ3.out⟩
                        case measure => simp [intOf]; omega
                      · have HW := Lib.hid (show V7 k = V6 k by rw [HV7.out]; unfold w7; rw [← HX.out, ← HY.out, if_neg (fun h => hy2 h.2)])
                        have f2 : (y == 0) = false := by simpa using hy2
                        clear hy2
                        go_wp2_with fail
                        refine HG.out.mono ?_
                        rintro e w2 ⟨rfl, q, rfl⟩
                        go_wp2_with fail
                        refine (HS.out q).mono ?_
                        rintro e w2 ⟨rfl, q2, rfl⟩
                        go_wp2_with fail
                        go_roundw
                        case rel => exact ⟨k + 1, by go_num, by omega, (HQ.out.drewN q2).congr fun j _ => prt_same HW.out j⟩
                        case measure => simp [intOf]; omega
                    · have HW := Lib.hid (show V7 k = V6 k by rw [HV7.out]; unfold w7; rw [← HX.out, ← HY.out, if_neg (fun h => hx3 h.1)])
                      have f3 : (x == 3) = false := by simpa using hx3
                      clear hx3
                      go_wp2_with fail
                      refine HG.out.mono ?_
                      rintro e w2 ⟨rfl, q, rfl⟩
                      go_wp2_with fail
                      go_roundw
                      case rel => exact ⟨k + 1, by go_num, by omega, (HQ.out.drewN q).congr fun j _ => prt_same HW.out j⟩
                      case measure => simp [intOf]; omega
                  obtain rfl : k = p.m := by omega
                  have HQ2 := Lib.hid (HQ.out.congr fun j hj => prt_lt hj)
                  clear HQ
                  go_wp2_with fail
                  first | go_end0 | (simp only [Exit.inBlock, Exit.then]; refine bodyPost_ret (results_none rfl _ _ _) rfl ?_) | refine bodyPost_ret (results_none rfl _ _ _) rfl ?_
                  exact ⟨rfl, by rw [HEND.out, ← HV7.out]; exact HQ2.out⟩
end
end Go.Proofs.YtojbicdmcodgdaaDoor.BD
