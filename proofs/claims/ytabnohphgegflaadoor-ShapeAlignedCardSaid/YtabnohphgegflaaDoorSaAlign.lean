

/-
  Align: the program's.
-/
import Derived.Test.YtabnohphgegflaaDoorSaAlignP
import Derived.Test.YtabnohphgegflaaDoorSaFrame
import Derived.Test.YtabnohphgegflaaDoorShOutPlain
namespace Go.Law.Sh
set_option linter.unusedVariables false
/-- the shapes that Align gives -/
def aliE (n c : Nat) (E : Nat → Nat → Int) (S : Nat → Int) (ax md : Int) : Nat → Nat → Int :=
  mvR E S ax (fun j => byA md (lowR (fun j => extA (E (S j).toNat) ax) c) (highR (fun j => extB (E (S j).toNat) ax) c) (extA (E (S j).toNat) ax) (extB (E (S j).toNat) ax)) c
end Go.Law.Sh
namespace Go.Proofs.YtabnohphgegflaaDoor.ShT
open Go.RowKit Go.Law Go.Law.Sh
set_option linter.unusedVariables false
set_option linter.unusedSimpArgs false
set_option maxRecDepth 100000
/-- what comes back: the shapes E', or their error -/
def GivePost (n : Nat) (E' : Nat → Nat → Int) (N : Nat → Nat → ByteArray) (w : World) (e : Ending) (w' : World) : Prop :=
  Below w.heap.size w w' ∧ ((shE n E' ≠ 0 ∧ e = .returned (.tuple #[.slice none 0 0, .int .i64 (shE n E')])) ∨
    (shE n E' = 0 ∧ ∃ v, e = .returned (.tuple #[v, .int .i64 0]) ∧ ShR w' w.heap.size v n E' N))
set_option maxHeartbeats 8000000 in
theorem align_ok (n c ca cb : Nat) (E : Nat → Nat → Int) (N : Nat → Nat → ByteArray) (It : Nat → Int) (side ax md : Int) (a b : Option Addr) (w : World) (ha : ShF w a n E N) (hi : IntsF w b c It) (hn : n ≤ 1000) (hnc : n ≤ ca) (hc : c ≤ cb) (hm : cb ≤ maxLen)
    (hok : togE n E It c 1 = 0) (hs0 : 0 ≤ side) (hs5 : side ≤ 5) (hax : side / 3 = ax) (hmd : side % 3 = md) (ht : Arr w 1) :
    Calls Tryd.prog 10 #[.slice a n ca, .slice b c cb, .int .i64 side] w (GivePost n (aliE n c E (srtF n E It c) ax md) N w) := by
  obtain ⟨hE0, hc1, hall⟩ := togE_zero hok
  have hcn := count_le hall
  have hc0 : 1 ≤ c := by omega
  obtain ⟨b0, off0, rfl, _⟩ := ha (by omega)
  have HAK := Lib.hid (alike_any n c ca cb E N It 1 (some ⟨b0, off0, none⟩) b w ha hi hn hnc hc hm (by omega))
  have HA := Lib.hid ha
  have HT := Lib.hid ht
  have HBX := Lib.hid (show ∀ k, k < n → boxS (E k) from fun k hk => (right_of ((shE_zero hE0).2 k hk)).2.2.1)
  have HSA := Lib.hid (fun j (hj : j < c) => srtF_at hall hj)
  have HOK := Lib.hid hok
  obtain ⟨S, hS⟩ : ∃ S, S = srtF n E It c := ⟨_, rfl⟩
  rw [← hS] at HSA ⊢
  have HSE := Lib.hid hS
  clear ha hi hok hc1 hall hE0 ht hS
  obtain ⟨X, hX⟩ : ∃ X, X = fun j => extA (E (S j).toNat) ax := ⟨_, rfl⟩
  obtain ⟨Y, hY⟩ : ∃ X, X = fun j => extB (E (S j).toNat) ax := ⟨_, rfl⟩
  have HX := Lib.hid (show ∀ j, X j = extA (E (S j).toNat) ax from fun j => by rw [hX])
  have HY := Lib.hid (show ∀ j, Y j = extB (E (S j).toNat) ax from fun j => by rw [hY])
  have HGE := Lib.hid (show aliE n c E S ax md = mvR E S ax (fun j => byA md (lowR X c) (highR Y c) (X j) (Y j)) c by rw [hX, hY]; rfl)
  obtain ⟨BB, hBB⟩ : ∃ BB, BB = fun j => byA md (lowR X c) (highR Y c) (X j) (Y j) := ⟨_, rfl⟩
  have HBBE := Lib.hid (show ∀ j, BB j = byA md (lowR X c) (highR Y c) (X j) (Y j) from fun j => by rw [hBB])
  rw [HGE.out, ← hBB]
  clear hX hY hBB
  have hq : side.tdiv 3 = ax := by rw [Int.tdiv_eq_ediv_of_nonneg hs0]; exact hax
  have hr : side.tmod 3 = md := by rw [Int.tmod_eq_emod_of_nonneg hs0]; exact hmd
  have hqw := IntWalk.i64_in ax (by omega)
  have hrw := IntWalk.i64_in md (by omega)
  have k0 : ¬ side < 0 := by omega
  have k6 : ¬ 6 ≤ side := by omega
  have HMD := Lib.hid (show md = 0 ∨ md = 1 ∨ md = 2 by omega)
  clear hax hmd
  go_enter Tryd.func10, Tryd.ntmps10
  go_wp2_with fail
  refine HAK.out.mono ?_
  rintro e w1 ⟨hb1, ⟨h, _⟩ | ⟨_, v, rfl, hrow⟩⟩
  · exact absurd HOK.out h
  obtain ⟨g, cap, rfl, hgB, hg1, hcap, hcm, hfz, hcx⟩ := RowI.at hrow (by omega)
  clear hcm hfz hcx
  have HR1 := Lib.hid (show RowI w1 w.heap.size 3 1 (.slice (some ⟨g, 0, none⟩) c cap) c S by rw [HSE.out]; exact hrow)
  have HB1 := Lib.hid hb1
  clear hrow hb1 HAK
  have hsz1 := HB1.out.size
  obtain ⟨k, hk, hkn⟩ : ∃ k : Nat, S 0 = (k : Int) ∧ k < n := ⟨(S 0).toNat, by have := HSA.out 0 (by omega); omega, by have := HSA.out 0 (by omega); omega⟩
  obtain ⟨_, _, hv, _, _, _, _, hfz, hcell⟩ := RowI.at HR1.out (by omega)
  cases hv
  clear hfz
  have z0 := hcell 0 (by omega)
  rw [hk] at z0
  have hc00 : 0 < c := by omega
  have hkn2 : (k : Int) < (n : Int) := by omega
  have hk0 : (0 : Int) ≤ (k : Int) := by omega
  obtain ⟨b2, off2, hba2, hcc⟩ := (HA.out.below (Nat.le_refl _) HB1.out) (by omega)
  cases hba2
  obtain ⟨hci, hc10, hc11⟩ := hcc k (by omega)
  have d0 := hci 0 (by omega)
  rw [Nat.add_zero] at d0
  have d1 := hci 1 (by omega)
  have d2 := hci 2 (by omega)
  have d3 := hci 3 (by omega)
  have d4 := hci 4 (by omega)
  have d5 := hci 5 (by omega)
  have d6 := hci 6 (by omega)
  have d7 := hci 7 (by omega)
  have d8 := hci 8 (by omega)
  have d9 := hci 9 (by omega)
  clear hcc hci
  have HK := Lib.hid hk
  clear hcell hk
  go_wp2_with fail
  refine (extent_any k E N ax w1 (HBX.out k hkn) (HT.out.below (Nat.le_refl _) HB1.out)).mono ?_
  rintro e w2 ⟨rfl, hb2⟩
  rw [show extA (E k) ax = X 0 by rw [HX.out, HK.out]; rfl, show extB (E k) ax = Y 0 by rw [HY.out, HK.out]; rfl]
  have HB2 := Lib.hid (HB1.out.trans (hb2.mono hsz1))
  have HR2 := Lib.hid (RowI.below HR1.out hb2 (Nat.le_refl _))
  clear hb2 HR1 HB1 z0 d0 d1 d2 d3 d4 d5 d6 d7 d8 d9 hc10 hc11 hsz1
  have hmax : ∀ x y : Int, (if x < y then y else x) = max x y := fun x y => by omega
  have hmin : ∀ x y : Int, (if y < x then y else x) = min x y := fun x y => by omega
  go_upto_block 0 with fail
  go_cut [10, 11] from 10 to 10 (fun lv hv wx => lv = .int .i64 (lowR X c) ∧ hv = .int .i64 (highR Y c) ∧ Below w.heap.size w wx ∧ RowI wx w.heap.size 3 1 (.slice (some ⟨g, 0, none⟩) c cap) c S)
  case first =>
    go_wp2_with fail
    go_loopw [10, 11, 52] (fun lv hv ix wr => ∃ j : Nat, ix = .int .i64 j ∧ j ≤ c ∧ lv = .int .i64 (lowR X j) ∧ hv = .int .i64 (highR Y j) ∧ Below w.heap.size w wr ∧ RowI wr w.heap.size 3 1 (.slice (some ⟨g, 0, none⟩) c cap) c S) (fun _ _ ix _ => c - (intOf ix).toNat)
    case atStart => exact ⟨0, rfl, by omega, rfl, rfl, HB2.out, HR2.out⟩
    case round =>
      obtain ⟨j, rfl, hj, rfl, rfl, hbel, hrow⟩ := hrel
      have HB := Lib.hid hbel
      have HR := Lib.hid hrow
      have hsz := hbel.size
      clear hbel hrow HB2 HR2
      by_cases h : j < c
      · have hj2 : (j : Int) < (c : Int) := by omega
        obtain ⟨k', hk, hkn'⟩ : ∃ k : Nat, S j = (k : Int) ∧ k < n := ⟨(S j).toNat, by have := HSA.out j (by omega); omega, by have := HSA.out j (by omega); omega⟩
        obtain ⟨_, _, hv, _, _, _, _, hfz, hcell⟩ := RowI.at HR.out (by omega)
        cases hv
        clear hfz
        have z0 := hcell j (by omega)
        rw [hk] at z0
        have hkn3 : (k' : Int) < (n : Int) := by omega
        have hk0' : (0 : Int) ≤ (k' : Int) := by omega
        obtain ⟨b2, off2, hba2, hcc⟩ := (HA.out.below (Nat.le_refl _) HB.out) (by omega)
        cases hba2
        obtain ⟨hci, hc10, hc11⟩ := hcc k' (by omega)
        have d0 := hci 0 (by omega)
        rw [Nat.add_zero] at d0
        have d1 := hci 1 (by omega)
        have d2 := hci 2 (by omega)
        have d3 := hci 3 (by omega)
        have d4 := hci 4 (by omega)
        have d5 := hci 5 (by omega)
        have d6 := hci 6 (by omega)
        have d7 := hci 7 (by omega)
        have d8 := hci 8 (by omega)
        have d9 := hci 9 (by omega)
        clear hcc hci
        have HK' := Lib.hid hk
        clear hcell hk
        go_wp2_with fail
        refine (extent_any k' E N ax wr (HBX.out k' hkn') (HT.out.below (Nat.le_refl _) HB.out)).mono ?_
        rintro e w3 ⟨rfl, hb3⟩
        rw [show extA (E k') ax = X j by rw [HX.out, HK'.out]; rfl, show extB (E k') ax = Y j by rw [HY.out, HK'.out]; rfl]
        have HB3 := Lib.hid (HB.out.trans (hb3.mono hsz))
        have HR3 := Lib.hid (RowI.below HR.out hb3 (Nat.le_refl _))
        clear hb3 z0 d0 d1 d2 d3 d4 d5 d6 d7 d8 d9 hc10 hc11
        go_wp2_with fail
        go_roundw
        case rel => exact ⟨j + 1, by go_num, by omega, rfl, rfl, HB3.out, HR3.out⟩
        case measure => simp [intOf]; omega
      · obtain rfl : j = c := by omega
        have hnn : ¬ (j : Int) < (j : Int) := by omega
        go_wp2_with fail
        go_meet
        exact ⟨rfl, rfl, HB.out, HR.out⟩
  case rest =>
  obtain ⟨rfl, rfl, hbel, hrow⟩ := hcut
  obtain ⟨wa, rfl⟩ : ∃ v : World, v = wc := ⟨_, rfl⟩
  have HBA := Lib.hid hbel
  have HRA := Lib.hid hrow
  have hsza := hbel.size
  clear hbel hrow HB2 HR2
  have HCL := Lib.hid (clone_any n E N (some ⟨b0, off0, none⟩) ca wa (HA.out.below (Nat.le_refl _) HBA.out) (by omega) hn)
  go_wp2_with fail
  refine HCL.out.mono ?_
  rintro e wb ⟨hbb, v, rfl, hrow⟩
  obtain ⟨o, oc, rfl, hoB, hob, _, _, hfz, hcx⟩ := RowV.at hrow (by omega)
  have HBB := Lib.hid (HBA.out.trans (hbb.mono hsza))
  have HRB := Lib.hid (RowI.below HRA.out hbb (Nat.le_refl _))
  have HGO := Lib.hid (show g < o ∧ w.heap.size ≤ o from by
    obtain ⟨_, _, hv, _, hlt, _, _, _, _⟩ := RowI.at HRA.out (by omega)
    cases hv
    exact ⟨by omega, by omega⟩)
  have HOB := Lib.hid (show ShR wb w.heap.size (.slice (some ⟨o, 0, none⟩) n oc) n E N from RowV.mono hrow hsza)
  obtain ⟨col, hcol⟩ : ∃ col : Nat, col = if ax = 0 then 3 else 4 := ⟨_, rfl⟩
  have hcol10 : col < 10 := by rw [hcol]; split <;> omega
  have HCOL := Lib.hid hcol
  obtain ⟨lo, hlo⟩ : ∃ l, l = lowR X c := ⟨_, rfl⟩
  obtain ⟨hi, hhi⟩ : ∃ l, l = highR Y c := ⟨_, rfl⟩
  rw [← hlo, ← hhi] at HBBE
  rw [← hlo, ← hhi]
  clear hbb hrow hfz hcx HBA HRA HCL hcol hmax hmin hlo hhi
  go_upto_block 2 with fail
  go_cut [] from 77 to 77 (fun wx => Below w.heap.size w wx ∧ ShR wx w.heap.size (.slice (some ⟨o, 0, none⟩) n oc) n (mvR E S ax BB c) N)
  case first =>
    go_wp2_with fail
    go_loopw [77] (fun ix wr => ∃ j : Nat, ix = .int .i64 j ∧ j ≤ c ∧ Below w.heap.size w wr ∧ RowI wr w.heap.size 3 1 (.slice (some ⟨g, 0, none⟩) c cap) c S ∧ ShR wr w.heap.size (.slice (some ⟨o, 0, none⟩) n oc) n (mvR E S ax BB j) N) (fun ix _ => c - (intOf ix).toNat)
    case atStart => exact ⟨0, rfl, by omega, HBB.out, HRB.out, HOB.out⟩
    case round =>
      obtain ⟨j, rfl, hj, hbel, hrow, hso⟩ := hrel
      have HB := Lib.hid hbel
      have HR := Lib.hid hrow
      have HO := Lib.hid hso
      have hsz := hbel.size
      clear hbel hrow hso HBB HRB HOB
      by_cases h : j < c
      · have hj2 : (j : Int) < (c : Int) := by omega
        obtain ⟨k', hk, hkn'⟩ : ∃ k : Nat, S j = (k : Int) ∧ k < n := ⟨(S j).toNat, by have := HSA.out j (by omega); omega, by have := HSA.out j (by omega); omega⟩
        obtain ⟨_, _, hv, _, _, _, _, hfz, hcell⟩ := RowI.at HR.out (by omega)
        cases hv
        have z0 := hcell j (by omega)
        rw [hk] at z0
        have hkn3 : (k' : Int) < (n : Int) := by omega
        have hk0' : (0 : Int) ≤ (k' : Int) := by omega
        obtain ⟨b2, off2, hba2, hcc⟩ := (HA.out.below (Nat.le_refl _) HB.out) (by omega)
        cases hba2
        obtain ⟨hci, hc10, hc11⟩ := hcc k' (by omega)
        have d0 := hci 0 (by omega)
        rw [Nat.add_zero] at d0
        have d1 := hci 1 (by omega)
        have d2 := hci 2 (by omega)
        have d3 := hci 3 (by omega)
        have d4 := hci 4 (by omega)
        have d5 := hci 5 (by omega)
        have d6 := hci 6 (by omega)
        have d7 := hci 7 (by omega)
        have d8 := hci 8 (by omega)
        have d9 := hci 9 (by omega)
        clear hcc hci
        have HK' := Lib.hid (show (S j).toNat = k' by rw [hk]; rfl)
        clear hcell hk hfz
        go_wp2_with fail
        refine (extent_any k' E N ax wr (HBX.out k' hkn') (HT.out.below (Nat.le_refl _) HB.out)).mono ?_
        rintro e w3 ⟨rfl, hb3⟩
        rw [show extA (E k') ax = X j by rw [HX.out, HK'.out], show extB (E k') ax = Y j by rw [HY.out, HK'.out]]
        have HB3 := Lib.hid (HB.out.trans (hb3.mono hsz))
        have HR3 := Lib.hid (RowI.below HR.out hb3 (Nat.le_refl _))
        have HO3 := Lib.hid (show ShR w3 w.heap.size (.slice (some ⟨o, 0, none⟩) n oc) n (mvR E S ax BB j) N from RowV.below HO.out hb3 (Nat.le_refl _))
        clear hb3 z0 d0 d1 d2 d3 d4 d5 d6 d7 d8 d9 hc10 hc11
        obtain ⟨xj, hxj⟩ : ∃ x, x = X j := ⟨_, rfl⟩
        obtain ⟨yj, hyj⟩ : ∃ x, x = Y j := ⟨_, rfl⟩
        have HBJ0 := HBBE.out j
        rw [← hxj, ← hyj] at HBJ0
        have HBJ1 := Lib.hid HBJ0
        rw [← hxj, ← hyj]
        clear hxj hyj HBJ0
        rcases HMD.out with h0 | h0 | h0
        · have HBJ := Lib.hid (show BB j = wrap64 (lo - xj) by rw [HBJ1.out]; unfold byA; rw [if_pos h0])
          have f0 : (md == 0) = true := by simpa using h0
          clear h0
          go_wp2_with fail
          skip
          obtain ⟨_, _, hv, _, _, _, _, hfz, hcl⟩ := RowV.at HO3.out (by omega)
          cases hv
          have hx := hcl k' hkn' col (by omega)
          have hxv : shV (mvR E S ax BB j) N k' col = .int .i64 (mvR E S ax BB j k' col) := by unfold shV; rw [if_pos (by omega)]
          rw [hxv] at hx
          have hfx := hfz (k' * 12 + col)
          have HMV := Lib.hid (move_any o (k' * 12) ax (mvR E S ax BB j k' col) (BB j) col w3 HCOL.out hx hfx)
          clear hfz hcl hx hfx hxv
          rw [HBJ.out] at HMV
          go_wp2_with fail
          refine HMV.out.mono ?_
          rintro e w4 ⟨rfl, rfl⟩
          have HO4 := Lib.hid (ShR.mov HO3.out hkn' ax (BB j) col HCOL.out)
          have HR4 := Lib.hid (RowI.other HR3.out (a := ⟨o, k' * 12 + col, none⟩) (by simp [Value.ownBlock]; have := HGO.out; omega) (.int .i64 (wrap64 (mvR E S ax BB j k' col + BB j))))
          have HB4 := Lib.hid (show Below w.heap.size w (w3.setCell ⟨o, k' * 12 + col, none⟩ (.int .i64 (wrap64 (mvR E S ax BB j k' col + BB j)))) from HB3.out.setCell (by have := HGO.out; simp; omega) _)
          rw [HBJ.out] at HO4 HR4 HB4
          clear HMV
          go_wp2_with fail
          go_roundw
          case rel => exact ⟨j + 1, by go_num, by omega, HB4.out, HR4.out, by
            show ShR _ _ _ n (movE (mvR E S ax BB j) (S j).toNat ax (BB j)) N
            rw [HK'.out, HBJ.out]
            exact HO4.out⟩
          case measure => simp [intOf]; omega
        · have HBJ := Lib.hid (show BB j = rnd (wrap64 (wrap64 (wrap64 (lo + hi) - xj) - yj)) 2 by rw [HBJ1.out]; unfold byA; rw [if_neg (by omega), if_pos h0])
          have f0 : (md == 0) = false := by simp; omega
          have f1 : (md == 1) = true := by simpa using h0
          clear h0
          go_wp2_with fail
          (refine (round_any _ 2 w3 (by omega)).mono ?_; rintro e wq ⟨rfl, rfl⟩)
          obtain ⟨_, _, hv, _, _, _, _, hfz, hcl⟩ := RowV.at HO3.out (by omega)
          cases hv
          have hx := hcl k' hkn' col (by omega)
          have hxv : shV (mvR E S ax BB j) N k' col = .int .i64 (mvR E S ax BB j k' col) := by unfold shV; rw [if_pos (by omega)]
          rw [hxv] at hx
          have hfx := hfz (k' * 12 + col)
          have HMV := Lib.hid (move_any o (k' * 12) ax (mvR E S ax BB j k' col) (BB j) col w3 HCOL.out hx hfx)
          clear hfz hcl hx hfx hxv
          rw [HBJ.out] at HMV
          go_wp2_with fail
          refine HMV.out.mono ?_
          rintro e w4 ⟨rfl, rfl⟩
          have HO4 := Lib.hid (ShR.mov HO3.out hkn' ax (BB j) col HCOL.out)
          have HR4 := Lib.hid (RowI.other HR3.out (a := ⟨o, k' * 12 + col, none⟩) (by simp [Value.ownBlock]; have := HGO.out; omega) (.int .i64 (wrap64 (mvR E S ax BB j k' col + BB j))))
          have HB4 := Lib.hid (show Below w.heap.size w (w3.setCell ⟨o, k' * 12 + col, none⟩ (.int .i64 (wrap64 (mvR E S ax BB j k' col + BB j)))) from HB3.out.setCell (by have := HGO.out; simp; omega) _)
          rw [HBJ.out] at HO4 HR4 HB4
          clear HMV
          go_wp2_with fail
          go_roundw
          case rel => exact ⟨j + 1, by go_num, by omega, HB4.out, HR4.out, by
            show ShR _ _ _ n (movE (mvR E S ax BB j) (S j).toNat ax (BB j)) N
            rw [HK'.out, HBJ.out]
            exact HO4.out⟩
          case measure => simp [intOf]; omega
        · have HBJ := Lib.hid (show BB j = wrap64 (hi - yj) by rw [HBJ1.out]; unfold byA; rw [if_neg (by omega), if_neg (by omega)])
          have f0 : (md == 0) = false := by simp; omega
          have f1 : (md == 1) = false := by simp; omega
          clear h0
          go_wp2_with fail
          skip
          obtain ⟨_, _, hv, _, _, _, _, hfz, hcl⟩ := RowV.at HO3.out (by omega)
          cases hv
          have hx := hcl k' hkn' col (by omega)
          have hxv : shV (mvR E S ax BB j) N k' col = .int .i64 (mvR E S ax BB j k' col) := by unfold shV; rw [if_pos (by omega)]
          rw [hxv] at hx
          have hfx := hfz (k' * 12 + col)
          have HMV := Lib.hid (move_any o (k' * 12) ax (mvR E S ax BB j k' col) (BB j) col w3 HCOL.out hx hfx)
          clear hfz hcl hx hfx hxv
          rw [HBJ.out] at HMV
          go_wp2_with fail
          refine HMV.out.mono ?_
          rintro e w4 ⟨rfl, rfl⟩
          have HO4 := Lib.hid (ShR.mov HO3.out hkn' ax (BB j) col HCOL.out)
          have HR4 := Lib.hid (RowI.other HR3.out (a := ⟨o, k' * 12 + col, none⟩) (by simp [Value.ownBlock]; have := HGO.out; omega) (.int .i64 (wrap64 (mvR E S ax BB j k' col + BB j))))
          have HB4 := Lib.hid (show Below w.heap.size w (w3.setCell ⟨o, k' * 12 + col, none⟩ (.int .i64 (wrap64 (mvR E S ax BB j k' col + BB j)))) from HB3.out.setCell (by have := HGO.out; simp; omega) _)
          rw [HBJ.out] at HO4 HR4 HB4
          clear HMV
          go_wp2_with fail
          go_roundw
          case rel => exact ⟨j + 1, by go_num, by omega, HB4.out, HR4.out, by
            show ShR _ _ _ n (movE (mvR E S ax BB j) (S j).toNat ax (BB j)) N
            rw [HK'.out, HBJ.out]
            exact HO4.out⟩
          case measure => simp [intOf]; omega
      · obtain rfl : j = c := by omega
        have hnn : ¬ (j : Int) < (j : Int) := by omega
        go_wp2_with fail
        go_meet
        exact ⟨HB.out, HO.out⟩
  case rest =>
  obtain ⟨hbel, hso⟩ := hcut
  obtain ⟨wf, rfl⟩ : ∃ v : World, v = wc := ⟨_, rfl⟩
  have HB := Lib.hid hbel
  have HO := Lib.hid hso
  have hszf := hbel.size
  obtain ⟨E', hE'⟩ : ∃ E', E' = mvR E S ax BB c := ⟨_, rfl⟩
  rw [← hE'] at HO
  have HEE := Lib.hid hE'
  obtain ⟨_, _, hv, _, _, hnoc, _, hfz, hcl⟩ := RowV.at hso (by omega)
  cases hv
  have HCK := Lib.hid (check_any n E' N (some ⟨o, 0, none⟩) oc wf (ShR.shF HO.out) (by omega) hnoc)
  clear hbel hso hE' hfz hcl HBB HRB HOB
  go_wp2_with fail
  refine HCK.out.mono ?_
  rintro e wg ⟨rfl, hbg⟩
  have HBG := Lib.hid (HB.out.trans (hbg.mono hszf))
  have HOG := Lib.hid (show ShR wg w.heap.size (.slice (some ⟨o, 0, none⟩) n oc) n E' N from RowV.below HO.out hbg (Nat.le_refl _))
  clear hbg HCK
  by_cases hz : shE n E' = 0
  · have HZ := Lib.hid hz
    rw [hz]
    clear hz
    go_wp2_with fail
    go_ret2
    exact ⟨HBG.out, .inr ⟨by rw [← HEE.out]; exact HZ.out, _, rfl, by rw [← HEE.out]; exact HOG.out⟩⟩
  · obtain ⟨V, hV⟩ : ∃ V, V = shE n E' := ⟨_, rfl⟩
    have g1 : (V != 0) = true := by rw [hV]; simpa using hz
    have HV := Lib.hid hV
    have HZ := Lib.hid hz
    rw [← hV]
    clear hV hz
    go_wp2_with fail
    go_ret2
    exact ⟨HBG.out, .inl ⟨by rw [← HEE.out]; exact HZ.out, by rw [← HEE.out, ← HV.out]; rfl⟩⟩
end Go.Proofs.YtabnohphgegflaaDoor.ShT
