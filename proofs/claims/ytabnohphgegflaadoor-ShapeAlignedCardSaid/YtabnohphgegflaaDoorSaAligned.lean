

/-
  aligned: the reference's.
-/
import Derived.Test.YtabnohphgegflaaDoorSaAlign
import Derived.Test.YtabnohphgegflaaDoorSaFrameR
import Derived.Test.YtabnohphgegflaaDoorSaTog
import Derived.Test.YtabnohphgegflaaDoorSaMoved
import Derived.Test.YtabnohphgegflaaDoorSaSame
import Derived.Test.YtabnohphgegflaaDoorIn
import Derived.Test.YtabnohphgegflaaDoorParts
namespace Go.Law.Sh
open Go.RowKit Go.Law
set_option linter.unusedVariables false
theorem ali_eq {n c : Nat} {E : Nat → Nat → Int} {A B : Nat → Int} {ax md : Int} (h : PermF c A B) (hc : 0 < c) (hA : ∀ a b, a < b → b < c → A a ≠ A b) (hB : ∀ a b, a < b → b < c → B a ≠ B b) (hA0 : ∀ a, a < c → 0 ≤ A a) (hB0 : ∀ a, a < c → 0 ≤ B a) :
    aliE n c E A ax md = aliE n c E B ax md := by
  unfold aliE
  have e1 := lowR_perm (fun p => extA (E p.toNat) ax) h hc
  have e2 := highR_perm (fun p => extB (E p.toNat) ax) h hc
  rw [e1, e2]
  exact mvR_perm (K := fun p => byA md (lowR (fun j => extA (E (B j).toNat) ax) c) (highR (fun j => extB (E (B j).toNat) ax) c) (extA (E p.toNat) ax) (extB (E p.toNat) ax)) h hA hB hA0 hB0
end Go.Law.Sh
namespace Go.Proofs.YtabnohphgegflaaDoor.ShT
open Go.RowKit Go.Law Go.Law.Sh
set_option linter.unusedVariables false
set_option linter.unusedSimpArgs false
set_option maxRecDepth 100000
def TrueB (w : World) (e : Ending) (w' : World) : Prop := e = .returned (.bool true) ∧ Below w.heap.size w w'
section
variable (n c ca cb : Nat) (E : Nat → Nat → Int) (N : Nat → Nat → ByteArray) (It : Nat → Int) (side : Int) (a b : Option Addr) (w : World) (ha : ShF w a n E N) (hi : IntsF w b c It) (hn : n ≤ 1000) (hnc : n ≤ ca) (hc : c ≤ cb) (hm : cb ≤ maxLen)
include ha hi hn hnc hc hm
set_option maxHeartbeats 4000000 in
theorem aligned_err (hbad : togE n E It c 1 ≠ 0) : Calls Tryd.prog 11 #[.slice a n ca, .slice b c cb, .int .i64 side, .slice none 0 0, .int .i64 (togE n E It c 1)] w (TrueB w) := by
  have HAK := Lib.hid (together_any n c ca cb E N It 1 a b w ha hi hn hnc hc hm)
  obtain ⟨V, hV⟩ : ∃ V, V = togE n E It c 1 := ⟨_, rfl⟩
  have g1 : (V != 0) = true := by rw [hV]; simpa using hbad
  have g2 : (V == V) = true := by simp
  have g3 : (V == 0) = false := by rw [hV]; simpa using hbad
  rw [← hV] at HAK ⊢
  clear ha hi hbad hV
  go_enter Tryd.func11, Tryd.ntmps11
  go_wp2_with fail
  refine HAK.out.mono ?_
  rintro e w1 ⟨rfl, hb1⟩
  have HB := Lib.hid hb1
  clear hb1
  go_wp2_with fail
  go_ret
  exact ⟨rfl, HB.out⟩
set_option maxHeartbeats 4000000 in
theorem aligned_arg (hok : togE n E It c 1 = 0) (hs : side < 0 ∨ 6 ≤ side) : Calls Tryd.prog 11 #[.slice a n ca, .slice b c cb, .int .i64 side, .slice none 0 0, .int .i64 1] w (TrueB w) := by
  have HAK := Lib.hid (together_any n c ca cb E N It 1 a b w ha hi hn hnc hc hm)
  rw [hok] at HAK
  have HIN := Lib.hid (show Ref.inB side 0 5 = false by rw [Ref.inB_false]; omega)
  clear ha hi hok hs
  go_enter Tryd.func11, Tryd.ntmps11
  go_wp2_with fail
  refine HAK.out.mono ?_
  rintro e w1 ⟨rfl, hb1⟩
  have HB := Lib.hid hb1
  clear hb1
  go_wp2_with fail
  refine (Ref.in_any side 0 5 w1).mono ?_
  rintro e w2 ⟨rfl, rfl⟩
  rw [HIN.out]
  go_wp2_with fail
  go_ret
  exact ⟨rfl, HB.out⟩
end
set_option maxHeartbeats 8000000 in
theorem aligned_ok (n c ca cb : Nat) (E : Nat → Nat → Int) (N : Nat → Nat → ByteArray) (It : Nat → Int) (side ax md : Int) (a b : Option Addr) (w : World) (ha : ShF w a n E N) (hi : IntsF w b c It) (hn : n ≤ 1000) (hnc : n ≤ ca) (hc : c ≤ cb) (hm : cb ≤ maxLen)
    (hok : togE n E It c 1 = 0) (hs0 : 0 ≤ side) (hs5 : side ≤ 5) (hax : side / 3 = ax) (hmd : side % 3 = md) (ht : Arr w 6)
    (rv : Value) (re : Int)
    (hres : (shE n (aliE n c E (posF n E It) ax md) ≠ 0 ∧ rv = .slice none 0 0 ∧ re = shE n (aliE n c E (posF n E It) ax md)) ∨ (shE n (aliE n c E (posF n E It) ax md) = 0 ∧ re = 0 ∧ ∃ al cl, rv = .slice al n cl ∧ n ≤ cl ∧ ShF w al n (aliE n c E (posF n E It) ax md) N)) :
    Calls Tryd.prog 11 #[.slice a n ca, .slice b c cb, .int .i64 side, rv, .int .i64 re] w (TrueB w) := by
  obtain ⟨hE0, hc1, hall⟩ := togE_zero hok
  have hcn := count_le hall
  have hc0 : 1 ≤ c := by omega
  obtain ⟨b0, off0, rfl, _⟩ := ha (by omega)
  have HAK := Lib.hid (together_any n c ca cb E N It 1 (some ⟨b0, off0, none⟩) b w ha hi hn hnc hc hm)
  rw [hok] at HAK
  have HIN := Lib.hid (show Ref.inB side 0 5 = true by rw [Ref.inB_true]; omega)
  have HA := Lib.hid ha
  have HI := Lib.hid hi
  have HT := Lib.hid ht
  have HRI := Lib.hid (show ∀ k, k < n → Right E k from fun k hk => right_of ((shE_zero hE0).2 k hk))
  have HALL := Lib.hid hall
  obtain ⟨X, hX⟩ : ∃ X, X = fun j => extA (E (posF n E It j).toNat) ax := ⟨_, rfl⟩
  obtain ⟨Y, hY⟩ : ∃ X, X = fun j => extB (E (posF n E It j).toNat) ax := ⟨_, rfl⟩
  have HX := Lib.hid (show ∀ j, X j = extA (E (posF n E It j).toNat) ax from fun j => by rw [hX])
  have HY := Lib.hid (show ∀ j, Y j = extB (E (posF n E It j).toNat) ax from fun j => by rw [hY])
  have hge : aliE n c E (posF n E It) ax md = mvR E (posF n E It) ax (fun j => byA md (lowR X c) (highR Y c) (X j) (Y j)) c := by rw [hX, hY]; rfl
  obtain ⟨BB, hBB⟩ : ∃ BB, BB = fun j => byA md (lowR X c) (highR Y c) (X j) (Y j) := ⟨_, rfl⟩
  have HBBE := Lib.hid (show ∀ j, BB j = byA md (lowR X c) (highR Y c) (X j) (Y j) from fun j => by rw [hBB])
  rw [hge, ← hBB] at hres
  have HRES := Lib.hid hres
  clear ha hi hok hc1 hall hE0 ht hX hY hBB hge hres
  have hq : side.tdiv 3 = ax := by rw [Int.tdiv_eq_ediv_of_nonneg hs0]; exact hax
  have hr : side.tmod 3 = md := by rw [Int.tmod_eq_emod_of_nonneg hs0]; exact hmd
  have hqw := IntWalk.i64_in ax (by omega)
  have hrw := IntWalk.i64_in md (by omega)
  have HMD := Lib.hid (show md = 0 ∨ md = 1 ∨ md = 2 by omega)
  have HHMB := Lib.hid hm
  clear hax hmd
  go_enter Tryd.func11, Tryd.ntmps11
  go_wp2_with fail
  refine HAK.out.mono ?_
  rintro e w1 ⟨rfl, hb1⟩
  have HB1 := Lib.hid hb1
  clear hb1 HAK
  go_wp2_with fail
  refine (Ref.in_any side 0 5 w1).mono ?_
  rintro e w2 ⟨rfl, rfl⟩
  rw [HIN.out]
  have hc00 : 0 < c := by omega
  obtain ⟨b1, o1, rfl, hcell⟩ := (HI.out.below (Nat.le_refl _) HB1.out) (by omega)
  have z0 := hcell 0 (by omega)
  rw [Nat.add_zero] at z0
  clear hcell
  go_wp2_with fail
  have HKw2 := Lib.hid (show findV n E (It 0) = (pos n E It 0 : Nat) ∧ pos n E It 0 < n from ⟨(pos_find (ok_bad (HALL.out 0 (by omega))).1).1, (pos_find (ok_bad (HALL.out 0 (by omega))).1).2.1⟩)
  obtain ⟨kw2, hkw2⟩ : ∃ k, k = pos n E It 0 := ⟨_, rfl⟩
  rw [← hkw2] at HKw2
  have hknw2 : kw2 < n := HKw2.out.2
  have HPw2 := Lib.hid (show (posF n E It 0).toNat = kw2 by rw [hkw2]; rfl)
  clear hkw2
  have hkmw2 : (kw2 : Int) < (n : Int) := by omega
  have hk0w2 : (0 : Int) ≤ (kw2 : Int) := by omega
  refine (shapeAt_any n E N _ _ ca w1 (HA.out.below (Nat.le_refl _) HB1.out) (by omega)).mono ?_
  rintro e w2 ⟨rfl, hbs⟩
  rw [HKw2.out.1]
  have HBS := Lib.hid ((HB1.out).trans (hbs.mono (HB1.out).size))
  obtain ⟨b2, off2, hba2, hcc⟩ := (HA.out.below (Nat.le_refl _) HBS.out) (by omega)
  cases hba2
  obtain ⟨hci, hc10, hc11⟩ := hcc kw2 (by omega)
  have d0 := hci 0 (by omega)
  rw [Nat.add_zero] at d0
  have d1 := hci 1 (by omega)
  have d2 := hci 2 (by omega)
  have d3 := hci 3 (by omega)
  have d4 := hci 4 (by omega)
  have d5 := hci 5 (by omega)
  have d6 := hci 6 (by omega)
  have d7 := hci 7 (by omega)
  have d8 := hci 8 (by omega)
  have d9 := hci 9 (by omega)
  clear hcc hci
  have HSS := Lib.hid hbs
  clear hbs
  go_wp2_with fail
  refine (ends_any kw2 E N ax w2 (HRI.out kw2 hknw2) (HT.out.below (Nat.le_refl _) HBS.out)).mono ?_
  rintro e w3 ⟨rfl, hbx⟩
  rw [show extA (E kw2) ax = X 0 by rw [HX.out, HPw2.out], show extB (E kw2) ax = Y 0 by rw [HY.out, HPw2.out]]
  have HB3 := Lib.hid (HBS.out.trans (hbx.mono HBS.out.size))
  clear hbx z0 d0 d1 d2 d3 d4 d5 d6 d7 d8 d9 hc10 hc11 HBS HB1 hkmw2 hk0w2
  have hmax : ∀ x y : Int, (if x < y then y else x) = max x y := fun x y => by omega
  have hmin : ∀ x y : Int, (if y < x then y else x) = min x y := fun x y => by omega
  go_upto_block 0 with fail
  go_cut [12, 13] from 12 to 12 (fun lv hv wx => lv = .int .i64 (lowR X c) ∧ hv = .int .i64 (highR Y c) ∧ Below w.heap.size w wx)
  case first =>
    go_wp2_with fail
    go_loopw [12, 13, 60] (fun lv hv ix wr => ∃ j : Nat, ix = .int .i64 j ∧ j ≤ c ∧ lv = .int .i64 (lowR X j) ∧ hv = .int .i64 (highR Y j) ∧ Below w.heap.size w wr) (fun _ _ ix _ => c - (intOf ix).toNat)
    case atStart => exact ⟨0, rfl, by omega, rfl, rfl, HB3.out⟩
    case round =>
      obtain ⟨j, rfl, hj, rfl, rfl, hbel⟩ := hrel
      have HB := Lib.hid hbel
      clear hbel HB3
      by_cases h : j < c
      · have hj2 : (j : Int) < (c : Int) := by omega
        obtain ⟨b1', o1', he, hcell⟩ := (HI.out.below (Nat.le_refl _) HB.out) (by omega)
        cases he
        have z0 := hcell j (by omega)
        clear hcell
        go_wp2_with fail
        have HKw4 := Lib.hid (show findV n E (It j) = (pos n E It j : Nat) ∧ pos n E It j < n from ⟨(pos_find (ok_bad (HALL.out j (by omega))).1).1, (pos_find (ok_bad (HALL.out j (by omega))).1).2.1⟩)
        obtain ⟨kw4, hkw4⟩ : ∃ k, k = pos n E It j := ⟨_, rfl⟩
        rw [← hkw4] at HKw4
        have hknw4 : kw4 < n := HKw4.out.2
        have HPw4 := Lib.hid (show (posF n E It j).toNat = kw4 by rw [hkw4]; rfl)
        clear hkw4
        have hkmw4 : (kw4 : Int) < (n : Int) := by omega
        have hk0w4 : (0 : Int) ≤ (kw4 : Int) := by omega
        refine (shapeAt_any n E N _ _ ca wr (HA.out.below (Nat.le_refl _) HB.out) (by omega)).mono ?_
        rintro e w4 ⟨rfl, hbs⟩
        rw [HKw4.out.1]
        have HBS := Lib.hid ((HB.out).trans (hbs.mono (HB.out).size))
        obtain ⟨b2, off2, hba2, hcc⟩ := (HA.out.below (Nat.le_refl _) HBS.out) (by omega)
        cases hba2
        obtain ⟨hci, hc10, hc11⟩ := hcc kw4 (by omega)
        have d0 := hci 0 (by omega)
        rw [Nat.add_zero] at d0
        have d1 := hci 1 (by omega)
        have d2 := hci 2 (by omega)
        have d3 := hci 3 (by omega)
        have d4 := hci 4 (by omega)
        have d5 := hci 5 (by omega)
        have d6 := hci 6 (by omega)
        have d7 := hci 7 (by omega)
        have d8 := hci 8 (by omega)
        have d9 := hci 9 (by omega)
        clear hcc hci
        have HSS := Lib.hid hbs
        clear hbs
        go_wp2_with fail
        refine (ends_any kw4 E N ax w4 (HRI.out kw4 hknw4) (HT.out.below (Nat.le_refl _) HBS.out)).mono ?_
        rintro e w5 ⟨rfl, hbx⟩
        rw [show extA (E kw4) ax = X j by rw [HX.out, HPw4.out], show extB (E kw4) ax = Y j by rw [HY.out, HPw4.out]]
        have HB5 := Lib.hid (HBS.out.trans (hbx.mono HBS.out.size))
        clear hbx z0 d0 d1 d2 d3 d4 d5 d6 d7 d8 d9 hc10 hc11 HBS
        go_wp2_with fail
        go_roundw
        case rel => exact ⟨j + 1, by go_num, by omega, rfl, rfl, HB5.out⟩
        case measure => simp [intOf]; omega
      · obtain rfl : j = c := by omega
        have hnn : ¬ (j : Int) < (j : Int) := by omega
        go_wp2_with fail
        go_meet
        exact ⟨rfl, rfl, HB.out⟩
  case rest =>
  obtain ⟨rfl, rfl, hbel⟩ := hcut
  obtain ⟨wa, rfl⟩ : ∃ v : World, v = wc := ⟨_, rfl⟩
  have HBA := Lib.hid hbel
  have hsza := hbel.size
  clear hbel HB3 hmax hmin
  have hown := World.ownsRow_nil wa w.heap.size 30 12
  obtain ⟨ii, hii, hz0, hz1, hz2⟩ := info_parts shape_info
  have HAA := Lib.hid (HA.out.below (Nat.le_refl _) HBA.out)
  go_upto_region 13 with fail
  go_wp2_with (at_builtin; go_loud (refine wpList_append_own _ rfl _ _ 28 rfl w.heap.size 30 ii (.agg #[.int .i64 0, .int .i64 0, .int .i64 0, .int .i64 0, .int .i64 0, .int .i64 0, .int .i64 0, .int .i64 0, .int .i64 0, .int .i64 0, .string ⟨#[]⟩, .string ⟨#[]⟩]) 12 112 Tryd.underlying28 hii hz0 hz1 hz2 rfl (by decide) _ _ _ rfl hown ⟨b0, off0, none⟩ n ca (shL n E N) rfl (shL_len n E N) ?c1 ?c2 ?c3 ?c4 ?c5 ?_))
  case c1 =>
    intro j u hj
    have hj1 := (List.getElem?_eq_some_iff.1 hj).1
    rw [shL_len] at hj1
    rw [shL_get hj1] at hj
    obtain rfl := Option.some.inj hj
    exact ShF.cells HAA.out hj1
  case c2 => exact shL_one
  case c3 => unfold maxLen; omega
  case c4 => omega
  case c5 => omega
  intro v' wb hown' hgrow _
  have hrow : ShR wb w.heap.size v' n E N := by
    refine ⟨_, by simpa using hown', fun i hi j hj => ?_⟩
    exact shL_row hi hj
  have HBB := Lib.hid (show Below w.heap.size w wb from HBA.out.grown hgrow hsza (fun k hk => by simp [Value.ownBlock] at hk))
  obtain ⟨o, oc, rfl, hoB, hob, hnoc, _, hfz, hcx⟩ := RowV.at hrow (by omega)
  have HOB := Lib.hid hoB
  have HO := Lib.hid hrow
  have HNOC := Lib.hid hnoc
  obtain ⟨lo, hhlo⟩ : ∃ l, l = lowR X c := ⟨_, rfl⟩
  obtain ⟨hi, hhhi⟩ : ∃ l, l = highR Y c := ⟨_, rfl⟩
  have HLO := Lib.hid hhlo
  have HHI := Lib.hid hhhi
  rw [← hhlo, ← hhhi]
  clear hown hown' hgrow hrow hii hz0 hz1 hz2 hfz hcx hoB hnoc hhlo hhhi HAA
  go_upto_block 2 with fail
  go_cut [] from 87 to 87 (fun wx => Below w.heap.size w wx ∧ ShR wx w.heap.size (.slice (some ⟨o, 0, none⟩) n oc) n (mvR E (posF n E It) ax BB c) N)
  case first =>
    go_wp2_with fail
    go_loopw [87] (fun ix wr => ∃ j : Nat, ix = .int .i64 j ∧ j ≤ c ∧ Below w.heap.size w wr ∧ ShR wr w.heap.size (.slice (some ⟨o, 0, none⟩) n oc) n (mvR E (posF n E It) ax BB j) N) (fun ix _ => c - (intOf ix).toNat)
    case atStart => exact ⟨0, rfl, by omega, HBB.out, HO.out⟩
    case round =>
      obtain ⟨j, rfl, hj, hbel, hso⟩ := hrel
      have HB := Lib.hid hbel
      have HOR := Lib.hid hso
      clear hbel hso HBB HO
      by_cases h : j < c
      · have hj2 : (j : Int) < (c : Int) := by omega
        obtain ⟨b1', o1', he, hcell⟩ := (HI.out.below (Nat.le_refl _) HB.out) (by omega)
        cases he
        have z0 := hcell j (by omega)
        clear hcell
        go_wp2_with fail
        have HKw4 := Lib.hid (show findV n E (It j) = (pos n E It j : Nat) ∧ pos n E It j < n from ⟨(pos_find (ok_bad (HALL.out j (by omega))).1).1, (pos_find (ok_bad (HALL.out j (by omega))).1).2.1⟩)
        obtain ⟨kw4, hkw4⟩ : ∃ k, k = pos n E It j := ⟨_, rfl⟩
        rw [← hkw4] at HKw4
        have hknw4 : kw4 < n := HKw4.out.2
        have HPw4 := Lib.hid (show (posF n E It j).toNat = kw4 by rw [hkw4]; rfl)
        clear hkw4
        have hkmw4 : (kw4 : Int) < (n : Int) := by omega
        have hk0w4 : (0 : Int) ≤ (kw4 : Int) := by omega
        refine (shapeAt_any n E N _ _ ca wr (HA.out.below (Nat.le_refl _) HB.out) (by omega)).mono ?_
        rintro e w4 ⟨rfl, hbs⟩
        rw [HKw4.out.1]
        have HBS := Lib.hid ((HB.out).trans (hbs.mono (HB.out).size))
        obtain ⟨b2, off2, hba2, hcc⟩ := (HA.out.below (Nat.le_refl _) HBS.out) (by omega)
        cases hba2
        obtain ⟨hci, hc10, hc11⟩ := hcc kw4 (by omega)
        have d0 := hci 0 (by omega)
        rw [Nat.add_zero] at d0
        have d1 := hci 1 (by omega)
        have d2 := hci 2 (by omega)
        have d3 := hci 3 (by omega)
        have d4 := hci 4 (by omega)
        have d5 := hci 5 (by omega)
        have d6 := hci 6 (by omega)
        have d7 := hci 7 (by omega)
        have d8 := hci 8 (by omega)
        have d9 := hci 9 (by omega)
        clear hcc hci
        have HSS := Lib.hid hbs
        clear hbs
        go_wp2_with fail
        refine (ends_any kw4 E N ax w4 (HRI.out kw4 hknw4) (HT.out.below (Nat.le_refl _) HBS.out)).mono ?_
        rintro e w5 ⟨rfl, hbx⟩
        rw [show extA (E kw4) ax = X j by rw [HX.out, HPw4.out], show extB (E kw4) ax = Y j by rw [HY.out, HPw4.out]]
        have HB5 := Lib.hid (HBS.out.trans (hbx.mono HBS.out.size))
        have HO5 := Lib.hid (show ShR w5 w.heap.size (.slice (some ⟨o, 0, none⟩) n oc) n (mvR E (posF n E It) ax BB j) N from RowV.below (RowV.below HOR.out HSS.out (Nat.le_refl _)) hbx (Nat.le_refl _))
        clear hbx z0 d0 d1 d2 d3 d4 d5 d6 d7 d8 d9 hc10 hc11 HBS
        obtain ⟨xj, hxj⟩ : ∃ x, x = X j := ⟨_, rfl⟩
        obtain ⟨yj, hyj⟩ : ∃ x, x = Y j := ⟨_, rfl⟩
        rw [← hxj, ← hyj]
        have HXJ := Lib.hid hxj
        have HYJ := Lib.hid hyj
        clear hxj hyj
        rcases HMD.out with rfl | rfl | rfl
        · have HBJ := Lib.hid (show BB j = wrap64 (lo - xj) by rw [HBBE.out j, ← HLO.out, ← HHI.out, ← HXJ.out, ← HYJ.out]; rfl)
          go_wp2_with fail
          refine (near_any _ 2 w5 (by omega)).mono ?_
          rintro e wq ⟨rfl, rfl⟩
          go_wp2_with fail
          refine (moved_any n kw4 o oc w.heap.size (mvR E (posF n E It) ax BB j) N (It j) ax (wrap64 (lo - xj)) _ (RowV.block HO5.out (fun q hq => by
            have hlt := RowV.lt HO5.out hq
            exact Below.heap_alloc _ _ _ hlt)) (by omega) hknw4 (by rw [mvR_findV]; exact HKw4.out.1) HOB.out (by simp; have := HB5.out.size; omega)).mono ?_
          rintro e w7 ⟨rfl, ho7, hb7⟩
          have HB7 := Lib.hid ((HB5.out.alloc HB5.out.size _).trans hb7)
          have HO7 := Lib.hid (show ShR w7 w.heap.size (.slice (some ⟨o, 0, none⟩) n oc) n (mvR E (posF n E It) ax BB (j + 1)) N by
            show ShR _ _ _ n (movE (mvR E (posF n E It) ax BB j) (posF n E It j).toNat ax (BB j)) N
            rw [HPw4.out, HBJ.out]
            exact ho7)
          clear ho7 hb7
          go_wp2_with fail
          go_roundw
          case rel => exact ⟨j + 1, by go_num, by omega, HB7.out, HO7.out⟩
          case measure => simp [intOf]; omega
        · have HBJ := Lib.hid (show BB j = rnd (wrap64 (wrap64 (wrap64 (lo + hi) - xj) - yj)) 2 by rw [HBBE.out j, ← HLO.out, ← HHI.out, ← HXJ.out, ← HYJ.out]; rfl)
          go_wp2_with fail
          refine (near_any _ 2 w5 (by omega)).mono ?_
          rintro e wq ⟨rfl, rfl⟩
          go_wp2_with fail
          refine (moved_any n kw4 o oc w.heap.size (mvR E (posF n E It) ax BB j) N (It j) ax (rnd (wrap64 (wrap64 (wrap64 (lo + hi) - xj) - yj)) 2) _ (RowV.block HO5.out (fun q hq => by
            have hlt := RowV.lt HO5.out hq
            exact Below.heap_alloc _ _ _ hlt)) (by omega) hknw4 (by rw [mvR_findV]; exact HKw4.out.1) HOB.out (by simp; have := HB5.out.size; omega)).mono ?_
          rintro e w7 ⟨rfl, ho7, hb7⟩
          have HB7 := Lib.hid ((HB5.out.alloc HB5.out.size _).trans hb7)
          have HO7 := Lib.hid (show ShR w7 w.heap.size (.slice (some ⟨o, 0, none⟩) n oc) n (mvR E (posF n E It) ax BB (j + 1)) N by
            show ShR _ _ _ n (movE (mvR E (posF n E It) ax BB j) (posF n E It j).toNat ax (BB j)) N
            rw [HPw4.out, HBJ.out]
            exact ho7)
          clear ho7 hb7
          go_wp2_with fail
          go_roundw
          case rel => exact ⟨j + 1, by go_num, by omega, HB7.out, HO7.out⟩
          case measure => simp [intOf]; omega
        · have HBJ := Lib.hid (show BB j = wrap64 (hi - yj) by rw [HBBE.out j, ← HLO.out, ← HHI.out, ← HXJ.out, ← HYJ.out]; rfl)
          go_wp2_with fail
          refine (near_any _ 2 w5 (by omega)).mono ?_
          rintro e wq ⟨rfl, rfl⟩
          go_wp2_with fail
          refine (moved_any n kw4 o oc w.heap.size (mvR E (posF n E It) ax BB j) N (It j) ax (wrap64 (hi - yj)) _ (RowV.block HO5.out (fun q hq => by
            have hlt := RowV.lt HO5.out hq
            exact Below.heap_alloc _ _ _ hlt)) (by omega) hknw4 (by rw [mvR_findV]; exact HKw4.out.1) HOB.out (by simp; have := HB5.out.size; omega)).mono ?_
          rintro e w7 ⟨rfl, ho7, hb7⟩
          have HB7 := Lib.hid ((HB5.out.alloc HB5.out.size _).trans hb7)
          have HO7 := Lib.hid (show ShR w7 w.heap.size (.slice (some ⟨o, 0, none⟩) n oc) n (mvR E (posF n E It) ax BB (j + 1)) N by
            show ShR _ _ _ n (movE (mvR E (posF n E It) ax BB j) (posF n E It j).toNat ax (BB j)) N
            rw [HPw4.out, HBJ.out]
            exact ho7)
          clear ho7 hb7
          go_wp2_with fail
          go_roundw
          case rel => exact ⟨j + 1, by go_num, by omega, HB7.out, HO7.out⟩
          case measure => simp [intOf]; omega
      · obtain rfl : j = c := by omega
        have hnn : ¬ (j : Int) < (j : Int) := by omega
        go_wp2_with fail
        go_meet
        exact ⟨HB.out, HOR.out⟩
  case rest =>
  obtain ⟨hbel, hso⟩ := hcut
  obtain ⟨wf, rfl⟩ : ∃ v : World, v = wc := ⟨_, rfl⟩
  have HBF := Lib.hid hbel
  have HOF := Lib.hid hso
  have hszf := hbel.size
  obtain ⟨E', hE'⟩ : ∃ E', E' = mvR E (posF n E It) ax BB c := ⟨_, rfl⟩
  rw [← hE'] at HOF
  have HRR := Lib.hid (show (shE n E' ≠ 0 ∧ rv = .slice none 0 0 ∧ re = shE n E') ∨ (shE n E' = 0 ∧ re = 0 ∧ ∃ al cl, rv = .slice al n cl ∧ n ≤ cl ∧ ShF w al n E' N) by rw [hE']; exact HRES.out)
  clear hbel hso hE' HRES HBB HO
  rcases HRR.out with ⟨h1, rfl, rfl⟩ | ⟨h1, rfl, al, cl, rfl, h2, h3⟩
  · have HS := Lib.hid (same_err n oc E' N (some ⟨o, 0, none⟩) wf (ShR.shF HOF.out) hn HNOC.out h1)
    clear h1
    go_wp2_with fail
    refine HS.out.mono ?_
    rintro e wg ⟨rfl, hbg⟩
    have HBG := Lib.hid (HBF.out.trans (hbg.mono hszf))
    clear hbg HS
    go_wp2_with fail
    go_ret
    exact ⟨rfl, HBG.out⟩
  · have HS := Lib.hid (same_ok n cl oc E' N al (some ⟨o, 0, none⟩) wf (h3.below (Nat.le_refl _) HBF.out) (ShR.shF HOF.out) hn h2 HNOC.out h1)
    clear h1 h3
    go_wp2_with fail
    refine HS.out.mono ?_
    rintro e wg ⟨rfl, hbg⟩
    have HBG := Lib.hid (HBF.out.trans (hbg.mono hszf))
    clear hbg HS
    go_wp2_with fail
    go_ret
    exact ⟨rfl, HBG.out⟩
end Go.Proofs.YtabnohphgegflaaDoor.ShT
