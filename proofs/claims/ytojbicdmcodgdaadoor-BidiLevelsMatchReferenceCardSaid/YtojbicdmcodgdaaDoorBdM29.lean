/-
  BdRLvW, BdRNil, SameInts, BdLaw.
-/
import Derived.Test.YtojbicdmcodgdaaDoorBdM16
import Derived.Test.YtojbicdmcodgdaaDoorBdM23
import Derived.Test.YtojbicdmcodgdaaDoorBdM28
import Derived.Test.YtojbicdmcodgdaaDoorBdM04
import Derived.Deep.CutRange
import Derived.Deep.CutBlock
import Derived.Test.YtojbicdmcodgdaaDoorProg
import Derived.Test.YtojbicdmcodgdaaDoorBdM00
import Derived.WalkLawsBesides
import Derived.Lib.Hide
import Derived.Deep.QuietTactic
import Derived.BigQuiet
import Derived.Test.YtojbicdmcodgdaaDoorBdM15
namespace Go.Proofs.YtojbicdmcodgdaaDoor.BD
open Go.RowKit Go.Law Go.Law.Bd
set_option linter.unusedVariables false
set_option linter.unusedSimpArgs false
set_option maxRecDepth 100000
set_option maxHeartbeats 16000000 in
theorem levelsR_any {n tc : Nat} {T : Nat → Int} {ta : Option Addr} {base : Int} {w : World} (ha : IntsF w ta n T) (hn : n ≤ 200) (hn0 : 0 < n) (hb : base = 0 ∨ base = 1) (hB : ∀ i, i < n → clsB (T i) = 10 → i + 1 = n) (hKr : ∀ i, 0 ≤ clsB (T i) ∧ clsB (T i) ≤ 22) (ht : TabC w 0 2 coupleT) :
    Calls Tryd.prog 11 #[.slice ta n tc, .int .i64 base] w fun e w' => ∃ v, e = .returned v ∧ RowI w' w.heap.size 3 1 v n (bidiLv T (fun i => clsB (T i)) base n) ∧ Below w.heap.size w w' := by
  have HT := Lib.hid ha
  have HTB := Lib.hid ht
  have HB := Lib.hid hB
  have HKR := Lib.hid hKr
  clear ha ht hB hKr
  go_enter Tryd.func11, Tryd.ntmps11
  go_upto_block 0 with fail
  go_cut [5, 7, 8] from 22 to 35 (fun v _ _ wx => Ch wx w.heap.size v n (fun i => clsB (T i)) (fun i => clsB (T i)) (fun _ => 0) (fun _ => false) T ∧ Below w.heap.size w wx)
  case first => exact rfMake HT hn (by assumption) (by assumption)
  case rest =>
  obtain ⟨hch, hb1⟩ := hcut
  obtain ⟨w1, rfl⟩ : ∃ x : World, x = wc := ⟨_, rfl⟩
  obtain ⟨g, cap, hv, hgb, hgl, hcap, _⟩ := RowV.at hch hn0
  subst hv
  obtain ⟨K, hK⟩ : ∃ K : Nat → Int, K = fun i => clsB (T i) := ⟨_, rfl⟩
  rw [← hK] at hch
  have HKE := Lib.hid hK
  have HEM := Lib.hid (embed_any _ g cap n K T base w1 hch hn hn0 hb (fun i hi h => HB.out i hi (by rw [hK] at h; exact h)))
  have HKR2 := Lib.hid (show ∀ i, 0 ≤ K i ∧ K i ≤ 22 from fun i => by rw [hK]; exact HKR.out i)
  have HB1 := Lib.hid hb1
  clear hch hb1 hK HB HKR hcap
  unfold EmPost at HEM
  obtain ⟨L, hL⟩ : ∃ L, L = lvE ⟨base, -1, false⟩ K n := ⟨_, rfl⟩
  obtain ⟨CE, hCE⟩ : ∃ C, C = clE ⟨base, -1, false⟩ K n := ⟨_, rfl⟩
  obtain ⟨O, hO⟩ : ∃ O, O = ouE K := ⟨_, rfl⟩
  have HLR := Lib.hid (show ∀ x, 0 ≤ L x ∧ L x ≤ 125 from fun x => by rw [hL]; exact lvE_range rfl (by show 0 ≤ base ∧ base ≤ 125; omega) rfl x)
  have HLR2 := Lib.hid (show ∀ x, 0 ≤ L x ∧ L x ≤ 1000 from fun x => by have := HLR.out x; omega)
  have HCP := Lib.hid (show ∀ x, O x = false → partB (CE x) from fun x hx => by rw [hCE]; exact clE_part rfl (by show 0 ≤ base ∧ base ≤ 125; omega) rfl (HKR2.out x) (by rw [← hO]; exact hx))
  obtain ⟨S, hS⟩ : ∃ S, S = seqsB K n (rnsAt O L n) := ⟨_, rfl⟩
  have HBD := Lib.hid (show ∀ x, bidiLv T K base n x = if rbB K n x = true then base else outL O (seqLv O L CE T K base n S) base x from fun x => by unfold bidiLv; rw [hS, hO, hL, hCE])
  have hrok := rns_ok (O := O) (L := L) n
  have HOKS := Lib.hid (show HdOk S by rw [hS, ← outB_end]; exact outB_hd hrok (Nat.le_refl _))
  have hSl : S.length ≤ 1000 := by
    have h1 := outB_le (K := K) (n := n) (R := rnsAt O L n) (j := (rnsAt O L n).length)
    have h2 := rns_len (O := O) (L := L) n
    rw [outB_end, ← hS] at h1
    omega
  have HSD := Lib.hid (show S.Pairwise fun a b => ∀ x, x ∈ a → x ∉ b by rw [hS]; exact seqs_disj hrok (Nat.le_refl _))
  have HSM := Lib.hid (show ∀ s, s ∈ S → s ≠ [] ∧ s.Pairwise (· < ·) ∧ ∀ x, x ∈ s → x < n ∧ O x = false from fun s hs => by rw [hS] at hs; exact seqs_mem hrok (Nat.le_refl _) hs)
  have HPL := Lib.hid (show ∀ s, s ∈ S → s.length ≤ n ∧ ∀ x, x ∈ s → x < n from fun s hs => by
    obtain ⟨_, h2, h3⟩ := HSM.out s hs
    exact ⟨sorted_len2 h2 fun x hx => (h3 x hx).1, fun x hx => (h3 x hx).1⟩)
  rw [← hL, ← hCE, ← hO] at HEM
  have HSS := Lib.hid hS
  clear hL hCE hO hS hrok
  go_wp2_with fail
  refine HEM.out.mono ?_
  rintro e2 w2 ⟨rfl, hch, hsv⟩
  have HC2 := Lib.hid hch
  have HB2 := Lib.hid (show Below w.heap.size w w2 from HB1.out.trans (hsv.below HB1.out.size (by rintro k rfl; exact hgb)))
  have HCN := Lib.hid (chains_any hch hn)
  rw [← HSS.out] at HCN
  clear hch hsv HEM HB1 hgl
  dsimp only
  go_wp2_with fail
  refine HCN.out.mono ?_
  rintro e3 w3 ⟨vs, I, rfl, hns, hb3⟩
  have hgl := HC2.out.lt
  have HC3 := Lib.hid (HC2.out.only (w' := w3) (hb3.block g hgl))
  have HB3 := Lib.hid (HB2.out.trans (hb3.mono HB2.out.size))
  have hbs3 := hb3.size
  obtain ⟨ra, rc, hvs, _, _⟩ := hns.out.slice
  subst hvs
  have HNS := Lib.hid hns
  obtain ⟨bc, hbc⟩ : ∃ x, x = w2.heap.size := ⟨_, rfl⟩
  rw [← hbc] at HNS hgl hbs3
  clear hns hb3 HCN hbc HC2 HB2
  dsimp only
  go_upto_block 2 with fail
  go_cut [9, 11, 12, 13] from 42 to 68 (fun v _ _ _ wx => RowV wx w3.heap.size 57 5 v S.length (wdV (.slice (some ⟨g, 0, none⟩) n cap) I O L K base n S) ∧ Below w3.heap.size w3 wx)
  case first => exact rfWords HC3 HNS HOKS HPL hn hSl hb HLR2 (by assumption) (by assumption)
  case rest =>
  obtain ⟨hrv, hb4⟩ := hcut
  obtain ⟨w4, rfl⟩ : ∃ x : World, x = wc := ⟨_, rfl⟩
  obtain ⟨wa, wc0, hwv, _, _⟩ := RowV.slice hrv
  subst hwv
  have HRV := Lib.hid hrv
  have HC4 := Lib.hid (HC3.out.only (w' := w4) (hb4.block g HC3.out.lt))
  have HB34 := Lib.hid hb4
  have HB4 := Lib.hid (HB3.out.trans (hb4.mono HB3.out.size))
  clear hrv hb4 HC3 HB3
  go_upto_block 4 with fail
  go_cut [14] from 71 to 89 (fun _ wx => (∃ C', Ch wx w.heap.size (.slice (some ⟨g, 0, none⟩) n cap) n K C' (seqLv O L CE T K base n S) O T) ∧ Save (fun k => k = g) w4 wx)
  case first => exact rfSeqs HC4 HNS HB34 HOKS hgl hbs3 HRV HSD HSM hn hSl hb HLR HCP HTB HB4 hgb (by assumption) (by assumption)
  case rest =>
  obtain ⟨⟨C', hch5⟩, hsv5⟩ := hcut
  obtain ⟨w5, rfl⟩ : ∃ x : World, x = wc := ⟨_, rfl⟩
  have HC5 := Lib.hid hch5
  have HB5 := Lib.hid (HB4.out.trans (hsv5.below HB4.out.size (by rintro k rfl; exact hgb)))
  clear hch5 hsv5 HC4 HB4 HRV HNS HB34
  go_upto_block 6 with fail
  go_cut [15] from 92 to 117 (fun _ wx => Ch wx w.heap.size (.slice (some ⟨g, 0, none⟩) n cap) n K C' (outL O (seqLv O L CE T K base n S) base) O T ∧ Save (fun k => k = g) w5 wx)
  case first => exact rfOut (s4v := .slice none 0 0) HC5 hn (by assumption) (by assumption)
  case rest =>
  obtain ⟨hch6, hsv6⟩ := hcut
  obtain ⟨w6, rfl⟩ : ∃ x : World, x = wc := ⟨_, rfl⟩
  have HC6 := Lib.hid hch6
  have HB6 := Lib.hid (HB5.out.trans (hsv6.below HB5.out.size (by rintro k rfl; exact hgb)))
  clear hch6 hsv6 HC5 HB5
  go_upto_block 8 with fail
  go_cut [16, 17, 18, 19] from 120 to 177 (fun v _ _ _ wx => RowI wx w6.heap.size 3 1 v n (fun x => if rbB K n x = true then base else outL O (seqLv O L CE T K base n S) base x) ∧ Below w6.heap.size w6 wx)
  case first => exact rfBlank HC6 hn (by assumption) (by assumption)
  case rest =>
  obtain ⟨hr7, hb7⟩ := hcut
  obtain ⟨w7, rfl⟩ : ∃ x : World, x = wc := ⟨_, rfl⟩
  obtain ⟨va, vc, hv7, _, _⟩ := RowI.slice hr7
  subst hv7
  have HR7 := Lib.hid hr7
  have HB7 := Lib.hid (HB6.out.trans (hb7.mono HB6.out.size))
  have hs67 := HB6.out.size
  clear hr7 hb7 HC6
  go_wp2_with fail
  go_ret
  rw [← HKE.out]
  exact ⟨_, rfl, (HR7.out.congr fun x _ => (HBD.out x).symm).mono hs67, HB7.out⟩
set_option maxHeartbeats 8000000 in
theorem embed_nil (base : Int) (w : World) : Calls Tryd.prog 25 #[.slice none 0 0, .int .i64 base] w fun e w' => e = .returned (.tuple #[]) ∧ Below w.heap.size w w' := by
  go_enter Tryd.func25, Tryd.ntmps25
  go_wp2_with fail
  go_loopw [22] (fun iv wr => iv = .int .i64 0 ∧ wr = w) (fun _ _ => 0)
  case atStart => exact ⟨rfl, rfl⟩
  case round =>
    obtain ⟨rfl, hwr⟩ := hrel
    obtain rfl : w = wr := hwr.symm
    clear hwr
    go_upto_region 7 with fail
    obtain ⟨w1, hw1⟩ : ∃ x, x = (w.alloc (Obj.cells #[.int .i64 base, .int .i64 (-1), .bool false] 74)).alloc (Obj.cells #[.slice (some ⟨w.heap.size, 0, none⟩) 1 1] 75) := ⟨_, rfl⟩
    have HB := Lib.hid (show Below w.heap.size w w1 by rw [hw1]; exact ((Below.refl _ _).alloc (Nat.le_refl _) _).alloc (by simp) _)
    rw [← hw1]
    clear hw1
    go_wp2_with fail
    go_loopw [37] (fun iv wr => iv = .int .i64 0 ∧ wr = w1) (fun _ _ => 0)
    case atStart => exact ⟨rfl, rfl⟩
    case round =>
      obtain ⟨rfl, hwr⟩ := hrel
      obtain rfl : w1 = wr := hwr.symm
      clear hwr
      go_wp2_with fail
      first | go_end0 | (simp only [Exit.inBlock, Exit.then]; refine bodyPost_ret (results_none rfl _ _ _) rfl ?_) | refine bodyPost_ret (results_none rfl _ _ _) rfl ?_
      exact ⟨rfl, HB.out⟩
set_option maxHeartbeats 8000000 in
theorem chains_nil (w : World) : Calls Tryd.prog 26 #[.slice none 0 0] w fun e w' => e = .returned (.slice none 0 0) ∧ w = w' := by
  go_enter Tryd.func26, Tryd.ntmps26
  go_wp2_with fail
  go_loopw [18] (fun iv wr => iv = .int .i64 0 ∧ wr = w) (fun _ _ => 0)
  case atStart => exact ⟨rfl, rfl⟩
  case round =>
    obtain ⟨rfl, hwr⟩ := hrel
    obtain rfl : w = wr := hwr.symm
    clear hwr
    go_wp2_with fail
    go_loopw [6, 30] (fun v iv wr => v = .slice none 0 0 ∧ iv = .int .i64 0 ∧ wr = w) (fun _ _ _ => 0)
    case atStart => exact ⟨rfl, rfl, rfl⟩
    case round =>
      obtain ⟨rfl, rfl, hwr⟩ := hrel
      obtain rfl : w = wr := hwr.symm
      clear hwr
      go_wp2_with fail
      go_loopw [10, 77] (fun v iv wr => v = .slice none 0 0 ∧ iv = .int .i64 0 ∧ wr = w) (fun _ _ _ => 0)
      case atStart => exact ⟨rfl, rfl, rfl⟩
      case round =>
        obtain ⟨rfl, rfl, hwr⟩ := hrel
        obtain rfl : w = wr := hwr.symm
        clear hwr
        go_wp2_with fail
        go_ret
        exact ⟨rfl, rfl⟩
set_option maxHeartbeats 8000000 in
theorem levelsR_nil (ta : Option Addr) (tc : Nat) (base : Int) (w : World) : Calls Tryd.prog 11 #[.slice ta 0 tc, .int .i64 base] w fun e w' => e = .returned (.slice none 0 0) ∧ Below w.heap.size w w' := by
  have HE := Lib.hid (embed_nil base w)
  go_enter Tryd.func11, Tryd.ntmps11
  go_wp2_with fail
  go_loopw [5, 22] (fun v iv wr => v = .slice none 0 0 ∧ iv = .int .i64 0 ∧ wr = w) (fun _ _ _ => 0)
  case atStart => exact ⟨rfl, rfl, rfl⟩
  case round =>
    obtain ⟨rfl, rfl, hwr⟩ := hrel
    obtain rfl : w = wr := hwr.symm
    clear hwr
    go_wp2_with fail
    refine HE.out.mono ?_
    rintro e2 w2 ⟨rfl, hb2⟩
    have HB := Lib.hid hb2
    have HC := Lib.hid (chains_nil w2)
    clear hb2 HE
    dsimp only
    go_wp2_with fail
    refine HC.out.mono ?_
    rintro e3 w3 ⟨rfl, rfl⟩
    dsimp only
    go_wp2_with fail
    go_loopw [9, 42] (fun v iv wr => v = .slice none 0 0 ∧ iv = .int .i64 0 ∧ wr = w2) (fun _ _ _ => 0)
    case atStart => exact ⟨rfl, rfl, rfl⟩
    case round =>
      obtain ⟨rfl, rfl, hwr⟩ := hrel
      obtain rfl : w2 = wr := hwr.symm
      clear hwr
      go_wp2_with fail
      go_loopw [71] (fun iv wr => iv = .int .i64 0 ∧ wr = w2) (fun _ _ => 0)
      case atStart => exact ⟨rfl, rfl⟩
      case round =>
        obtain ⟨rfl, hwr⟩ := hrel
        obtain rfl : w2 = wr := hwr.symm
        clear hwr
        go_wp2_with fail
        go_loopw [92] (fun iv wr => iv = .int .i64 0 ∧ wr = w2) (fun _ _ => 0)
        case atStart => exact ⟨rfl, rfl⟩
        case round =>
          obtain ⟨rfl, hwr⟩ := hrel
          obtain rfl : w2 = wr := hwr.symm
          clear hwr
          go_wp2_with fail
          go_loopw [16, 120] (fun v iv wr => v = .slice none 0 0 ∧ iv = .int .i64 0 ∧ wr = w2) (fun _ _ _ => 0)
          case atStart => exact ⟨rfl, rfl, rfl⟩
          case round =>
            obtain ⟨rfl, rfl, hwr⟩ := hrel
            obtain rfl : w2 = wr := hwr.symm
            clear hwr
            go_wp2_with fail
            go_ret
            exact ⟨rfl, HB.out⟩
end Go.Proofs.YtojbicdmcodgdaaDoor.BD
namespace Go.Proofs.YtojbicdmcodgdaaDoor.Ref
open Go.RowKit Go.Law
set_option linter.unusedVariables false
set_option linter.unusedSimpArgs false
set_option maxRecDepth 100000
def sameB (n m : Nat) (f g : Nat → Int) : Bool := decide (n = m) && (List.range n).all fun i => f i == g i
theorem sameB_true {n m : Nat} {f g : Nat → Int} : sameB n m f g = true ↔ n = m ∧ ∀ i, i < n → f i = g i := by
  simp [sameB]
theorem sameB_no {n m : Nat} {f g : Nat → Int} (h : n ≠ m) : sameB n m f g = false := by simp [sameB, h]
theorem sameB_part {n : Nat} {f g : Nat → Int} {i : Nat} (hi : i < n) (h : f i ≠ g i) : sameB n n f g = false := by
  cases hb : sameB n n f g
  · rfl
  · exact absurd ((sameB_true.1 hb).2 i hi) h
set_option maxHeartbeats 1000000 in
theorem same_any (n m : Nat) (f g : Nat → Int) (a b : Option Addr) (ca cb : Nat) (w : World) (ha : IntsF w a n f) (hb : IntsF w b m g) (hn : n ≤ 9223372036854775806) (hm : m ≤ 9223372036854775806) :
    Calls Tryd.prog 10 #[.slice a n ca, .slice b m cb] w fun e w' => e = .returned (.bool (sameB n m f g)) ∧ Below w.heap.size w w' := by
  by_cases hnm : n = m
  · subst hnm
    have hd : ((n : Int) != (n : Int)) = false := by simp
    by_cases h0 : n = 0
    · have H := Lib.hid (show sameB n n f g = true by rw [sameB_true]; exact ⟨rfl, fun i hi => by omega⟩)
      subst h0
      go_enter Tryd.func10, Tryd.ntmps10
      go_wp2
      refine wp_loop_rounds 1 ?_
      rw [rounds_succ]
      go_wp2
      go_ret
      exact ⟨by rw [H.out]; rfl, Below.refl _ _⟩
    · obtain ⟨b1, o1, rfl, hc1⟩ := ha (by omega)
      obtain ⟨b2, o2, rfl, hc2⟩ := hb (by omega)
      go_enter Tryd.func10, Tryd.ntmps10
      go_wp2
      go_loopw [13] (fun i wr => ∃ k : Nat, i = .int .i64 k ∧ k ≤ n ∧ (∀ j, j < k → f j = g j) ∧ Below w.heap.size w wr) (fun i _ => n - (intOf i).toNat)
      case atStart => exact ⟨0, rfl, by omega, fun j hj => by omega, Below.refl _ _⟩
      case round =>
        obtain ⟨k, rfl, hk, hall, hbel⟩ := hrel
        have HA := Lib.hid hall
        clear hall
        by_cases hkn : k < n
        · have d1 : wr.cell? ⟨b1, o1 + k, none⟩ = some (.int .i64 (f k)) := by rw [hbel.cell (lt_of_cell (hc1 k hkn))]; exact hc1 k hkn
          have d2 : wr.cell? ⟨b2, o2 + k, none⟩ = some (.int .i64 (g k)) := by rw [hbel.cell (lt_of_cell (hc2 k hkn))]; exact hc2 k hkn
          clear hc1 hc2
          by_cases he : f k = g k
          · have he' : (f k != g k) = false := by simp [he]
            have HE := Lib.hid he
            clear he
            go_wp2
            go_quiet (fail)
            go_wp2
            go_roundw
            case rel => exact ⟨k + 1, by go_num, by omega, fun j hj => by rcases Nat.lt_or_ge j k with h | h; exact HA.out j h; rw [show j = k by omega]; exact HE.out, below_drewN hbel _⟩
            case measure => simp [intOf]; omega
          · have he' : (f k != g k) = true := by simpa using he
            have HE := Lib.hid (sameB_part hkn he)
            clear he
            go_wp2
            go_quiet (fail)
            go_wp2
            go_ret
            exact ⟨by rw [HE.out]; rfl, below_drewN hbel _⟩
        · obtain rfl : k = n := by omega
          have HT := Lib.hid (sameB_true.2 ⟨rfl, HA.out⟩)
          go_wp2
          go_ret
          exact ⟨by rw [HT.out]; rfl, hbel⟩
  · have hd : ((n : Int) != (m : Int)) = true := by simp; omega
    have H := Lib.hid (sameB_no (f := f) (g := g) hnm)
    clear hnm
    go_enter Tryd.func10, Tryd.ntmps10
    go_wp2
    go_ret
    exact ⟨by rw [H.out]; rfl, Below.refl _ _⟩
end Go.Proofs.YtojbicdmcodgdaaDoor.Ref
namespace Go.Law.Bd
open Go Go.Law Go.RowKit
def text4 : Nat → Int := fun i => [97, 1488, 1489, 49].getD i 0
theorem text4_ok : textE text4 4 = 0 ∧ baseB text4 4 0 = 0 := by decide +kernel
theorem text4_lv : ∀ i, i < 4 → bidiLv text4 (fun i => clsB (text4 i)) 0 4 i = [0, 1, 1, 2].getD i 0 := by decide +kernel
theorem IntsF_less {w : World} {a : Option Addr} {n m : Nat} {f : Nat → Int} (h : IntsF w a n f) (hm : m ≤ n) : IntsF w a m f := by
  intro h0
  obtain ⟨b, off, rfl, hc⟩ := h (by omega)
  exact ⟨b, off, rfl, fun i hi => hc i (by omega)⟩
end Go.Law.Bd
namespace Go.Proofs.YtojbicdmcodgdaaDoor.BD
open Go.RowKit Go.Law Go.Law.Bd
set_option linter.unusedVariables false
set_option linter.unusedSimpArgs false
set_option maxRecDepth 100000
set_option maxHeartbeats 8000000 in
theorem levelsLaw_any (w : World) (ht : TabC w 1 3 tableT) (htb : TabC w 2 2 bracketsT) :
    Calls Tryd.prog 4 #[] w fun e w' => e = .returned (.bool true) ∧ Below w.heap.size w w' := by
  have HT := Lib.hid ht
  have HTB := Lib.hid htb
  clear ht htb
  obtain ⟨w1, hw1⟩ : ∃ x, x = w.alloc (Obj.cells #[.int .i64 97, .int .i64 1488, .int .i64 1489, .int .i64 49] 3) := ⟨_, rfl⟩
  have hb1 : Below w.heap.size w w1 := by rw [hw1]; exact (Below.refl _ _).alloc (Nat.le_refl _) _
  have hin : IntsF w1 (some ⟨w.heap.size, 0, none⟩) 4 text4 := by
    intro _
    refine ⟨_, 0, rfl, fun i hi => ?_⟩
    rw [hw1, Nat.zero_add, World.cell?_alloc_new]
    match i, hi with
    | 0, _ => rfl
    | 1, _ => rfl
    | 2, _ => rfl
    | 3, _ => rfl
  have HL := Lib.hid (levels_any 4 text4 _ 4 0 w1 hin (by omega) (HT.out.below (Nat.le_refl _) hb1) (HTB.out.below (Nat.le_refl _) hb1))
  have HB1 := Lib.hid hb1
  go_enter Tryd.func4, Tryd.ntmps4
  go_wp2_with fail
  rw [← hw1]
  clear hw1 hb1 hin
  refine HL.out.mono ?_
  rintro e2 w2 hl
  unfold LevPost at hl
  rw [text4_ok.1, text4_ok.2, if_neg (show ¬ ((0 : Int) ≠ 0) from fun h => h rfl), if_neg (by omega)] at hl
  obtain ⟨hb2, g, rfl, how, hg⟩ := hl
  have HB2 := Lib.hid (HB1.out.trans (hb2.mono HB1.out.size))
  have HOW := Lib.hid how
  clear hb2 how HL hg HB1
  obtain ⟨w3, hw3⟩ : ∃ x, x = w2.alloc (Obj.cells #[.int .i64 0, .int .i64 1, .int .i64 1, .int .i64 2] 3) := ⟨_, rfl⟩
  have HB3 := Lib.hid (show Below w.heap.size w w3 by rw [hw3]; exact HB2.out.alloc HB2.out.size _)
  have hi3 : IntsF w3 (some ⟨w2.heap.size, 0, none⟩) 4 (fun i => [0, 1, 1, 2].getD i 0) := by
    intro _
    refine ⟨_, 0, rfl, fun i hi => ?_⟩
    rw [hw3, Nat.zero_add, World.cell?_alloc_new]
    match i, hi with
    | 0, _ => rfl
    | 1, _ => rfl
    | 2, _ => rfl
    | 3, _ => rfl
  have HSM := Lib.hid (Ref.same_any 4 4 _ _ _ _ 4 4 w3 (show IntsF w3 (some ⟨g, 0, none⟩) 4 _ by rw [hw3]; exact (HOW.out.alloc _).ints) hi3 (by omega) (by omega))
  rw [Ref.sameB_true.2 ⟨rfl, text4_lv⟩] at HSM
  dsimp only
  go_wp2_with fail
  rw [← hw3]
  clear hw3 hi3
  refine HSM.out.mono ?_
  rintro e4 w4 ⟨rfl, hb4⟩
  have HB4 := Lib.hid (HB3.out.trans (hb4.mono HB3.out.size))
  clear hb4 HSM
  dsimp only
  go_wp2_with fail
  go_ret
  exact ⟨rfl, HB4.out⟩
theorem low_eq {T : Nat → Int} {n : Nat} {dir : Int} (hE : textE T n = 0) (hd : ¬ (dir < -1 ∨ 1 < dir)) : (if 0 ≤ dir then dir else if flt (fun i => clsB (T i)) n 0 n = 1 then 1 else 0) = baseB T n dir := by
  unfold baseB
  by_cases h : dir = -1
  · rw [if_pos h, if_neg (by omega)]
    have h1 := first_all (K := fun i => clsB (T i)) (n := n) (fun i hi hk => (textE_zero hE i hi).2 (clsB_ten.1 hk)) n 0 (by omega)
    have h2 := fst_range (fun i => clsB (T i)) n false n 0 0 (by omega)
    by_cases hf : flt (fun i => clsB (T i)) n 0 n = 1
    · rw [if_pos hf]; exact (h1.2 hf).symm
    · rw [if_neg hf]
      rcases h2 with h3 | h3
      · exact h3.symm
      · exact absurd (h1.1 h3) hf
  · rw [if_neg h, if_pos (by omega)]
theorem baseB_range {T : Nat → Int} {n : Nat} {dir : Int} (hd : ¬ (dir < -1 ∨ 1 < dir)) : baseB T n dir = 0 ∨ baseB T n dir = 1 := by
  unfold baseB
  split
  · exact fst_range _ _ _ _ _ _ rfl
  · omega
/-- the reference's Levels, of any text in order -/
theorem levelsR_all {n tc : Nat} {T : Nat → Int} {ta : Option Addr} {base : Int} {w : World} (ha : IntsF w ta n T) (hn : n ≤ 200) (hb : base = 0 ∨ base = 1) (hE : textE T n = 0) (ht : TabC w 0 2 coupleT) :
    Calls Tryd.prog 11 #[.slice ta n tc, .int .i64 base] w fun e w' => ∃ a c, e = .returned (.slice a n c) ∧ IntsF w' a n (bidiLv T (fun i => clsB (T i)) base n) ∧ Below w.heap.size w w' := by
  by_cases h0 : n = 0
  · subst h0
    exact (levelsR_nil ta tc base w).mono fun e w' h => ⟨none, 0, h.1, IntsF.zero _ _ _, h.2⟩
  · refine (levelsR_any ha hn (by omega) hb (fun i hi hk => (textE_zero hE i hi).2 (clsB_ten.1 hk)) (fun i => clsB_range _) ht).mono ?_
    rintro e w' ⟨v, rfl, hr, hbl⟩
    obtain ⟨a, c, rfl, _, _⟩ := RowI.slice hr
    exact ⟨a, c, rfl, RowI.ints hr, hbl⟩
set_option maxHeartbeats 8000000 in
theorem bidiLaw_any (n0 tc : Nat) (T : Nat → Int) (ta : Option Addr) (dir : Int) (w : World) (ha : IntsF w ta n0 T) (hn0 : n0 ≤ 1000000000000000) (hc : n0 ≤ tc) (hd : -9223372036854775808 ≤ dir ∧ dir ≤ 9223372036854775807) (ht : TabC w 1 3 tableT) (htb : TabC w 2 2 bracketsT) (htc : TabC w 0 2 coupleT) :
    Calls Tryd.prog 3 #[.slice ta n0 tc, .int .i64 dir] w fun e w' => e = .returned (.bool true) ∧ Below w.heap.size w w' := by
  have HA := Lib.hid ha
  have HT := Lib.hid ht
  have HTB := Lib.hid htb
  have HTC := Lib.hid htc
  have HLV := Lib.hid (levelsLaw_any w ht htb)
  obtain ⟨n, hn⟩ : ∃ n, n = min n0 200 := ⟨_, rfl⟩
  have hn2 : n ≤ 200 := by omega
  have HIN := Lib.hid (IntsF_less ha (m := n) (by omega))
  have HNN := Lib.hid hn
  have htas : 200 < n0 → ∃ b off, ta = some ⟨b, off, none⟩ := fun h => by obtain ⟨b, off, h1, _⟩ := ha (by omega); exact ⟨b, off, h1⟩
  clear ha ht htb htc hn
  go_enter Tryd.func3, Tryd.ntmps3
  go_wp2_with fail
  refine HLV.out.mono ?_
  rintro e1 w1 ⟨rfl, hb1⟩
  have HB1 := Lib.hid hb1
  dsimp only
  clear hb1 HLV
  obtain ⟨bt, hbt⟩ : ∃ bt, decide (200 < n0) = bt := ⟨_, rfl⟩
  go_upto_if 16 with fail
  have HBT := Lib.hid hbt
  clear hbt
  go_cut [0] from 17 to 18 (fun v wx => v = .slice ta n tc ∧ wx = w1)
  case first =>
    cases bt with
    | true =>
      have h200 : 200 < n0 := by have := HBT.out; simpa using this
      obtain ⟨b, off, rfl⟩ := htas h200
      have HN := Lib.hid (show n = 200 by rw [HNN.out]; omega)
      have hc2 : (200 : Int) ≤ (tc : Int) := by omega
      go_wp2_with fail
      go_meet
      exact ⟨by rw [HN.out], rfl⟩
    | false =>
      have h200 : ¬ 200 < n0 := by have := HBT.out; simpa using this
      have HN := Lib.hid (show n = n0 by rw [HNN.out]; omega)
      go_wp2_with fail
      go_meet
      exact ⟨by rw [HN.out], rfl⟩
  case rest =>
  obtain ⟨rfl, hw⟩ := hcut
  obtain rfl : w1 = wc := hw.symm
  clear hw htas HBT HA HNN
  have HL1 := Lib.hid (levels_any n T ta tc dir w1 (HIN.out.below (Nat.le_refl _) HB1.out) hn2 (HT.out.below (Nat.le_refl _) HB1.out) (HTB.out.below (Nat.le_refl _) HB1.out))
  unfold LevPost at HL1
  obtain ⟨E, hE⟩ : ∃ E, E = textE T n := ⟨_, rfl⟩
  have HE := Lib.hid hE
  rw [← hE] at HL1
  by_cases he : E ≠ 0
  · have hb0 : (E == 0) = false := by simpa using he
    have hb2 : (E != 0) = true := by simpa using he
    go_wp2_with fail
    refine HL1.out.mono ?_
    rintro e2 w2 ⟨hb, hx⟩
    rw [if_pos he] at hx
    subst hx
    have HB2 := Lib.hid (HB1.out.trans (hb.mono HB1.out.size))
    have HBS := Lib.hid (base_any n T ta tc dir w2 (HIN.out.below (Nat.le_refl _) HB2.out) (by omega) (HT.out.below (Nat.le_refl _) HB2.out))
    unfold BasePost at HBS
    rw [← hE, if_pos he, if_pos he] at HBS
    dsimp only
    clear hb HL1
    have HE0 := Lib.hid he
    clear he hE
    go_wp2_with fail
    refine HBS.out.mono ?_
    rintro e3 w3 ⟨rfl, hb⟩
    have HB3 := Lib.hid (HB2.out.trans (hb.mono HB2.out.size))
    have HER := Lib.hid (bidiError_any n T ta tc w3 (HIN.out.below (Nat.le_refl _) HB3.out) (by omega))
    rw [← HE.out] at HER
    dsimp only
    clear hb HBS
    go_wp2_with fail
    refine HER.out.mono ?_
    rintro e4 w4 ⟨rfl, rfl⟩
    dsimp only
    go_wp2_with fail
    go_ret
    exact ⟨rfl, HB3.out⟩
  · obtain rfl : E = 0 := by omega
    clear he
    by_cases hdd : dir < -1 ∨ 1 < dir
    · have hdb : decide (-1 ≤ dir ∧ dir ≤ 1) = false := by simp; omega
      go_wp2_with fail
      refine HL1.out.mono ?_
      rintro e2 w2 ⟨hb, hx⟩
      rw [if_neg (show ¬ ((0 : Int) ≠ 0) from fun h => h rfl), if_pos hdd] at hx
      subst hx
      have HB2 := Lib.hid (HB1.out.trans (hb.mono HB1.out.size))
      have HBS := Lib.hid (base_any n T ta tc dir w2 (HIN.out.below (Nat.le_refl _) HB2.out) (by omega) (HT.out.below (Nat.le_refl _) HB2.out))
      unfold BasePost at HBS
      rw [← hE, if_neg (show ¬ ((0 : Int) ≠ 0) from fun h => h rfl), if_neg (show ¬ ((0 : Int) ≠ 0) from fun h => h rfl), if_pos hdd, if_pos hdd] at HBS
      dsimp only
      clear hb HL1 hE hdd
      go_wp2_with fail
      refine HBS.out.mono ?_
      rintro e3 w3 ⟨rfl, hb⟩
      have HB3 := Lib.hid (HB2.out.trans (hb.mono HB2.out.size))
      have HER := Lib.hid (bidiError_any n T ta tc w3 (HIN.out.below (Nat.le_refl _) HB3.out) (by omega))
      rw [← HE.out] at HER
      have HI := Lib.hid (in_any dir (-1) 1 w3)
      rw [hdb] at HI
      dsimp only
      clear hb HBS hdb
      go_wp2_with fail
      refine HER.out.mono ?_
      rintro e4 w4 ⟨rfl, rfl⟩
      dsimp only
      go_wp2_with fail
      refine HI.out.mono ?_
      rintro e5 w5 ⟨rfl, rfl⟩
      dsimp only
      go_wp2_with fail
      go_ret
      exact ⟨rfl, HB3.out⟩
    · have hdb : decide (-1 ≤ dir ∧ dir ≤ 1) = true := by simp; omega
      obtain ⟨base, hbase⟩ : ∃ b, b = baseB T n dir := ⟨_, rfl⟩
      have hbr : base = 0 ∨ base = 1 := by rw [hbase]; exact baseB_range hdd
      have HLOW := Lib.hid (low_eq (T := T) (n := n) hE.symm hdd)
      rw [← hbase] at HLOW
      go_wp2_with fail
      refine HL1.out.mono ?_
      rintro e2 w2 ⟨hb, hx⟩
      rw [if_neg (show ¬ ((0 : Int) ≠ 0) from fun h => h rfl), if_neg hdd, ← hbase] at hx
      obtain ⟨g, rfl, how, _⟩ := hx
      have HOW := Lib.hid how
      have HB2 := Lib.hid (HB1.out.trans (hb.mono HB1.out.size))
      have HBS := Lib.hid (base_any n T ta tc dir w2 (HIN.out.below (Nat.le_refl _) HB2.out) (by omega) (HT.out.below (Nat.le_refl _) HB2.out))
      unfold BasePost at HBS
      rw [← hE, if_neg (show ¬ ((0 : Int) ≠ 0) from fun h => h rfl), if_neg (show ¬ ((0 : Int) ≠ 0) from fun h => h rfl), if_neg hdd, if_neg hdd, ← hbase] at HBS
      dsimp only
      clear hb HL1 hE hdd how hbase
      go_wp2_with fail
      refine HBS.out.mono ?_
      rintro e3 w3 ⟨rfl, hb⟩
      have HB3 := Lib.hid (HB2.out.trans (hb.mono HB2.out.size))
      have HO3 := Lib.hid (HOW.out.below hb HOW.out.lt)
      have HER := Lib.hid (bidiError_any n T ta tc w3 (HIN.out.below (Nat.le_refl _) HB3.out) (by omega))
      rw [← HE.out] at HER
      have HI := Lib.hid (in_any dir (-1) 1 w3)
      rw [hdb] at HI
      have HPA := Lib.hid (para_any n T ta tc dir w3 (HIN.out.below (Nat.le_refl _) HB3.out) (by omega))
      rw [HLOW.out] at HPA
      dsimp only
      clear hb HBS hdb HLOW HOW
      go_wp2_with fail
      refine HER.out.mono ?_
      rintro e4 w4 ⟨rfl, rfl⟩
      dsimp only
      go_wp2_with fail
      refine HI.out.mono ?_
      rintro e5 w5 ⟨rfl, rfl⟩
      dsimp only
      go_wp2_with fail
      refine HPA.out.mono ?_
      rintro e6 w6 ⟨rfl, hb⟩
      have HB6 := Lib.hid (HB3.out.trans (hb.mono HB3.out.size))
      have HO6 := Lib.hid (HO3.out.below hb HO3.out.lt)
      have HRL := Lib.hid (levelsR_all (tc := tc) (HIN.out.below (Nat.le_refl _) HB6.out) hn2 hbr HE.out.symm (HTC.out.below (Nat.le_refl _) HB6.out))
      dsimp only
      clear hb HPA HER HI HO3 HB3
      go_wp2_with fail
      refine HRL.out.mono ?_
      rintro e7 w7 ⟨a7, c7, rfl, hr7, hb⟩
      have HB7 := Lib.hid (HB6.out.trans (hb.mono HB6.out.size))
      have HSM := Lib.hid (Ref.same_any n n _ _ _ _ n c7 w7 (HO6.out.below hb HO6.out.lt).ints hr7 (by omega) (by omega))
      rw [Ref.sameB_true.2 ⟨rfl, fun _ _ => rfl⟩] at HSM
      dsimp only
      clear hb HRL hr7
      go_wp2_with fail
      refine HSM.out.mono ?_
      rintro e8 w8 ⟨rfl, hb⟩
      have HB8 := Lib.hid (HB7.out.trans (hb.mono HB7.out.size))
      dsimp only
      clear hb HSM
      go_wp2_with fail
      go_ret
      exact ⟨rfl, HB8.out⟩
end Go.Proofs.YtojbicdmcodgdaaDoor.BD
