
/-
  breaks.check and Places.
-/
import Derived.Test.YtnigebnibikolaaDoorBrStep
import Derived.Test.YtnigebnibikolaaDoorMeChk
import Derived.Laws.AppendOwn
namespace Go.Proofs.YtnigebnibikolaaDoor.BR
open Go.RowKit Go.Law Go.Law.Me Go.Law.Br Ref ME
set_option linter.unusedVariables false
set_option linter.unusedSimpArgs false
set_option maxRecDepth 100000
set_option maxHeartbeats 2000000 in
theorem check_any (n : Nat) (t : Nat → Int) (a : Option Addr) (c : Nat) (w : World) (ha : IntsF w a n t) (hn : n ≤ 1000000000000000000) :
    Calls Tryd.prog 42 #[.slice a n c] w fun e w' => e = .returned (.int .i64 (charsE n t)) ∧ w = w' := by
  have HA := Lib.hid ha
  have HBAD := Lib.hid (@charsE_bad n t)
  have HOK := Lib.hid (@charsE_ok n t)
  unfold okText at *
  obtain ⟨V, hV⟩ : ∃ V, V = charsE n t := ⟨_, rfl⟩
  rw [← hV] at HBAD HOK ⊢
  clear hV ha
  go_enter Tryd.func42, Tryd.ntmps42
  go_wp2_with fail
  go_loopw [7] (fun ix wr => ∃ k : Nat, ix = .int .i64 k ∧ k ≤ n ∧ (∀ i, i < k → 0 ≤ t i ∧ t i ≤ 1114111) ∧ w = wr) (fun ix _ => n - (intOf ix).toNat)
  case atStart => exact ⟨0, rfl, by omega, fun i hi => by omega, rfl⟩
  case round =>
    obtain ⟨k, rfl, hk, hall, rfl⟩ := hrel
    have HALL := Lib.hid hall
    clear hall
    by_cases hkn : k < n
    · obtain ⟨b, off, rfl, hcell⟩ := HA.out (by omega)
      have d1 := hcell k hkn
      clear hcell
      by_cases hr : 0 ≤ t k ∧ t k ≤ 1114111
      · have HR := Lib.hid hr
        obtain ⟨hr1, hr2⟩ := hr
        go_wp2_with fail
        go_roundw
        case rel => exact ⟨k + 1, by go_num, by omega, fun i hi => by rcases Nat.lt_or_ge i k with h | h; exact HALL.out i h; rw [show i = k by omega]; exact HR.out, trivial⟩
        case measure => simp [intOf]; omega
      · have HE := Lib.hid (HBAD.out (fun h => hr (h k hkn)))
        have h' : t k < 0 ∨ 1114111 < t k := by omega
        clear hr
        rcases h' with h | h
        · go_wp2_with fail
          go_ret
          exact ⟨by rw [HE.out]; rfl, rfl⟩
        · have h2 : ¬ t k < 0 := by omega
          go_wp2_with fail
          go_ret
          exact ⟨by rw [HE.out]; rfl, rfl⟩
    · obtain rfl : n = k := by omega
      have HE := Lib.hid (HOK.out HALL.out)
      go_wp2_with fail
      go_ret
      exact ⟨by rw [HE.out]; rfl, rfl⟩
theorem places_bad (n : Nat) (t : Nat → Int) (a : Option Addr) (c : Nat) (w : World) (ha : IntsF w a n t) (hn : n ≤ 1000000000000000000) (ht : charsE n t = 2) :
    Calls Tryd.prog 15 #[.slice a n c] w fun e w' => e = .returned (.tuple #[.slice none 0 0, .int .i64 2]) ∧ w = w' := by
  have hc := check_any n t a c w ha hn
  rw [ht] at hc
  have HC := Lib.hid hc
  clear hc ht ha
  go_enter Tryd.func15, Tryd.ntmps15
  go_wp2_with fail
  refine HC.out.mono ?_
  rintro e w1 ⟨rfl, rfl⟩
  go_wp2_with fail
  go_ret2
  exact ⟨rfl, rfl⟩
theorem scan_spaces (t : Nat → Int) : ∀ n : Nat, 0 ≤ (scanN t n).spaces ∧ (scanN t n).spaces ≤ n
  | 0 => by simp [scanN, scan0]
  | n + 1 => by
    have h := scan_spaces t n
    simp only [scanN, Scan.step]
    have hp : ∀ k j, 0 ≤ ((scanN t n).put k j).spaces ∧ ((scanN t n).put k j).spaces ≤ (n : Int) + 1 := by
      intro k j
      simp only [Scan.put]
      split <;> omega
    split
    · split
      · simp only []; omega
      · have := hp 0 (decide (t n = 8205)); omega
    · have := hp (clsC (t n)) (decide (t n = 8205)); omega
def PlacesPost (n : Nat) (t : Nat → Int) (w : World) (e : Ending) (w' : World) : Prop :=
  ∃ v, e = .returned (.tuple #[v, .int .i64 0]) ∧ RowL w' w.heap.size 32 2 v (outN t n) ((outL t n).map (Value.int .i64)) ∧ Below w.heap.size w w'
set_option maxHeartbeats 4000000 in
theorem places_ok (n : Nat) (t : Nat → Int) (a : Option Addr) (c : Nat) (w : World) (hT : MarkT w) (ha : IntsF w a n t) (hn : n ≤ 8000000000000) (ht : charsE n t = 0) :
    Calls Tryd.prog 15 #[.slice a n c] w (PlacesPost n t w) := by
  obtain ⟨ii, hii, hz0, hz1, hz2⟩ := info_parts (show (Tryd.prog.info? 32).map (fun i => (i.zero, i.size, i.bytes)) = some (some (.agg #[.int .i64 0, .int .i64 0]), 2, 16) by kernel_rfl)
  have hc := check_any n t a c w ha (by omega)
  rw [ht] at hc
  have HC := Lib.hid hc
  have HA := Lib.hid ha
  have HT := Lib.hid hT
  clear hc ht ha hT
  go_enter Tryd.func15, Tryd.ntmps15
  go_wp2_with fail
  refine HC.out.mono ?_
  rintro e w1 ⟨rfl, rfl⟩
  clear HC
  go_wp2_with fail
  go_loopw [5, 19] (fun ov iv wr => ∃ k : Nat, iv = .int .i64 k ∧ k ≤ n ∧ RowL wr (w.heap.size + 1) 32 2 ov (outN t k) ((outL t k).map (Value.int .i64)) ∧ ScanAt wr w.heap.size (scanN t k) ∧ Below w.heap.size w wr) (fun _ iv _ => n - (intOf iv).toNat)
  case atStart =>
    refine ⟨0, rfl, by omega, RowL.nil _ _ _ _, ?_, ?_⟩
    · exact ScanAt.of (Blk.new w _ _) rfl
    · exact (Below.refl _ _).alloc (Nat.le_refl _) _
  case round =>
    obtain ⟨k, rfl, hk, hrow, hsc, hbel⟩ := hrel
    have hsz := hbel.size
    by_cases hkn : k < n
    · obtain ⟨b, off, rfl, hcell⟩ := (HA.out.below (Nat.le_refl _) hbel) (by omega)
      have d1 := hcell k hkn
      clear hcell
      have hst := fun w1 (hb : Below w.heap.size w w1) (h : ScanAt w1 w.heap.size (scanN t k)) => step_any w.heap.size (scanN t k) (t k) w1 (HT.out.below (Nat.le_refl _) hb) h (by have := scan_spaces t k; omega)
      have HST := Lib.hid hst
      have hlen := outN_le t k
      by_cases hk0 : k ≤ 0
      · have HOL := Lib.hid (show outL t (k + 1) = outL t k from if_neg (fun h => by omega))
        have HON := Lib.hid (show outN t (k + 1) = outN t k from if_neg (fun h => by omega))
        go_wp2_with fail
        refine (HST.out wr hbel hsc).mono ?_
        rintro e w2 ⟨rfl, hsc2, hon⟩
        have hb2 := hbel.trans (hon.to_below hsz (Nat.le_refl _))
        have hrow2 := hrow.only hon (fun h => by have := hrow.ge _ h; omega)
        clear hon hrow hsc hbel HST
        go_wp2_with fail
        go_roundw
        case rel => exact ⟨k + 1, by go_num, by omega, by rw [HOL.out, HON.out]; exact hrow2, hsc2, hb2⟩
        case measure => simp [intOf]; omega
      · have hm := may_any w.heap.size (scanN t k) (t k) wr (HT.out.below (Nat.le_refl _) hbel) hsc (scan_spaces t k).1
        rw [may_same t (by omega)] at hm
        unfold MayPost at hm
        have hol : outL t (k + 1) = if 0 < k ∧ 0 ≤ brkAt t k then outL t k ++ [(k : Int), brkAt t k] else outL t k := rfl
        have hon : outN t (k + 1) = if 0 < k ∧ 0 ≤ brkAt t k then outN t k + 1 else outN t k := rfl
        obtain ⟨V, hV⟩ : ∃ V, V = brkAt t k := ⟨_, rfl⟩
        rw [← hV] at hm hol hon
        clear hV
        by_cases hp : 0 ≤ V
        · rw [if_pos ⟨by omega, hp⟩] at hol hon
          have hd : decide (0 ≤ V) = true := by simpa using hp
          rw [hd] at hm
          have HM := Lib.hid hm
          have HOL := Lib.hid hol
          have HON := Lib.hid hon
          clear hol hon hm hd
          go_wp2_with fail
          refine HM.out.mono ?_
          rintro e w2 ⟨kd, rfl, hkd, hb2⟩
          obtain rfl := hkd hp
          have hsc2 : ScanAt w2 w.heap.size (scanN t k) := hsc.below hb2 hsc.lt
          have hrow2 := hrow.below hb2 (Nat.le_refl _)
          have hb3 := hbel.trans (hb2.mono hbel.size)
          have hs3 := hb3.size
          clear hb2 hrow hsc hbel HM
          go_wp2_with (at_builtin; go_loud (refine wpList_append_own _ rfl _ _ 27 rfl (w.heap.size + 1) 32 ii (.agg #[.int .i64 0, .int .i64 0]) 2 16 Tryd.underlying27 hii hz0 hz1 hz2 rfl (by decide) _ _ _ rfl (hrow2.alloc _) ⟨w2.heap.size, 0, none⟩ 1 1 [.int .i64 (k : Int), .int .i64 kd] rfl rfl ?c1 ?c2 ?c3 ?c4 ?c5 ?_))
          case c1 =>
            intro j u hj
            match j, hj with
            | 0, hj => simp at hj; subst hj; simp [Addr.add]
            | 1, hj => simp at hj; subst hj; simp [Addr.add]
          case c2 => first | exact ⟨rfl, rfl⟩ | (intro u hu; simp at hu; rcases hu with rfl | rfl <;> rfl)
          case c3 => unfold maxLen; omega
          case c4 => omega
          case c5 => have := hsc2.lt; simp; omega
          intro v' w4 hown' hgrow _
          have hb4 : Below w.heap.size w w4 := below_grown hb3 hs3 (hrow2.mono (by omega)) hgrow
          have hsc4 : ScanAt w4 w.heap.size (scanN t k) := (hsc2.alloc _).block (hgrow.block _ (by have := hsc2.lt; simp; omega) (fun h => by have := hrow2.ge _ h.symm; omega))
          clear hgrow hrow2 hsc2 hb3
          go_wp2_with fail
          refine (HST.out _ hb4 hsc4).mono ?_
          rintro e w5 ⟨rfl, hsc5, hon5⟩
          have hb5 := hb4.trans (hon5.to_below hb4.size (Nat.le_refl _))
          have hrow5 : RowL w5 (w.heap.size + 1) 32 2 v' (outN t k + 1) _ := RowL.only hown' hon5 (fun h => by have := RowL.ge hown' _ h; omega)
          clear hon5 hown' hsc4 hb4 HST
          go_wp2_with fail
          go_roundw
          case rel => exact ⟨k + 1, by go_num, by omega, by rw [HOL.out, HON.out]; simpa using hrow5, hsc5, hb5⟩
          case measure => simp [intOf]; omega
        · rw [if_neg (fun h => hp h.2)] at hol hon
          have hd : decide (0 ≤ V) = false := by simpa using hp
          rw [hd] at hm
          have HM := Lib.hid hm
          have HOL := Lib.hid hol
          have HON := Lib.hid hon
          clear hol hon hm hd
          go_wp2_with fail
          refine HM.out.mono ?_
          rintro e w2 ⟨kd, rfl, _, hb2⟩
          have hsc2 : ScanAt w2 w.heap.size (scanN t k) := hsc.below hb2 hsc.lt
          have hrow2 := hrow.below hb2 (Nat.le_refl _)
          have hb3 := hbel.trans (hb2.mono hbel.size)
          have hs3 := hb3.size
          clear hb2 hrow hsc hbel HM
          go_wp2_with fail
          refine (HST.out _ hb3 hsc2).mono ?_
          rintro e w5 ⟨rfl, hsc5, hon5⟩
          have hb5 := hb3.trans (hon5.to_below hb3.size (Nat.le_refl _))
          have hrow5 := hrow2.only hon5 (fun h => by have := hrow2.ge _ h; omega)
          clear hon5 hrow2 hsc2 hb3 HST
          go_wp2_with fail
          go_roundw
          case rel => exact ⟨k + 1, by go_num, by omega, by rw [HOL.out, HON.out]; exact hrow5, hsc5, hb5⟩
          case measure => simp [intOf]; omega
    · obtain rfl : n = k := by omega
      go_wp2_with fail
      go_ret2
      exact ⟨_, rfl, hrow.mono (by omega), hbel⟩
end Go.Proofs.YtnigebnibikolaaDoor.BR
