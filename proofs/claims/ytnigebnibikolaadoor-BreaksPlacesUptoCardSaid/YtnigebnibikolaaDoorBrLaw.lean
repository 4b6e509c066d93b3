
/-
  BreaksPlaces: the walk.
-/
import Derived.Test.YtnigebnibikolaaDoorBrPlaces
import Derived.Test.YtnigebnibikolaaDoorBrAt
import Derived.Test.YtnigebnibikolaaDoorMeLaw
namespace Go.Proofs.YtnigebnibikolaaDoor.BR
open Go.RowKit Go.Law Go.Law.Me Go.Law.Br Ref ME
set_option linter.unusedVariables false
set_option linter.unusedSimpArgs false
set_option maxRecDepth 100000
def T1 : Nat → Int := fun i => ([97, 32, 98, 45, 99] : List Int).getD i 0
theorem t1_ok : okText 5 T1 := by
  intro i hi
  have h1 : i = 0 ∨ i = 1 ∨ i = 2 ∨ i = 3 ∨ i = 4 := by omega
  rcases h1 with rfl | rfl | rfl | rfl | rfl <;> decide
theorem t1_n : outN T1 5 = 2 := by decide +kernel
theorem t1_l : outL T1 5 = [2, 0, 4, 0] := by decide +kernel
set_option maxHeartbeats 4000000 in
theorem law_bad (n : Nat) (t : Nat → Int) (a : Option Addr) (c : Nat) (w : World) (hT : MarkT w) (ha : IntsF w a n t) (hn : n ≤ 1000000000000000) (ht : charsE n t = 2) :
    Calls Tryd.prog 4 #[.slice a n c] w fun e w' => e = .returned (.bool true) ∧ Below w.heap.size w w' := by
  have hp := fun w1 (hb : Below w.heap.size w w1) => places_bad n t a c w1 (ha.below (Nat.le_refl _) hb) (by omega) ht
  have hce := fun w1 (hb : Below w.heap.size w w1) => charsError_any n t a c w1 (ha.below (Nat.le_refl _) hb) (by omega)
  rw [ht] at hce
  have HP := Lib.hid hp
  have HCH := Lib.hid hce
  clear hp hce ht
  have hex := fun a c w1 (h : MarkT w1) (h2 : IntsF w1 a 5 T1) => places_ok 5 T1 a c w1 h h2 (by omega) (charsE_ok t1_ok)
  unfold PlacesPost at hex
  rw [t1_n, t1_l] at hex
  have HEX := Lib.hid hex
  have HT := Lib.hid hT
  have HA := Lib.hid ha
  clear hex hT ha
  go_enter Tryd.func4, Tryd.ntmps4
  go_wp2_with fail
  refine (HEX.out _ _ _ (HT.out.below (Nat.le_refl _) ((Below.refl _ _).alloc (Nat.le_refl _) _)) ?hx).mono ?_
  case hx =>
    refine lit_ints fun i hi => ?_
    have h1 : i = 0 ∨ i = 1 ∨ i = 2 ∨ i = 3 ∨ i = 4 := by omega
    rcases h1 with rfl | rfl | rfl | rfl | rfl <;> simp [T1]
  rintro e w1 ⟨v, rfl, hrow, hb1⟩
  obtain ⟨g, cap, rfl, hg, hgl, hcap, hcm, hfz, hcells⟩ := hrow.at (by omega)
  have p0 := hcells 2 _ rfl
  have p1 := hcells 3 _ rfl
  have hbel : Below w.heap.size w w1 := ((Below.refl _ _).alloc (Nat.le_refl _) _).trans (hb1.mono (by simp))
  clear hb1 hrow hcells hfz HEX
  go_wp2_with fail
  refine (HP.out _ hbel).mono ?_
  rintro e w2 ⟨rfl, rfl⟩
  go_wp2_with fail
  refine (HCH.out _ hbel).mono ?_
  rintro e w3 ⟨rfl, rfl⟩
  go_wp2_with fail
  go_ret
  exact ⟨rfl, hbel⟩
set_option maxHeartbeats 8000000 in
theorem law_ok (n : Nat) (t : Nat → Int) (a : Option Addr) (c : Nat) (w : World) (hT : MarkT w) (ha : IntsF w a n t) (hnc : n ≤ c) (hcm : c ≤ maxLen) (hn : n ≤ 8000000000000) (ht : charsE n t = 0) :
    Calls Tryd.prog 4 #[.slice a n c] w fun e w' => e = .returned (.bool true) ∧ Below w.heap.size w w' := by
  obtain ⟨ii, hii, hz0, hz1, hz2⟩ := info_parts (show (Tryd.prog.info? 32).map (fun i => (i.zero, i.size, i.bytes)) = some (some (.agg #[.int .i64 0, .int .i64 0]), 2, 16) by kernel_rfl)
  have hp := fun w1 (hb : Below w.heap.size w w1) (hT1 : MarkT w1) => places_ok n t a c w1 hT1 (ha.below (Nat.le_refl _) hb) hn ht
  unfold PlacesPost at hp
  have hce := fun w1 (hb : Below w.heap.size w w1) => charsError_any n t a c w1 (ha.below (Nat.le_refl _) hb) (by omega)
  rw [ht] at hce
  have HP := Lib.hid hp
  have HCH := Lib.hid hce
  clear hp hce ht
  have hex := fun a c w1 (h : MarkT w1) (h2 : IntsF w1 a 5 T1) => places_ok 5 T1 a c w1 h h2 (by omega) (charsE_ok t1_ok)
  unfold PlacesPost at hex
  rw [t1_n, t1_l] at hex
  have HEX := Lib.hid hex
  have HT := Lib.hid hT
  have HA := Lib.hid ha
  clear hex hT ha
  go_enter Tryd.func4, Tryd.ntmps4
  go_wp2_with fail
  refine (HEX.out _ _ _ (HT.out.below (Nat.le_refl _) ((Below.refl _ _).alloc (Nat.le_refl _) _)) ?hx).mono ?_
  case hx =>
    refine lit_ints fun i hi => ?_
    have h1 : i = 0 ∨ i = 1 ∨ i = 2 ∨ i = 3 ∨ i = 4 := by omega
    rcases h1 with rfl | rfl | rfl | rfl | rfl <;> simp [T1]
  rintro e w1 ⟨v, rfl, hrow, hb1⟩
  obtain ⟨g, cap, rfl, hg, hgl, hcap, hcm, hfz, hcells⟩ := hrow.at (by omega)
  have p0 := hcells 2 _ rfl
  have p1 := hcells 3 _ rfl
  have hbel : Below w.heap.size w w1 := ((Below.refl _ _).alloc (Nat.le_refl _) _).trans (hb1.mono (by simp))
  clear hb1 hrow hcells hfz HEX
  go_wp2_with fail
  refine (HP.out _ hbel (HT.out.below (Nat.le_refl _) hbel)).mono ?_
  rintro e w2 ⟨v5, rfl, hrow5, hb2⟩
  have hb2 := hbel.trans (hb2.mono hbel.size)
  have hs2 := hb2.size
  obtain ⟨a5, c5, rfl, hn5, hm5⟩ := RowL.slice hrow5
  have HR5 := Lib.hid hrow5
  clear HP hrow5 hbel
  go_wp2_with fail
  refine (HCH.out _ hb2).mono ?_
  rintro e w3 ⟨rfl, rfl⟩
  clear HCH p0 p1 hg hgl hcap hcm
  by_cases hbig : 300 < n
  · go_wp2_with fail
    go_ret
    exact ⟨rfl, hb2⟩
  · go_wp2_with fail
    have HO1 := Lib.hid (⟨show outN t 1 = 0 from rfl, show outL t 1 = [] from rfl⟩ : outN t 1 = 0 ∧ outL t 1 = [])
    go_loopw [8, 9] (fun wv iv wr => ∃ k : Nat, iv = .int .i64 k ∧ 1 ≤ k ∧ (k ≤ n ∨ k = 1) ∧ RowL wr w2.heap.size 32 2 wv (outN t k) ((outL t k).map (Value.int .i64)) ∧ Below w2.heap.size w2 wr) (fun _ iv _ => n - (intOf iv).toNat)
    case atStart => exact ⟨1, rfl, by omega, .inr rfl, RowL.nil _ _ _ _, Below.refl _ _⟩
    case round =>
      obtain ⟨k, rfl, hk1, hk, hrow, hbw⟩ := hrel
      have hlen := outN_le t k
      have hsw := hbw.size
      by_cases hkn : k < n
      · have hba := breakAt_any n t a c k wr ((HA.out.below (Nat.le_refl _) (hb2.trans (hbw.mono hs2)))) hnc (by omega) hk1 hkn
        have hol : outL t (k + 1) = if 0 < k ∧ 0 ≤ brkAt t k then outL t k ++ [(k : Int), brkAt t k] else outL t k := rfl
        have hon : outN t (k + 1) = if 0 < k ∧ 0 ≤ brkAt t k then outN t k + 1 else outN t k := rfl
        obtain ⟨V, hV⟩ : ∃ V, V = brkAt t k := ⟨_, rfl⟩
        rw [← hV] at hba hol hon
        have HB := Lib.hid hba
        clear hV hba
        by_cases hv : 0 ≤ V
        · rw [if_pos ⟨by omega, hv⟩] at hol hon
          have HOL := Lib.hid hol
          have HON := Lib.hid hon
          clear hol hon
          go_wp2_with fail
          refine HB.out.mono ?_
          rintro e w4 ⟨rfl, hb4⟩
          have hrow4 := hrow.below hb4 (Nat.le_refl _)
          have hbw4 := hbw.trans (hb4.mono hsw)
          have hs4 := hbw4.size
          clear hb4 hrow hbw HB
          go_wp2_with (at_builtin; go_loud (refine wpList_append_own _ rfl _ _ 27 rfl w2.heap.size 32 ii (.agg #[.int .i64 0, .int .i64 0]) 2 16 Tryd.underlying27 hii hz0 hz1 hz2 rfl (by decide) _ _ _ rfl (hrow4.alloc _) ⟨w4.heap.size, 0, none⟩ 1 1 [.int .i64 (k : Int), .int .i64 V] rfl rfl ?c1 ?c2 ?c3 ?c4 ?c5 ?_))
          case c1 =>
            intro j u hj
            match j, hj with
            | 0, hj => simp at hj; subst hj; simp [Addr.add]
            | 1, hj => simp at hj; subst hj; simp [Addr.add]
          case c2 => first | exact ⟨rfl, rfl⟩ | (intro u hu; simp at hu; rcases hu with rfl | rfl <;> rfl)
          case c3 => unfold maxLen; omega
          case c4 => omega
          case c5 => simp; omega
          intro v' w5 hown' hgrow _
          have hbw5 : Below w2.heap.size w2 w5 := below_grown hbw4 hs4 hrow4 hgrow
          clear hgrow hrow4 hbw4
          go_wp2_with fail
          go_roundw
          case rel => exact ⟨k + 1, by go_num, by omega, .inl (by omega), by rw [HOL.out, HON.out]; simpa using hown', hbw5⟩
          case measure => simp [intOf]; omega
        · rw [if_neg (fun h => hv h.2)] at hol hon
          have HOL := Lib.hid hol
          have HON := Lib.hid hon
          clear hol hon
          go_wp2_with fail
          refine HB.out.mono ?_
          rintro e w4 ⟨rfl, hb4⟩
          have hrow4 := hrow.below hb4 (Nat.le_refl _)
          have hbw4 := hbw.trans (hb4.mono hsw)
          clear hb4 hrow hbw HB
          go_wp2_with fail
          go_roundw
          case rel => exact ⟨k + 1, by go_num, by omega, .inl (by omega), by rw [HOL.out, HON.out]; exact hrow4, hbw4⟩
          case measure => simp [intOf]; omega
      · have hkk : outN t k = outN t n ∧ outL t k = outL t n := by
          by_cases h : k = n
          · rw [h]; exact ⟨rfl, rfl⟩
          · obtain rfl : k = 1 := by omega
            obtain rfl : n = 0 := by omega
            exact ⟨rfl, rfl⟩
        rw [hkk.1, hkk.2] at hrow
        have hr5 := HR5.out.below hbw (Nat.le_refl _)
        have hbA := hb2.trans (hbw.mono hs2)
        have hl5 := RowL.len hr5
        have hle := outN_le t n
        clear hkk hlen HR5 HO1 hbw hb2
        obtain ⟨N, hN⟩ : ∃ N, N = outN t n := ⟨_, rfl⟩
        obtain ⟨L, hL⟩ : ∃ L, L = outL t n := ⟨_, rfl⟩
        rw [← hN] at hrow hr5 hl5 hle hn5 ⊢
        rw [← hL] at hrow hr5 hl5
        obtain ⟨a8, c8, rfl, hn8, hm8⟩ := RowL.slice hrow
        have hc5 := fun h => RowL.at hr5 h
        have hc8 := fun h => RowL.at hrow h
        have HC5 := Lib.hid hc5
        have HC8 := Lib.hid hc8
        have e1 : ((N : Int) != (N : Int)) = false := by simp
        simp only [List.length_map] at hl5
        have HLL := Lib.hid hl5
        clear hN hL hc5 hc8 hrow hr5 hl5
        go_wp2_with fail
        go_loopw [81] (fun iv wx => ∃ (i q : Nat), iv = .int .i64 i ∧ i ≤ N ∧ wx = wr.drewN q) (fun iv _ => N - (intOf iv).toNat)
        case atStart => exact ⟨0, 0, rfl, by omega, rfl⟩
        case round =>
          obtain ⟨i, q, rfl, hi, rfl⟩ := hrel
          by_cases hiN : i < N
          · obtain ⟨g5, cap5, h5, _, _, _, _, _, hx5⟩ := HC5.out (by omega)
            obtain ⟨g8, cap8, h8, _, _, _, _, _, hx8⟩ := HC8.out (by omega)
            cases h5
            cases h8
            have hle0 : i * 2 + 1 < L.length := by rw [HLL.out]; omega
            obtain ⟨x, hx⟩ : ∃ x, L[i * 2]? = some x := ⟨_, List.getElem?_eq_getElem (by omega)⟩
            obtain ⟨y, hy⟩ : ∃ y, L[i * 2 + 1]? = some y := ⟨_, List.getElem?_eq_getElem hle0⟩
            have d1 := hx5 (i * 2) (.int .i64 x) (by rw [List.getElem?_map, hx]; rfl)
            have d2 := hx5 (i * 2 + 1) (.int .i64 y) (by rw [List.getElem?_map, hy]; rfl)
            have d3 := hx8 (i * 2) (.int .i64 x) (by rw [List.getElem?_map, hx]; rfl)
            have d4 := hx8 (i * 2 + 1) (.int .i64 y) (by rw [List.getElem?_map, hy]; rfl)
            have i1 : (0 : Int) ≤ (i : Int) := by omega
            have i2 : (i : Int) < (N : Int) := by omega
            have e2 : (x != x) = false := by simp
            have e3 : (y != y) = false := by simp
            clear hx5 hx8 hx hy hle0
            go_wp2_with fail
            go_quiet (fail)
            go_wp2_with fail
            go_roundw
            case rel => exact ⟨i + 1, q + nq, by go_num, by omega, by simp [World.drewN_drewN]⟩
            case measure => simp [intOf]; omega
          · obtain rfl : N = i := by omega
            go_wp2_with fail
            go_ret
            exact ⟨rfl, below_drewN hbA _⟩
theorem law_any (n : Nat) (t : Nat → Int) (a : Option Addr) (c : Nat) (w : World) (hT : MarkT w) (ha : IntsF w a n t) (hnc : n ≤ c) (hcm : c ≤ maxLen) (hn : n ≤ 8000000000000) :
    Calls Tryd.prog 4 #[.slice a n c] w fun e w' => e = .returned (.bool true) ∧ Below w.heap.size w w' := by
  by_cases ht : okText n t
  · exact law_ok n t a c w hT ha hnc hcm hn (charsE_ok ht)
  · exact law_bad n t a c w hT ha (by omega) (charsE_bad ht)
end Go.Proofs.YtnigebnibikolaaDoor.BR
