/-
  BdBaseW, BdPmatW, BdBlankW, BdExpP, Parts.
-/
import Derived.Test.YtojbicdmcodgdaaDoorBdM03
import Derived.BigRegion
import Derived.Test.YtojbicdmcodgdaaDoorBdM02
import Derived.Deep.CutRange
import Derived.Deep.CutBlock
import Derived.Says
namespace Go.Proofs.YtojbicdmcodgdaaDoor.BD
open Go.RowKit Go.Law Go.Law.Bd
set_option linter.unusedVariables false
set_option linter.unusedSimpArgs false
set_option maxRecDepth 100000
set_option maxHeartbeats 1000000 in
theorem class_any (c : Int) (w : World) (ht : TabC w 1 3 tableT) :
    Calls Tryd.prog 31 #[.int .i64 c] w fun e w' => e = .returned (.int .i64 (clsB c)) ∧ Below w.heap.size w w' := by
  obtain ⟨b, off, cap, h1, h2⟩ := ht.of_tab
  rw [tableC_len] at h1 h2
  have HT := Lib.hid h2
  clear h2
  go_enter Tryd.func31, Tryd.ntmps31
  go_wp2
  go_loopw [7] (fun ix wr => ∃ k : Nat, ix = .int .i64 k ∧ k ≤ 65 ∧ (∀ j, j < k → hit tableT c j = false) ∧ Below w.heap.size w wr) (fun ix _ => 65 - (intOf ix).toNat)
  case atStart => exact ⟨0, rfl, by omega, fun j hj => by omega, Below.refl _ _⟩
  case round =>
    obtain ⟨k, rfl, hk, hno, hbel⟩ := hrel
    have HN := Lib.hid hno
    clear hno
    by_cases hk7 : k < 65
    · have d0 := (hbel.cell (lt_of_cell (HT.out k 0 hk7 (by omega)))).trans (HT.out k 0 hk7 (by omega))
      have d1 := (hbel.cell (lt_of_cell (HT.out k 1 hk7 (by omega)))).trans (HT.out k 1 hk7 (by omega))
      have d2 := (hbel.cell (lt_of_cell (HT.out k 2 hk7 (by omega)))).trans (HT.out k 2 hk7 (by omega))
      rw [Nat.add_zero] at d0
      have hsz := hbel.size
      obtain ⟨x, hx⟩ : ∃ x, x = ent tableT k 0 := ⟨_, rfl⟩
      obtain ⟨y, hy⟩ : ∃ y, y = ent tableT k 1 := ⟨_, rfl⟩
      obtain ⟨z, hz⟩ : ∃ z, z = ent tableT k 2 := ⟨_, rfl⟩
      have HH := Lib.hid (show hit tableT c k = decide (x ≤ c ∧ c ≤ y) by rw [hx, hy]; rfl)
      rw [← hx] at d0
      rw [← hy] at d1
      rw [← hz] at d2
      have HZ := Lib.hid hz
      clear hx hy hz
      by_cases hc : x ≤ c ∧ c ≤ y
      · have HL := Lib.hid (show clsB c = z by unfold clsB; rw [lookR_hit c tableT k hk7 HN.out (by rw [HH.out]; simpa using hc), HZ.out])
        go_wp2
        go_ret
        refine ⟨by rw [HL.out]; rfl, ?_⟩
        repeat' (with_reducible first | exact Below.refl _ _ | assumption | refine Below.setCell ?_ ?_ _ | refine Below.alloc ?_ ?_ _ | refine below_drewN ?_ _ | refine Below.drew ?_)
        all_goals first | omega | (simp; done) | (simp; omega)
      · have HC := Lib.hid hc
        clear hc
        go_wp2
        all_goals first | (exfalso; have := HC.out; omega) | skip
        all_goals
          go_roundw
          case rel =>
            refine ⟨k + 1, by go_num, by omega, fun j hj => ?_, ?_⟩
            · rcases Nat.lt_or_ge j k with h | h
              · exact HN.out j h
              · rw [show j = k by omega, HH.out]; simpa using HC.out
            · repeat' (with_reducible first | exact Below.refl _ _ | assumption | refine Below.setCell ?_ ?_ _ | refine Below.alloc ?_ ?_ _ | refine below_drewN ?_ _ | refine Below.drew ?_)
              all_goals first | omega | (simp; done) | (simp; omega)
          case measure => simp [intOf]; omega
    · obtain rfl : k = 65 := by omega
      have HL := Lib.hid (show clsB c = 0 by unfold clsB; rw [← List.append_nil tableT, lookR_append c tableT [] HN.out]; rfl)
      go_wp2
      go_ret
      exact ⟨by rw [HL.out]; rfl, hbel⟩
def ClsPost (w : World) (n : Nat) (T : Nat → Int) (e : Ending) (w' : World) : Prop :=
  ∃ g, e = .returned (.slice (some ⟨g, 0, none⟩) n n) ∧ OwnF w' 3 g n (fun i => clsB (T i)) ∧ w.heap.size ≤ g ∧ Below w.heap.size w w'
set_option maxHeartbeats 1000000 in
theorem classes_any (n : Nat) (T : Nat → Int) (a : Option Addr) (c : Nat) (w : World) (ha : IntsF w a n T) (hn : n ≤ 1000) (ht : TabC w 1 3 tableT) :
    Calls Tryd.prog 12 #[.slice a n c] w (ClsPost w n T) := by
  have HA := Lib.hid ha
  have HT := Lib.hid ht
  clear ha ht
  have hmk := Ref.make_ints n (by omega) w
  obtain ⟨C, hC⟩ : ∃ C : Nat → Int, C = fun i => clsB (T i) := ⟨_, rfl⟩
  have HC := Lib.hid (show ∀ i, C i = clsB (T i) from fun i => by rw [hC])
  unfold ClsPost
  rw [← hC]
  clear hC
  go_enter Tryd.func12, Tryd.ntmps12
  go_wp2_with fail
  obtain ⟨w1, hw1⟩ : ∃ w1, w1 = w.alloc (.cells (madeCells #[.int .i64 0] n) 3) := ⟨_, rfl⟩
  have HB1 := Lib.hid (show Below w.heap.size w w1 by rw [hw1]; exact (Below.refl _ _).alloc (Nat.le_refl _) _)
  have HO1 := Lib.hid (show OwnF w1 3 w.heap.size n (fun _ => 0) by rw [hw1]; exact OwnF.make _ n)
  rw [← hw1]
  obtain ⟨g, hg⟩ : ∃ g, g = w.heap.size := ⟨_, rfl⟩
  rw [← hg] at HO1 ⊢
  have hgw : w.heap.size ≤ g := by omega
  clear hw1 hmk hg
  go_loopw [11] (fun iv wr => ∃ i : Nat, iv = .int .i64 i ∧ i ≤ n ∧ OwnF wr 3 g n (prt C (fun _ => 0) i) ∧ Below w.heap.size w wr) (fun iv _ => n - (intOf iv).toNat)
  case atStart => exact ⟨0, rfl, by omega, HO1.out.congr fun i _ => (prt_zero C (fun _ => 0) i).symm, HB1.out⟩
  case round =>
    clear HO1 HB1
    obtain ⟨i, rfl, hi, ho, hbel⟩ := hrel
    have HO := Lib.hid ho
    have HB := Lib.hid hbel
    clear ho hbel
    by_cases hin : i < n
    · obtain ⟨b, off, rfl, hcell⟩ := (HA.out.below (Nat.le_refl _) HB.out) (by omega)
      have d0 := hcell i hin
      clear hcell
      go_wp2_with fail
      refine (class_any (T i) wr (HT.out.below (Nat.le_refl _) HB.out)).mono ?_
      rintro e w2 ⟨rfl, hb2⟩
      rw [← HC.out]
      have ho2 := HO.out.below hb2 HO.out.lt
      have HB2 := Lib.hid (HB.out.trans (hb2.mono HB.out.size))
      have HO2 := Lib.hid ho2
      have z1 := ho2.frozen i
      have z2 := ho2.cell hin
      clear ho2 hb2 d0 HO HB
      go_wp2_with fail
      go_roundw
      case rel => exact ⟨i + 1, by go_num, by omega, (HO2.out.set i (C i)).congr fun j _ => prt_set _ _ i rfl j, HB2.out.setCell (by simpa using hgw) _⟩
      case measure => simp [intOf]; omega
    · obtain rfl : i = n := by omega
      go_wp2_with fail
      go_ret
      exact ⟨g, rfl, HO.out.congr fun j hj => prt_lt hj, hgw, HB.out⟩
set_option maxHeartbeats 1000000 in
theorem check_any (n : Nat) (T : Nat → Int) (a : Option Addr) (c : Nat) (w : World) (ha : IntsF w a n T) (hn : n ≤ 1000) :
    Calls Tryd.prog 21 #[.slice a n c] w fun e w' => e = .returned (.int .i64 (textE T n)) ∧ w = w' := by
  have HA := Lib.hid ha
  clear ha
  have h9 : ¬ (100000 : Int) < (n : Int) := by omega
  go_enter Tryd.func21, Tryd.ntmps21
  go_wp2_with fail
  go_loopw [10] (fun iv wr => ∃ i : Nat, iv = .int .i64 i ∧ i ≤ n ∧ (∀ j, j < i → erT T j = 0) ∧ w = wr) (fun iv _ => n - (intOf iv).toNat)
  case atStart => exact ⟨0, rfl, by omega, fun j hj => by omega, rfl⟩
  case round =>
    obtain ⟨i, rfl, hi, hno, rfl⟩ := hrel
    have HN := Lib.hid hno
    clear hno
    by_cases hin : i < n
    · obtain ⟨b, off, rfl, hcell⟩ := HA.out (by omega)
      have d0 := hcell i hin
      obtain ⟨x, hx⟩ : ∃ x, x = T i := ⟨_, rfl⟩
      rw [← hx] at d0
      have HX := Lib.hid hx
      clear hx
      have HR := Lib.hid (fun v (h1 : erT T i = v) (h2 : v ≠ 0) => show textE T n = v from (firstE_at hin HN.out (by rw [h1]; exact h2)).trans h1)
      by_cases hx : x < 0 ∨ 1114111 < x
      · have HZ := Lib.hid (HR.out 2 (by unfold erT; rw [← HX.out, if_pos hx]) (by decide))
        clear hcell
        by_cases hx0 : x < 0
        · clear hx
          go_wp2_with fail
          go_ret
          exact ⟨by rw [HZ.out]; rfl, rfl⟩
        · have hx1 : 1114111 < x := by omega
          clear hx
          go_wp2_with fail
          go_ret
          exact ⟨by rw [HZ.out]; rfl, rfl⟩
      · have hx0 : ¬ x < 0 := by omega
        have hx1 : ¬ 1114111 < x := by omega
        by_cases hi0 : i = 0
        · have HZ := Lib.hid (show erT T i = 0 by unfold erT; rw [← HX.out, if_neg hx, if_neg (by omega)])
          subst hi0
          rw [Nat.add_zero] at d0
          clear hx hcell
          go_wp2_with fail
          go_roundw
          case rel => exact ⟨0 + 1, by go_num, by omega, fun j hj => by rw [show j = 0 by omega]; exact HZ.out, trivial⟩
          case measure => simp [intOf]; omega
        · have d1 := hcell (i - 1) (by omega)
          have e1 : (i : Int) - 1 = ((i - 1 : Nat) : Int) := by omega
          have hw1 := IntWalk.i64_in ((i - 1 : Nat) : Int) (by omega)
          have h0 : (0 : Int) < (i : Int) := by omega
          have h1 : ((i - 1 : Nat) : Int) < (n : Int) := by omega
          have h2 : (0 : Int) ≤ ((i - 1 : Nat) : Int) := by omega
          obtain ⟨y, hy⟩ : ∃ y, y = T (i - 1) := ⟨_, rfl⟩
          rw [← hy] at d1
          have HY := Lib.hid hy
          clear hy hcell
          by_cases hy : y = 10
          · have HZ := Lib.hid (HR.out 4 (by unfold erT; rw [← HX.out, if_neg hx, if_pos ⟨by omega, by rw [← HY.out]; exact hy⟩]) (by decide))
            subst hy
            clear hx
            go_wp2_with fail
            go_ret
            exact ⟨by rw [HZ.out]; rfl, rfl⟩
          · have HZ := Lib.hid (show erT T i = 0 by unfold erT; rw [← HX.out, if_neg hx, if_neg (by rw [← HY.out]; omega)])
            have hy' : (y == 10) = false := by simpa using hy
            clear hx hy
            go_wp2_with fail
            go_roundw
            case rel => exact ⟨i + 1, by go_num, by omega, fun j hj => by rcases Nat.lt_or_ge j i with h | h; exact HN.out j h; rw [show j = i by omega]; exact HZ.out, trivial⟩
            case measure => simp [intOf]; omega
    · obtain rfl : i = n := by omega
      have HZ := Lib.hid (show textE T i = 0 from firstE_none HN.out)
      go_wp2_with fail
      go_ret
      exact ⟨by rw [HZ.out]; rfl, rfl⟩
set_option maxHeartbeats 2000000 in
theorem first_any (n g cap i : Nat) (inner : Bool) (K : Nat → Int) (w : World) (ho : OwnF w 3 g n K) (hn : n ≤ 1000) (hi : i ≤ n) (hcap : n ≤ cap) (hc2 : cap ≤ 100000) :
    Calls Tryd.prog 22 #[.slice (some ⟨g, 0, none⟩) n cap, .int .i64 i, .bool inner] w fun e w' => e = .returned (.int .i64 (fst K n inner i 0)) ∧ w = w' := by
  have HO := Lib.hid ho
  have hmax : ∀ x y : Int, (if x < y then y else x) = max x y := fun x y => by omega
  have hci : (i : Int) ≤ (n : Int) := by omega
  have hcc : (n : Int) ≤ (cap : Int) := by omega
  clear ho
  go_enter Tryd.func22, Tryd.ntmps22
  by_cases hce : cap = i
  · obtain rfl : i = n := by omega
    subst hce
    have HZ := Lib.hid (show fst K cap inner cap 0 = 0 from fst_end (Nat.le_refl _))
    go_wp2_with fail
    refine wp_loop_rounds 1 ?_
    rw [rounds_succ]
    go_wp2_with fail
    go_ret
    exact ⟨by rw [HZ.out]; rfl, rfl⟩
  · go_wp2_with fail
    go_loopw [7, 14] (fun dv iv wr => ∃ j d : Nat, iv = .int .i64 j ∧ dv = .int .i64 d ∧ i + j ≤ n ∧ fst K n inner i 0 = fst K n inner (i + j) d ∧ d ≤ j ∧ w = wr) (fun _ iv _ => n - i - (intOf iv).toNat)
    case atStart => exact ⟨0, 0, rfl, rfl, by omega, rfl, by omega, rfl⟩
    case round =>
      obtain ⟨j, d, rfl, rfl, hj, hs, hdj, rfl⟩ := hrel
      have HS := Lib.hid hs
      clear hs
      by_cases hjn : i + j < n
      · have d0 := HO.out.cell hjn
        have HT := Lib.hid (fst_step (K := K) (n := n) (inner := inner) (d := d) hjn)
        obtain ⟨x, hx⟩ : ∃ x, x = K (i + j) := ⟨_, rfl⟩
        rw [← hx] at d0 HT
        clear hx
        by_cases hiso : isoB x = true
        · have HZ := Lib.hid (HT.out.trans (if_pos hiso))
          go_wp2_with (go_at_call 32; refine (isolate_is (hiso) _).mono ?_; rintro e w2 ⟨rfl, rfl⟩)
          go_roundw
          case rel => exact ⟨j + 1, d + 1, by go_num, by first | rfl | go_num | (congr 1; omega) | skip, by omega, by rw [HS.out, HZ.out]; rfl, by omega, trivial⟩
          case measure => simp [intOf]; omega
        · have hiso2 : isoB x = false := by simpa using hiso
          have HT2 := Lib.hid (HT.out.trans (if_neg hiso))
          clear hiso HT
          by_cases h22 : x = 22
          · have HT3 := Lib.hid (HT2.out.trans (if_pos h22))
            subst h22
            by_cases hd : d = 0 ∧ inner = true
            · obtain ⟨rfl, rfl⟩ := hd
              have HZ := Lib.hid (HT3.out.trans (if_pos ⟨rfl, rfl⟩))
              go_wp2_with (go_at_call 32; refine (isolate_is (hiso2) _).mono ?_; rintro e w2 ⟨rfl, rfl⟩)
              go_ret
              exact ⟨by rw [HS.out, HZ.out]; rfl, rfl⟩
            · have HZ := Lib.hid (HT3.out.trans (if_neg hd))
              have hx1 : max ((d : Int) - 1) 0 = ((d - 1 : Nat) : Int) := by omega
              by_cases hd0 : d = 0
              · have hin : inner = false := by cases inner; rfl; exact absurd ⟨hd0, rfl⟩ hd
                subst hd0 hin
                clear hd
                go_wp2_with (go_at_call 32; refine (isolate_is (hiso2) _).mono ?_; rintro e w2 ⟨rfl, rfl⟩)
                go_roundw
                case rel => exact ⟨j + 1, 0, by go_num, by first | rfl | go_num | (congr 1; omega) | skip, by omega, by rw [HS.out, HZ.out]; rfl, by omega, trivial⟩
                case measure => simp [intOf]; omega
              · have hd1 : ((d : Int) == 0) = false := by simp; omega
                clear hd
                go_wp2_with (go_at_call 32; refine (isolate_is (hiso2) _).mono ?_; rintro e w2 ⟨rfl, rfl⟩)
                go_roundw
                case rel => exact ⟨j + 1, d - 1, by go_num, by first | rfl | go_num | (congr 1; omega) | skip, by omega, by rw [HS.out, HZ.out]; rfl, by omega, trivial⟩
                case measure => simp [intOf]; omega
          · have HT3 := Lib.hid (HT2.out.trans (if_neg h22))
            have hx22 : (x == 22) = false := by simpa using h22
            clear h22 HT2
            by_cases hd0 : 0 < d
            · have HZ := Lib.hid (HT3.out.trans (if_pos hd0))
              have hd1 : (0 : Int) < (d : Int) := by omega
              go_wp2_with (go_at_call 32; refine (isolate_is (hiso2) _).mono ?_; rintro e w2 ⟨rfl, rfl⟩)
              go_roundw
              case rel => exact ⟨j + 1, d, by go_num, by first | rfl | go_num | (congr 1; omega) | skip, by omega, by rw [HS.out, HZ.out]; rfl, by omega, trivial⟩
              case measure => simp [intOf]; omega
            · obtain rfl : d = 0 := by omega
              have HT4 := Lib.hid (HT3.out.trans (if_neg hd0))
              clear hd0 HT3
              by_cases hx0 : x = 0
              · have HZ := Lib.hid (HT4.out.trans (if_pos hx0))
                subst hx0
                go_wp2_with (go_at_call 32; refine (isolate_is (hiso2) _).mono ?_; rintro e w2 ⟨rfl, rfl⟩)
                go_ret
                exact ⟨by rw [HS.out, HZ.out]; rfl, rfl⟩
              · have HT5 := Lib.hid (HT4.out.trans (if_neg hx0))
                have f0 : (x == 0) = false := by simpa using hx0
                clear hx0 HT4
                by_cases hx12 : x = 1 ∨ x = 2
                · have HZ := Lib.hid (HT5.out.trans (if_pos hx12))
                  rcases hx12 with rfl | rfl
                  all_goals
                    go_wp2_with (go_at_call 32; refine (isolate_is (hiso2) _).mono ?_; rintro e w2 ⟨rfl, rfl⟩)
                    go_ret
                    exact ⟨by rw [HS.out, HZ.out]; rfl, rfl⟩
                · have HT6 := Lib.hid (HT5.out.trans (if_neg hx12))
                  have f1 : (x == 1) = false := by simp; omega
                  have f2 : (x == 2) = false := by simp; omega
                  clear hx12 HT5
                  by_cases hx10 : x = 10
                  · have HZ := Lib.hid (HT6.out.trans (if_pos hx10))
                    subst hx10
                    go_wp2_with (go_at_call 32; refine (isolate_is (hiso2) _).mono ?_; rintro e w2 ⟨rfl, rfl⟩)
                    go_ret
                    exact ⟨by rw [HS.out, HZ.out]; rfl, rfl⟩
                  · have HZ := Lib.hid (HT6.out.trans (if_neg hx10))
                    have f10 : (x == 10) = false := by simpa using hx10
                    clear hx10
                    go_wp2_with (go_at_call 32; refine (isolate_is (hiso2) _).mono ?_; rintro e w2 ⟨rfl, rfl⟩)
                    go_roundw
                    case rel => exact ⟨j + 1, 0, by go_num, by first | rfl | go_num | (congr 1; omega) | skip, by omega, by rw [HS.out, HZ.out]; rfl, by omega, trivial⟩
                    case measure => simp [intOf]; omega
      · have HZ := Lib.hid (show fst K n inner (i + j) d = 0 from fst_end (by omega))
        go_wp2_with fail
        go_ret
        exact ⟨by rw [HS.out, HZ.out]; rfl, rfl⟩
def BasePost (w : World) (n : Nat) (T : Nat → Int) (dir : Int) (e : Ending) (w' : World) : Prop :=
  e = .returned (.tuple #[.int .i64 (if textE T n ≠ 0 then 0 else if dir < -1 ∨ 1 < dir then 0 else baseB T n dir), .int .i64 (if textE T n ≠ 0 then textE T n else if dir < -1 ∨ 1 < dir then 1 else 0)]) ∧ Below w.heap.size w w'
set_option maxHeartbeats 1000000 in
theorem base_any (n : Nat) (T : Nat → Int) (a : Option Addr) (c : Nat) (dir : Int) (w : World) (ha : IntsF w a n T) (hn : n ≤ 1000) (ht : TabC w 1 3 tableT) :
    Calls Tryd.prog 6 #[.slice a n c, .int .i64 dir] w (BasePost w n T dir) := by
  have HA := Lib.hid ha
  have HT := Lib.hid ht
  have HCK := Lib.hid (check_any n T a c w ha hn)
  clear ha ht
  unfold BasePost
  obtain ⟨E, hE⟩ : ∃ E, E = textE T n := ⟨_, rfl⟩
  rw [← hE] at HCK ⊢
  clear hE
  go_enter Tryd.func6, Tryd.ntmps6
  go_wp2_with fail
  refine HCK.out.mono ?_
  rintro e w2 ⟨rfl, rfl⟩
  by_cases hE : E = 0
  · subst hE
    by_cases hd : dir < -1 ∨ 1 < dir
    · have hd2 : dir < -1 ∨ (¬ dir < -1 ∧ 1 < dir) := by omega
      have HD := Lib.hid hd
      clear hd
      rcases hd2 with h | ⟨h, h2⟩
      all_goals
        go_wp2_with fail
        go_ret2
        exact ⟨by first | rfl | simp [HD.out], Below.refl _ _⟩
    · have h1 : ¬ dir < -1 := by omega
      have h2 : ¬ 1 < dir := by omega
      have HD := Lib.hid hd
      clear hd
      by_cases hd1 : dir = -1
      · subst hd1
        go_wp2_with fail
        refine (classes_any n T a c w HA.out hn HT.out).mono ?_
        rintro e w3 ⟨g, rfl, ho, hg, hb⟩
        have HB := Lib.hid hb
        have HF := Lib.hid (first_any n g n 0 false _ w3 ho hn (by omega) (Nat.le_refl _) (by omega))
        clear ho hg hb
        go_wp2_with fail
        refine HF.out.mono ?_
        rintro e w4 ⟨rfl, rfl⟩
        go_wp2_with fail
        go_ret2
        exact ⟨by first | rfl | (have h1 := HD.out; simp [h1, baseB]), HB.out⟩
      · have hd2 : (dir != -1) = true := by simpa using hd1
        have HD1 := Lib.hid hd1
        clear hd1
        go_wp2_with fail
        go_ret2
        exact ⟨by first | rfl | (have h1 := HD.out; have h2 := HD1.out; simp [h1, h2, baseB]), Below.refl _ _⟩
  · have hE2 : (E != 0) = true := by simpa using hE
    have HE := Lib.hid hE
    clear hE
    go_wp2_with fail
    go_ret2
    exact ⟨by first | rfl | (have h1 := HE.out; simp [h1]), Below.refl _ _⟩
end Go.Proofs.YtojbicdmcodgdaaDoor.BD
namespace Go.Law.Bd
open Go Go.Law Go.RowKit
set_option linter.unusedVariables false
/-- the row of open isolates -/
def openF (K : Nat → Int) (i : Nat) : Nat → Int := fun t => ((stk K i).getD t 0 : Nat)
theorem openF_push {K : Nat → Int} {i : Nat} (h : isoB (K i) = true) : (stk K (i + 1)).length = (stk K i).length + 1 ∧ openF K (i + 1) (stk K i).length = i ∧ ∀ t, t < (stk K i).length → openF K i t = openF K (i + 1) t := by
  have e := stk_iso h
  refine ⟨by rw [e]; simp, ?_, fun t ht => ?_⟩
  · unfold openF; rw [e, List.getD_eq_getElem?_getD, List.getElem?_append_right (Nat.le_refl _)]; simp
  · unfold openF; rw [e, List.getD_eq_getElem?_getD, List.getD_eq_getElem?_getD, List.getElem?_append_left ht]
/-- the ends known ahead of i, 0 from there on -/
def mtF (K : Nat → Int) (n i : Nat) : Nat → Int := prt (matB K n i) (fun _ => 0) i
theorem mtF_keep {K : Nat → Int} {n i : Nat} (hi : i < n) (hne : ∀ j, j < i → isoB (K j) = true → partner K n j ≠ i) (j : Nat) : upd (mtF K n i) i (-1) j = mtF K n (i + 1) j := by
  unfold upd mtF
  by_cases h : j = i
  · subst h; rw [if_pos rfl, prt_lt (by omega), matB_new hi]
  · rw [if_neg h]
    by_cases h2 : j < i
    · rw [prt_lt h2, prt_lt (by omega), matB_keep hi h2 (hne j h2)]
    · rw [prt_ge (by omega), prt_ge (by omega)]
theorem mtF_hit {K : Nat → Int} {n i a : Nat} (hi : i < n) (ha : partner K n a = i ∧ a < i ∧ isoB (K a) = true ∧ ∀ j, j < i → isoB (K j) = true → j ≠ a → partner K n j ≠ i) (j : Nat) : upd (upd (mtF K n i) i (-1)) a i j = mtF K n (i + 1) j := by
  obtain ⟨h1, h2, h3, h4⟩ := ha
  unfold upd mtF
  by_cases h : j = a
  · subst h; rw [if_pos rfl, prt_lt (by omega)]; unfold matB; rw [if_pos ⟨h3, by omega⟩, h1]
  · rw [if_neg h]
    by_cases hji : j = i
    · subst hji; rw [if_pos rfl, prt_lt (by omega), matB_new hi]
    · rw [if_neg hji]
      by_cases h5 : j < i
      · rw [prt_lt h5, prt_lt (by omega), matB_keep hi h5 (fun hh => h4 j h5 hh h)]
      · rw [prt_ge (by omega), prt_ge (by omega)]
theorem RowI.take1 {w : World} {base : Nat} {e : TypeId} {a : Option Addr} {n cap k : Nat} {F : Nat → Int} (h : RowI w base e 1 (.slice a n cap) n F) (hk : k ≤ n) : RowI w base e 1 (.slice a k cap) k F := by
  obtain ⟨xs, ⟨hl, h⟩, h2⟩ := h
  refine ⟨xs.take k, ⟨by rw [List.length_take]; omega, ?_⟩, fun i hi => ?_⟩
  · rcases h with ⟨hv, h0⟩ | ⟨g, cap', cur, hv, hg, hh, hnc, hcm, hcs, ht⟩
    · obtain rfl : k = 0 := by omega
      cases hv
      exact .inl ⟨rfl, rfl⟩
    · cases hv
      refine .inr ⟨g, cap, cur, rfl, hg, hh, by omega, hcm, hcs, ?_⟩
      rw [← ht, List.take_take]
      congr 1
      omega
  · rw [List.getElem?_take_of_lt (by omega)]
    exact h2 i (by omega)
end Go.Law.Bd
namespace Go.Proofs.YtojbicdmcodgdaaDoor.BD
open Go.RowKit Go.Law Go.Law.Bd
set_option linter.unusedVariables false
set_option linter.unusedSimpArgs false
set_option maxRecDepth 100000
def MatPost (p : PaP) (K L : Nat → Int) (O : Nat → Bool) (w : World) (e : Ending) (w' : World) : Prop :=
  ∃ gm, e = .returned (.tuple #[]) ∧ Pa { p with mv := .slice (some ⟨gm, 0, none⟩) p.n p.n } K L O w' ∧ OwnF w' 3 gm p.n (matB K p.n p.n) ∧ w.heap.size ≤ gm ∧ Save (fun k => k = p.pz) w w'
theorem cellNew1 {w : World} {cs : List Value} {e : TypeId} {j : Nat} {u : Value} (h : cs[j]? = some u) : (w.alloc (Obj.cells cs.toArray e)).cell? ⟨w.heap.size, j, none⟩ = some u := by
  rw [World.cell?_alloc_new]; simpa using h
/-- what the loop keeps -/
structure Mq (p : PaP) (K L : Nat → Int) (O : Nat → Bool) (w wr : World) (gm : Nat) (ov : Value) (i : Nat) (M : Nat → Int) : Prop where
  pa : Pa { p with mv := .slice (some ⟨gm, 0, none⟩) p.n p.n } K L O wr
  mt : OwnF wr 3 gm p.n M
  op : RowI wr (gm + 1) 3 1 ov (stk K i).length (openF K i)
  sv : Save (fun k => k = p.pz) w wr
section
variable {p : PaP} {K L M M' : Nat → Int} {O : Nat → Bool} {w wr w' w1 : World} {gm i : Nat} {ov v' : Value} {o : Obj} {xs : List Value}
theorem Mq.alloc (h : Mq p K L O w wr gm ov i M) (o : Obj) : Mq p K L O w (wr.alloc o) gm ov i M := ⟨h.pa.alloc o, h.mt.alloc o, h.op.alloc o, h.sv.alloc o⟩
theorem Mq.drew (h : Mq p K L O w wr gm ov i M) : Mq p K L O w wr.drew gm ov i M := ⟨h.pa.drew, h.mt.drew, h.op.drew, h.sv.drew⟩
theorem Mq.set (h : Mq p K L O w wr gm ov i M) (hp : p.pz ≠ gm ∧ p.gc ≠ gm ∧ p.gl ≠ gm ∧ p.go ≠ gm) (hw : w.heap.size ≤ gm) (j : Nat) (x : Int) : Mq p K L O w (wr.setCell ⟨gm, j, none⟩ (.int .i64 x)) gm ov i (upd M j x) :=
  ⟨h.pa.other ⟨fun e => hp.1 e.symm, fun e => hp.2.1 e.symm, fun e => hp.2.2.1 e.symm, fun e => hp.2.2.2 e.symm⟩ _, h.mt.set j x, h.op.other (fun e => by have := h.op.ge gm e; omega) _, h.sv.set (.inr hw) _⟩
theorem Mq.congr (h : Mq p K L O w wr gm ov i M) (he : ∀ j, M j = M' j) : Mq p K L O w wr gm ov i M' := ⟨h.pa, h.mt.congr fun j _ => he j, h.op, h.sv⟩
theorem Mq.row {i' : Nat} (h : Mq p K L O w wr gm ov i M) (hs : stk K i' = stk K i) : Mq p K L O w wr gm ov i' M := ⟨h.pa, h.mt, by
  have e : openF K i' = openF K i := by unfold openF; rw [hs]
  rw [hs, e]; exact h.op, h.sv⟩
theorem Mq.push (h : Mq p K L O w wr gm ov i M) (hp : p.pz < gm ∧ p.gc < gm ∧ p.gl < gm ∧ p.go < gm) (hw : w.heap.size ≤ gm) (hk : isoB (K i) = true) (hg : (wr.alloc o).grownBy w1 ov.ownBlock)
    (hown : w1.ownsRow (gm + 1) 3 1 v' ((stk K i).length + 1) (xs ++ [.int .i64 (i : Nat)])) (hl : xs.length = (stk K i).length * 1) (hx : ∀ t, t < (stk K i).length * 1 → xs[t]? = some (.int .i64 (openF K i t))) : Mq p K L O w w1 gm v' (i + 1) M := by
  have ha := h.alloc o
  obtain ⟨e1, e2, e3⟩ := openF_push hk
  have hge := fun k (hk : ov.ownBlock = some k) => ha.op.ge k hk
  refine ⟨ha.pa.grown hg (fun k hk => ?_), ha.mt.block (hg.block gm ha.mt.lt (fun e => ?_)), ?_, ha.sv.grown hg (fun k hk => ?_)⟩
  · have := hge k hk
    exact ⟨by show k ≠ p.pz; omega, by show k ≠ p.gc; omega, by show k ≠ p.gl; omega, by show k ≠ p.go; omega⟩
  · have := hge gm e.symm; omega
  · rw [e1]
    refine RowI.push hown hl hx (fun j hj => ?_) (fun t ht => e3 t (by omega))
    obtain rfl : j = 0 := by omega
    rw [Nat.mul_one]; show _ = some (Value.int .i64 (openF K (i + 1) (stk K i).length)); rw [e2]; rfl
  · have := hge k hk; omega
end
set_option maxHeartbeats 8000000 in
theorem pmat_any (p : PaP) (ok : PaOk p) (K L : Nat → Int) (O : Nat → Bool) (w : World) (h : Pa p K L O w) (hw : ∀ k, (k = p.pz ∨ k = p.gc ∨ k = p.gl ∨ k = p.go) → k < w.heap.size) :
    Calls Tryd.prog 13 #[.pointer (some ⟨p.pz, 0, none⟩)] w (MatPost p K L O w) := by
  have OK := Lib.hid ok
  have hn2 := ok.n2
  have c1 : w.cell? ⟨p.pz, 1, none⟩ = _ := h.par.cell (i := 1) rfl
  have c5 : w.cell? ⟨p.pz, 5, none⟩ = _ := h.par.cell (i := 5) rfl
  have z5 := h.par.frozen 5
  have hmk := Ref.make_ints p.n (by omega) w
  have hpz := hw p.pz (.inl rfl)
  have hgc := hw p.gc (.inr (.inl rfl))
  have hgl := hw p.gl (.inr (.inr (.inl rfl)))
  have hgo := hw p.go (.inr (.inr (.inr rfl)))
  have H := Lib.hid h
  have HI := Lib.hid (info_parts (show (Tryd.prog.info? 3).map (fun i => (i.zero, i.size, i.bytes)) = some (some (.int .i64 0), 1, 8) by kernel_rfl))
  clear h ok hw
  go_enter Tryd.func13, Tryd.ntmps13
  go_wp2_with fail
  obtain ⟨w1, hw1⟩ : ∃ w1, w1 = ((w.setCell ⟨p.pz, 5, none⟩ (.slice (some ⟨w.heap.size, 0, none⟩) p.n p.n)).alloc (.cells (madeCells #[.int .i64 0] p.n) 3)) := ⟨_, rfl⟩
  have hq1 : Mq p K L O w w1 w.heap.size (.slice none 0 0) 0 (mtF K p.n 0) := by
    have hsz : (w.setCell ⟨p.pz, 5, none⟩ (.slice (some ⟨w.heap.size, 0, none⟩) p.n p.n)).heap.size = w.heap.size := by simp [World.setCell]
    rw [hw1]
    refine ⟨⟨((H.out.par.set 5 _).alloc _), ?_, ?_, ?_⟩, ?_, RowI.nil _ _ _ _ _, (Save.set (P := fun k => k = p.pz) (Save.refl _ w) (p := ⟨p.pz, 5, none⟩) (.inl rfl) _).alloc _⟩
    · exact (H.out.cls.other (fun e => OK.out.pc e.symm) _).alloc _
    · exact (H.out.lev.other (fun e => OK.out.pl e.symm) _).alloc _
    · have h1 := H.out.out.other (a := ⟨p.pz, 5, none⟩) (fun e => OK.out.po e.symm) (.slice (some ⟨w.heap.size, 0, none⟩) p.n p.n)
      exact h1.block (Below.heap_alloc _ _ _ (by rw [hsz]; exact hgo))
    · have h1 := OwnF.make (w := w.setCell ⟨p.pz, 5, none⟩ (.slice (some ⟨w.heap.size, 0, none⟩) p.n p.n)) 3 p.n
      rw [hsz] at h1
      exact h1.congr fun j _ => (prt_zero _ (fun _ => 0) j).symm
  rw [← hw1]
  obtain ⟨gm, hgm⟩ : ∃ gm, gm = w.heap.size := ⟨_, rfl⟩
  rw [← hgm] at hq1 ⊢
  have hwg : w.heap.size ≤ gm := by omega
  have hp1 : p.pz < gm ∧ p.gc < gm ∧ p.gl < gm ∧ p.go < gm := by omega
  have HP1 := Lib.hid hp1
  have HP2 := Lib.hid (show p.pz ≠ gm ∧ p.gc ≠ gm ∧ p.gl ≠ gm ∧ p.go ≠ gm by omega)
  have HQ1 := Lib.hid hq1
  clear hq1 hw1 hgm c1 c5 z5 hmk hp1 hpz hgc hgl hgo
  go_loopw [2, 19] (fun ov iv wr => ∃ i : Nat, iv = .int .i64 i ∧ i ≤ p.n ∧ Mq p K L O w wr gm ov i (mtF K p.n i)) (fun _ iv _ => p.n - (intOf iv).toNat)
  case atStart => exact ⟨0, rfl, by omega, HQ1.out⟩
  case round =>
    clear HQ1
    obtain ⟨i, rfl, hi, hq⟩ := hrel
    have HQ := Lib.hid hq
    obtain ⟨oa, oc, hov, hoc1, hoc2⟩ := hq.op.slice
    subst hov
    clear hq
    by_cases hin : i < p.n
    · have d0 := HQ.out.pa.cls.cell hin
      have d1 := HQ.out.mt.cell hin
      have d2 := HQ.out.mt.frozen i
      have c5 : wr.cell? ⟨p.pz, 5, none⟩ = _ := HQ.out.pa.par.cell (i := 5) rfl
      have hsl := stk_len (K := K) i
      obtain ⟨x, hx⟩ : ∃ x, x = K i := ⟨_, rfl⟩
      rw [← hx] at d0
      have HX := Lib.hid hx
      clear hx
      go_upto_region 6 with fail
      obtain ⟨w2, hw2⟩ : ∃ w2, w2 = wr.setCell ⟨gm, i, none⟩ (.int .i64 (-1)) := ⟨_, rfl⟩
      have HQ2 := Lib.hid (show Mq p K L O w w2 gm (.slice oa (stk K i).length oc) i (upd (mtF K p.n i) i (-1)) by rw [hw2]; exact HQ.out.set HP2.out hwg i (-1))
      rw [← hw2]
      clear hw2 HQ d0 d1 d2 c5
      by_cases hiso : isoB x = true
      · have HKI := Lib.hid (show isoB (K i) = true by rw [← HX.out]; exact hiso)
        have HIS := Lib.hid hiso
        clear hiso
        obtain ⟨xs, hown0, hxs⟩ := HQ2.out.op
        have hxl : xs.length = (stk K i).length * 1 := hown0.1
        have HXX := Lib.hid hown0
        have HXL := Lib.hid hxl
        have HXS := Lib.hid hxs
        obtain ⟨ii, hii, hz0, hz1, hz2⟩ := HI.out
        have hsw := HQ2.out.mt.lt
        clear hown0 hxl hxs
        go_wp2_with fail
        refine (isolate_is HIS.out _).mono ?_
        rintro e w3 ⟨rfl, rfl⟩
        go_wp2_with (at_builtin; go_loud (refine wpList_append_own _ rfl _ _ 22 rfl (gm + 1) 3 ii _ 1 8 Tryd.underlying22 hii hz0 hz1 hz2 rfl (by decide) _ _ _ rfl (RowL.alloc HXX.out _) ⟨w2.heap.size, 0, none⟩ 1 1 [.int .i64 (i : Int)] rfl rfl ?k1 ?k2 ?k3 ?k4 ?k5 ?_))
        try (case k1 =>
          intro j u hj
          have e : Addr.add ⟨w2.heap.size, 0, none⟩ j = ⟨w2.heap.size, j, none⟩ := by simp [Addr.add] <;> omega
          rw [e]
          exact cellNew1 (by simpa using hj))
        try (case k2 => first | rfl | (intro u hu; simp at hu; subst hu; rfl))
        try (case k3 => unfold maxLen; (try simp); (try omega))
        try (case k4 => (try simp); (try omega))
        try (case k5 => (try simp); (try omega))
        intro v5 w5 hown hgrow _
        have HQ5 := Lib.hid ((HQ2.out.push HP1.out hwg HKI.out hgrow hown HXL.out HXS.out).congr fun j => mtF_keep hin (fun j hj _ => mat_none hin hj (by intro e; have := HKI.out; rw [e] at this; exact absurd this (by decide))) j)
        clear hown hgrow hii hz0 hz1 hz2 HXX HXS HXL HQ2
        go_wp2_with fail
        go_roundw
        case rel => exact ⟨i + 1, by go_num, by omega, HQ5.out⟩
        case measure => simp [intOf]; omega
      · have HIS := Lib.hid (show isoB x = false by simpa using hiso)
        clear hiso
        by_cases h22 : x = 22
        · subst h22
          by_cases hs0 : stk K i = []
          · have HE := Lib.hid (mat_empty (n := p.n) hin HX.out.symm hs0)
            have HS := Lib.hid (show stk K (i + 1) = stk K i by rw [stk_pdi HX.out.symm, hs0]; rfl)
            have HQ5 := Lib.hid ((HQ2.out.congr fun j => mtF_keep hin HE.out j).row HS.out)
            have hl0 : (stk K i).length = 0 := by rw [hs0]; rfl
            have HQ6 := Lib.hid (show Mq p K L O w w2 gm (.slice oa 0 oc) (i + 1) (mtF K p.n (i + 1)) by have := HQ5.out; rw [hl0] at this; exact this)
            rw [hl0]
            clear hs0 hl0 hoc1 hsl HQ5
            go_wp2_with fail
            refine (isolate_is HIS.out _).mono ?_
            rintro e w3 ⟨rfl, rfl⟩
            go_wp2_with fail
            go_roundw
            case rel => exact ⟨i + 1, by go_num, by omega, HQ6.out⟩
            case measure => simp [intOf]; omega
          · obtain ⟨l, a, hla⟩ : ∃ l a, stk K i = l ++ [a] := ⟨(stk K i).dropLast, (stk K i).getLast hs0, (List.dropLast_concat_getLast hs0).symm⟩
            have hll : (stk K i).length = l.length + 1 := by rw [hla]; simp
            have HM := Lib.hid (mat_last (n := p.n) hin HX.out.symm hla)
            have hai := HM.out.2.1
            have HS := Lib.hid (show stk K (i + 1) = l by rw [stk_pdi HX.out.symm, hla]; simp)
            have HOF := Lib.hid (show openF K i l.length = a by unfold openF; rw [hla, List.getD_eq_getElem?_getD, List.getElem?_append_right (Nat.le_refl _)]; simp)
            obtain ⟨g5, cap5, hv5, hg5, _, _, _, _, hcc⟩ := RowI.at HQ2.out.op (by omega)
            cases hv5
            have m0 := hcc l.length (by omega)
            rw [HOF.out] at m0
            have d1 := HQ2.out.mt.cell (i := a) (by omega)
            have d2 := HQ2.out.mt.frozen a
            have c5 : w2.cell? ⟨p.pz, 5, none⟩ = _ := HQ2.out.pa.par.cell (i := 5) rfl
            have HRW := Lib.hid (show RowI w2 (gm + 1) 3 1 (.slice (some ⟨g5, 0, none⟩) l.length oc) l.length (openF K (i + 1)) from
              (RowI.take1 HQ2.out.op (k := l.length) (by omega)).congr fun t ht => by
                unfold openF; rw [HS.out, hla, List.getD_eq_getElem?_getD, List.getD_eq_getElem?_getD, List.getElem?_append_left (by omega)])
            have hlc : l.length + 1 ≤ oc := by omega
            have hll2 : l.length + 1 ≤ i := by omega
            rw [hll] at HQ2 ⊢
            clear hcc hs0 hla hll hsl hoc1
            have hL0 : (0 : Int) < (l.length : Int) + 1 := by omega
            have e1 : (l.length : Int) + 1 - 1 = (l.length : Int) := by omega
            have hw1 := IntWalk.i64_in (l.length : Int) (by omega)
            have hli : (l.length : Int) < (l.length : Int) + 1 := by omega
            have hlo : (l.length : Int) ≤ (oc : Int) := by omega
            have hl0 : (0 : Int) ≤ (l.length : Int) := by omega
            have han : (a : Int) < (p.n : Int) := by omega
            go_wp2_with fail
            refine (isolate_is HIS.out _).mono ?_
            rintro e w3 ⟨rfl, rfl⟩
            go_wp2_with fail
            go_still_tail 12, (by kernel_rfl)
            change wpList _ _ _ _ _ w2.drew
            obtain ⟨w4, hw4⟩ : ∃ w4, w4 = w2.drew := ⟨_, rfl⟩
            have HQ4 := Lib.hid (show Mq p K L O w w4 gm (.slice (some ⟨g5, 0, none⟩) (l.length + 1) oc) i (upd (mtF K p.n i) i (-1)) by rw [hw4]; exact HQ2.out.drew)
            have HR4 := Lib.hid (show RowI w4 (gm + 1) 3 1 (.slice (some ⟨g5, 0, none⟩) l.length oc) l.length (openF K (i + 1)) by rw [hw4]; exact HRW.out.drew)
            have z1 : w4.cell? ⟨gm, a, none⟩ = some (.int .i64 (upd (mtF K p.n i) i (-1) a)) := by rw [hw4]; exact d1
            have z2 : w4.frozen? ⟨gm, a, none⟩ = false := by rw [hw4]; exact d2
            rw [← hw4]
            clear hw4 d1 d2 m0 c5 HQ2 HRW
            go_wp2_with fail
            go_roundw
            case rel =>
              refine ⟨i + 1, by go_num, by omega, ?_⟩
              have h5 := HQ4.out.set HP2.out hwg a (i : Int)
              refine ⟨h5.pa, h5.mt.congr fun j _ => mtF_hit hin HM.out j, ?_, h5.sv⟩
              rw [HS.out]
              exact HR4.out.other (fun e => by have := HR4.out.ge gm e; omega) _
            case measure => simp [intOf]; omega
        · have hx22 : (x == 22) = false := by simpa using h22
          have HS := Lib.hid (show stk K (i + 1) = stk K i from stk_other (by rw [← HX.out]; exact HIS.out) (by rw [← HX.out]; exact h22))
          have HQ5 := Lib.hid ((HQ2.out.congr fun j => mtF_keep hin (fun j hj _ => mat_none hin hj (by rw [← HX.out]; exact h22)) j).row HS.out)
          clear h22
          go_wp2_with fail
          refine (isolate_is HIS.out _).mono ?_
          rintro e w3 ⟨rfl, rfl⟩
          go_wp2_with fail
          go_roundw
          case rel => exact ⟨i + 1, by go_num, by omega, HQ5.out⟩
          case measure => simp [intOf]; omega
    · obtain rfl : i = p.n := by omega
      go_wp2_with fail
      first | go_end0 | (simp only [Exit.inBlock, Exit.then]; refine bodyPost_ret (results_none rfl _ _ _) rfl ?_) | refine bodyPost_ret (results_none rfl _ _ _) rfl ?_
      exact ⟨gm, rfl, HQ.out.pa, HQ.out.mt.congr fun j hj => prt_lt hj, hwg, HQ.out.sv⟩
/-- the classes behind an override -/
def ovC (C : Nat → Int) (i : Nat) (o : Int) : Nat → Int := if 0 ≤ o then upd C i o else C
theorem override_any {p : PaP} {C L : Nat → Int} {O : Nat → Bool} {w0 w : World} (ok : PaOk p) (h : Pa p C L O w) (hs : Save p.own w0 w) (i : Nat) (hi : i < p.n) (lev o : Int) (iso : Bool) :
    Calls Tryd.prog 34 #[.pointer (some ⟨p.pz, 0, none⟩), .int .i64 i, .agg #[.int .i64 lev, .int .i64 o, .bool iso]] w fun e w' => e = .returned (.tuple #[]) ∧ Pa p (ovC C i o) L O w' ∧ Save p.own w0 w' := by
  have H := Lib.hid h
  have OK := Lib.hid ok
  have HS := Lib.hid hs
  have hgc := h.cls.lt
  have d1 := h.cls.cell hi
  have d2 := h.cls.frozen i
  clear h hs ok
  by_cases ho : 0 ≤ o
  · have HO := Lib.hid (show ovC C i o = upd C i o by unfold ovC; rw [if_pos ho])
    go_enter Tryd.func34, Tryd.ntmps34
    go_upto_region 1 with fail
    obtain ⟨wz, hwz⟩ : ∃ wz, wz = w.alloc (.cells #[.int .i64 lev, .int .i64 o, .bool iso] 60) := ⟨_, rfl⟩
    have HZ := Lib.hid (show Pa p C L O wz by rw [hwz]; exact H.out.alloc _)
    have HSZ := Lib.hid (show Save p.own w0 wz by rw [hwz]; exact HS.out.alloc _)
    have qz : Blk wz w.heap.size #[.int .i64 lev, .int .i64 o, .bool iso] 60 := by rw [hwz]; exact Blk.new _ _ _
    have y1 : wz.cell? ⟨w.heap.size, 1, none⟩ = some (.int .i64 o) := qz.cell (i := 1) rfl
    have c1 : wz.cell? ⟨p.pz, 1, none⟩ = _ := HZ.out.par.cell (i := 1) rfl
    rw [← hwz]
    clear hwz qz
    go_wp2_with fail
    go_still_tail 8, (by kernel_rfl)
    change wpList _ _ _ _ _ wz.drew
    obtain ⟨we, hwe⟩ : ∃ we, we = wz.drew := ⟨_, rfl⟩
    have HE := Lib.hid (show Pa p C L O we by rw [hwe]; exact HZ.out.drew)
    have HSE := Lib.hid (show Save p.own w0 we by rw [hwe]; exact HSZ.out.drew)
    have z1 : we.frozen? ⟨p.gc, i, none⟩ = false := HE.out.cls.frozen i
    have z2 : we.cell? ⟨p.gc, i, none⟩ = some (.int .i64 (C i)) := HE.out.cls.cell hi
    rw [← hwe]
    clear hwe c1 d1 d2 y1 H HS HZ HSZ
    go_wp2_with fail
    first | go_end0 | (simp only [Exit.inBlock, Exit.then]; refine bodyPost_ret (results_none rfl _ _ _) rfl ?_) | refine bodyPost_ret (results_none rfl _ _ _) rfl ?_
    exact ⟨rfl, by rw [HO.out]; exact HE.out.setC OK.out i o, HSE.out.set (.inl (.inl rfl)) _⟩
  · have HO := Lib.hid (show ovC C i o = C by unfold ovC; rw [if_neg ho])
    go_enter Tryd.func34, Tryd.ntmps34
    go_wp2_with fail
    first | go_end0 | (simp only [Exit.inBlock, Exit.then]; refine bodyPost_ret (results_none rfl _ _ _) rfl ?_) | refine bodyPost_ret (results_none rfl _ _ _) rfl ?_
    exact ⟨rfl, by rw [HO.out]; exact H.out.alloc _, HS.out.alloc _⟩
/-- the levels with the blanks from i on reset -/
def rbL (K L : Nat → Int) (base : Int) (n i : Nat) (j : Nat) : Int := if i ≤ j ∧ rbB K n j = true then base else L j
theorem rbL_set {K L : Nat → Int} {base : Int} {n k : Nat} (h : rbB K n k = true) (j : Nat) : upd (rbL K L base n (k + 1)) k base j = rbL K L base n k j := by
  unfold upd rbL
  by_cases hj : j = k
  · subst hj; rw [if_pos rfl, if_pos ⟨Nat.le_refl _, h⟩]
  · rw [if_neg hj]
    by_cases h2 : k + 1 ≤ j ∧ rbB K n j = true
    · rw [if_pos h2, if_pos ⟨by omega, h2.2⟩]
    · rw [if_neg h2, if_neg (fun h3 => h2 ⟨by omega, h3.2⟩)]
theorem rbL_same {K L : Nat → Int} {base : Int} {n k : Nat} (h : rbB K n k = false) (j : Nat) : rbL K L base n (k + 1) j = rbL K L base n k j := by
  unfold rbL
  by_cases hj : j = k
  · subst hj; rw [if_neg (by omega), if_neg (fun h3 => by rw [h] at h3; exact absurd h3.2 (by decide))]
  · by_cases h2 : k + 1 ≤ j ∧ rbB K n j = true
    · rw [if_pos h2, if_pos ⟨by omega, h2.2⟩]
    · rw [if_neg h2, if_neg (fun h3 => h2 ⟨by omega, h3.2⟩)]
set_option maxHeartbeats 1000000 in
theorem blanks_any (n g : Nat) (K L : Nat → Int) (a : Option Addr) (c cl : Nat) (base : Int) (w : World) (ha : IntsF w a n K) (ho : OwnF w 3 g n L) (hn : n ≤ 1000) (hne : ∀ b off, a = some ⟨b, off, none⟩ → b ≠ g) :
    Calls Tryd.prog 20 #[.slice a n c, .slice (some ⟨g, 0, none⟩) n cl, .int .i64 base] w fun e w' => e = .returned (.tuple #[]) ∧ OwnF w' 3 g n (fun j => if rbB K n j = true then base else L j) ∧ Only g w w' := by
  have HA := Lib.hid ha
  have HN := Lib.hid hne
  have HO1 := Lib.hid ho
  clear ha ho hne
  go_enter Tryd.func20, Tryd.ntmps20
  go_wp2_with fail
  go_loopw [6, 7] (fun bv iv wr => ∃ i : Nat, bv = .bool (rbB K n i) ∧ iv = .int .i64 ((i : Int) - 1) ∧ i ≤ n ∧ OwnF wr 3 g n (rbL K L base n i) ∧ Only g w wr) (fun _ iv _ => (intOf iv + 1).toNat)
  case atStart => exact ⟨n, by rw [rbB_end (Nat.le_refl _)], rfl, Nat.le_refl _, HO1.out.congr fun j hj => by unfold rbL; rw [if_neg (by omega)], Aside.refl _ _ _⟩
  case round =>
    clear HO1
    obtain ⟨i, rfl, rfl, hi, ho, hon⟩ := hrel
    have HO := Lib.hid ho
    have HON := Lib.hid hon
    clear ho hon
    cases i with
    | zero =>
      go_wp2_with fail
      first | go_end0 | (simp only [Exit.inBlock, Exit.then]; refine bodyPost_ret (results_none rfl _ _ _) rfl ?_) | refine bodyPost_ret (results_none rfl _ _ _) rfl ?_
      exact ⟨rfl, HO.out.congr fun j _ => by unfold rbL; simp, HON.out⟩
    | succ k =>
      have e1 : ((k + 1 : Nat) : Int) - 1 = k := by omega
      have h0 : (0 : Int) ≤ k := by omega
      rw [e1]
      obtain ⟨b, off, rfl, hcell⟩ := (HA.out.only HON.out HN.out) (by omega)
      have d0 := hcell k (by omega)
      have d1 := HO.out.cell (i := k) (by omega)
      have d2 := HO.out.frozen k
      have hkn : (k : Int) < (n : Int) := by omega
      have hw1 := IntWalk.i64_in ((k : Int) - 1) (by omega)
      have HS := Lib.hid (rbB_step (K := K) (n := n) (k := k) (by omega))
      obtain ⟨B, hB⟩ : ∃ B, B = rbB K n (k + 1) := ⟨_, rfl⟩
      rw [← hB] at HS ⊢
      obtain ⟨x, hx⟩ : ∃ x, x = K k := ⟨_, rfl⟩
      rw [← hx] at d0 HS
      clear hcell e1 hx hB
      by_cases h1 : x = 11 ∨ x = 10
      · have HRB := Lib.hid (show rbB K n k = true by rw [HS.out, if_pos h1])
        clear HS
        rcases h1 with rfl | rfl
        all_goals
          go_wp2_with fail
          go_roundw
          case rel => exact ⟨k, by first | rfl | rw [HRB.out], by go_num, by omega, (HO.out.set k base).congr fun j _ => rbL_set HRB.out j, Only.set HON.out k _⟩
          case measure => simp [intOf]
      · by_cases h2 : x = 12 ∨ x = 9 ∨ 14 ≤ x
        · have HR := Lib.hid (show rbB K n k = B by rw [HS.out, if_neg h1, if_pos h2])
          have f11 : (x == 11) = false := by simp; omega
          have f10 : (x == 10) = false := by simp; omega
          have h3 : x = 12 ∨ (x ≠ 12 ∧ 14 ≤ x) ∨ (x = 9) := by omega
          clear HS h1 h2
          cases B with
          | true =>
            have HRB := HR
            clear HR
            rcases h3 with rfl | ⟨h3, h4⟩ | rfl
            · go_wp2_with fail
              go_roundw
              case rel => exact ⟨k, by first | rfl | rw [HRB.out], by go_num, by omega, (HO.out.set k base).congr fun j _ => rbL_set HRB.out j, Only.set HON.out k _⟩
              case measure => simp [intOf]
            · have f12 : (x == 12) = false := by simpa using h3
              clear h3
              go_wp2_with fail
              go_roundw
              case rel => exact ⟨k, by first | rfl | rw [HRB.out], by go_num, by omega, (HO.out.set k base).congr fun j _ => rbL_set HRB.out j, Only.set HON.out k _⟩
              case measure => simp [intOf]
            · go_wp2_with fail
              go_roundw
              case rel => exact ⟨k, by first | rfl | rw [HRB.out], by go_num, by omega, (HO.out.set k base).congr fun j _ => rbL_set HRB.out j, Only.set HON.out k _⟩
              case measure => simp [intOf]
          | false =>
            have HRB := HR
            clear HR
            rcases h3 with rfl | ⟨h3, h4⟩ | rfl
            · go_wp2_with fail
              go_roundw
              case rel => exact ⟨k, by first | rfl | rw [HRB.out], by go_num, by omega, HO.out.congr fun j _ => rbL_same HRB.out j, HON.out⟩
              case measure => simp [intOf]
            · have f12 : (x == 12) = false := by simpa using h3
              clear h3
              go_wp2_with fail
              go_roundw
              case rel => exact ⟨k, by first | rfl | rw [HRB.out], by go_num, by omega, HO.out.congr fun j _ => rbL_same HRB.out j, HON.out⟩
              case measure => simp [intOf]
            · go_wp2_with fail
              go_roundw
              case rel => exact ⟨k, by first | rfl | rw [HRB.out], by go_num, by omega, HO.out.congr fun j _ => rbL_same HRB.out j, HON.out⟩
              case measure => simp [intOf]
        · have HRB := Lib.hid (show rbB K n k = false by rw [HS.out, if_neg h1, if_neg h2])
          have f11 : (x == 11) = false := by simp; omega
          have f10 : (x == 10) = false := by simp; omega
          have f12 : (x == 12) = false := by simp; omega
          have f9 : (x == 9) = false := by simp; omega
          have f14 : ¬ 14 ≤ x := by omega
          clear HS h1 h2
          go_wp2_with fail
          go_roundw
          case rel => exact ⟨k, by first | rfl | rw [HRB.out], by go_num, by omega, HO.out.congr fun j _ => rbL_same HRB.out j, HON.out⟩
          case measure => simp [intOf]
end Go.Proofs.YtojbicdmcodgdaaDoor.BD
namespace Go.Law.Bd
open Go Go.Law Go.RowKit
set_option linter.unusedVariables false
/-- ahead of a character -/
structure Xq (p : PaP) (b : Ent) (K L0 : Nat → Int) (w0 wr : World) (sv : Value) (i : Nat) (S : List Ent) : Prop where
  pa : Pa p (prt (clE b K p.n) K i) (prt (lvE b K p.n) L0 i) (prtB (ouE K) (fun _ => false) i) wr
  st : RowV wr w0.heap.size 60 3 sv S.length (stV b S)
  sv : Save p.own w0 wr
/-- within a character: the classes, levels, outs of the moment; the copy of the top -/
structure Yq (p : PaP) (b : Ent) (C L : Nat → Int) (O : Nat → Bool) (w0 wr : World) (sv : Value) (S : List Ent) (g : Nat) (x : Ent) : Prop where
  pa : Pa p C L O wr
  st : RowV wr w0.heap.size 60 3 sv S.length (stV b S)
  sv : Save p.own w0 wr
  tb : Blk wr g #[.int .i64 x.lev, .int .i64 x.ovr, .bool x.iso] 60
section
variable {p : PaP} {b x y : Ent} {K C C' L L' L0 : Nat → Int} {O O' : Nat → Bool} {w0 wr w' w1 : World} {sv v' : Value} {i g : Nat} {S S' : List Ent} {o : Obj} {xs : List Value}
/-- where things lie -/
structure XOk (p : PaP) (w0 : World) (g : Nat) (sv : Value) : Prop where
  low : p.pz < w0.heap.size ∧ p.gc < w0.heap.size ∧ p.gl < w0.heap.size ∧ p.go < w0.heap.size
  top : w0.heap.size ≤ g
  dif : sv.ownBlock ≠ some g
theorem Yq.drewN (h : Yq p b C L O w0 wr sv S g x) (q : Nat) : Yq p b C L O w0 (wr.drewN q) sv S g x := ⟨h.pa.drewN q, h.st.block (fun _ _ => rfl), h.sv.drewN q, h.tb.drewN q⟩
theorem Yq.drew (h : Yq p b C L O w0 wr sv S g x) : Yq p b C L O w0 wr.drew sv S g x := h.drewN 1
theorem Yq.congr (h : Yq p b C L O w0 wr sv S g x) (hC : ∀ j, C j = C' j) (hL : ∀ j, L j = L' j) (hO : ∀ j, O j = O' j) : Yq p b C' L' O' w0 wr sv S g x :=
  ⟨h.pa.congr (fun j _ => hC j) (fun j _ => hL j) (fun j _ => hO j), h.st, h.sv, h.tb⟩
theorem XOk.row (k : XOk p w0 g sv) (h : Yq p b C L O w0 wr sv S g x) {q : Nat} (hq : q = p.pz ∨ q = p.gc ∨ q = p.gl ∨ q = p.go) : sv.ownBlock ≠ some q := by
  intro e
  have h1 := h.st.ge q e
  have h2 := k.low
  rcases hq with rfl | rfl | rfl | rfl <;> omega
theorem Yq.setL (ok : PaOk p) (k : XOk p w0 g sv) (h : Yq p b C L O w0 wr sv S g x) (u : Int) : Yq p b C (upd L i u) O w0 (wr.setCell ⟨p.gl, i, none⟩ (.int .i64 u)) sv S g x :=
  ⟨h.pa.setL ok i u, h.st.other (k.row h (.inr (.inr (.inl rfl)))) _, h.sv.set (.inl (.inr (.inl rfl))) _, h.tb.other (by have := k.low; have := k.top; show g ≠ p.gl; omega) _⟩
theorem Yq.setO (ok : PaOk p) (k : XOk p w0 g sv) (h : Yq p b C L O w0 wr sv S g x) (u : Bool) : Yq p b C L (fun j => if j = i then u else O j) w0 (wr.setCell ⟨p.go, i, none⟩ (.bool u)) sv S g x :=
  ⟨h.pa.setO ok i u, h.st.other (k.row h (.inr (.inr (.inr rfl)))) _, h.sv.set (.inl (.inr (.inr rfl))) _, h.tb.other (by have := k.low; have := k.top; show g ≠ p.go; omega) _⟩
/-- a copy of the top is written over -/
theorem Yq.setT (k : XOk p w0 g sv) (h : Yq p b C L O w0 wr sv S g x) (y : Ent) :
    Yq p b C L O w0 (((wr.setCell ⟨g, 0, none⟩ (.int .i64 y.lev)).setCell ⟨g, 1, none⟩ (.int .i64 y.ovr)).setCell ⟨g, 2, none⟩ (.bool y.iso)) sv S g y := by
  have hl := k.low
  have ht := k.top
  have hp : ∀ (a : Addr), a.block = g → a.block ≠ p.pz ∧ a.block ≠ p.gc ∧ a.block ≠ p.gl ∧ a.block ≠ p.go := fun a e => by rw [e]; omega
  refine ⟨((h.pa.other (hp _ rfl) _).other (hp _ rfl) _).other (hp _ rfl) _, ((h.st.other k.dif _).other k.dif _).other k.dif _, ((h.sv.set (.inr ht) _).set (.inr ht) _).set (.inr ht) _, ?_⟩
  exact ((h.tb.set 0 _).set 1 _).set 2 _
theorem Yq.alloc (k : XOk p w0 g sv) (h : Yq p b C L O w0 wr sv S g x) (o : Obj) : Yq p b C L O w0 (wr.alloc o) sv S g x :=
  ⟨h.pa.alloc o, h.st.below ((Below.refl _ _).alloc (Nat.le_refl _) o) (Nat.le_refl _), h.sv.alloc o, h.tb.alloc o⟩
/-- an entry more -/
theorem Yq.push (k : XOk p w0 g sv) (h : Yq p b C L O w0 wr sv S g x) (hg : wr.grownBy w1 sv.ownBlock)
    (hown : w1.ownsRow w0.heap.size 60 3 v' (S.length + 1) (xs ++ [.int .i64 y.lev, .int .i64 y.ovr, .bool y.iso])) (hl : xs.length = S.length * 3) (hx : ∀ i, i < S.length → ∀ j, j < 3 → xs[i * 3 + j]? = some (stV b S i j)) :
    Pa p C L O w1 ∧ RowV w1 w0.heap.size 60 3 v' (y :: S).length (stV b (y :: S)) ∧ Save p.own w0 w1 := by
  have hl2 := k.low
  refine ⟨h.pa.grown hg (fun q hq => ?_), RowV.push hown hl hx (fun j hj => ?_) (fun i hi j _ => stV_push b S y hi j), h.sv.grown hg (fun q hq => h.st.ge q hq)⟩
  · have := h.st.ge q hq; omega
  · match j, hj with
    | 0, _ => show _ = some (stV _ _ _ _); unfold stV; rw [stV_last]; rfl
    | 1, _ => show _ = some (stV _ _ _ _); unfold stV; rw [stV_last]; rfl
    | 2, _ => show _ = some (stV _ _ _ _); unfold stV; rw [stV_last]; rfl
theorem Yq.cut {a : Option Addr} {n cap : Nat} {l1 l : List Ent} (h : Yq p b C L O w0 wr (.slice a n cap) (l1 ++ l) g x) (hn : n = l1.length + l.length) : Yq p b C L O w0 wr (.slice a l.length cap) l g x := by
  subst hn
  refine ⟨h.pa, ?_, h.sv, h.tb⟩
  have := h.st
  rw [List.length_append] at this
  exact (RowV.take this (k := l.length) (by omega)).congr fun i hi j _ => stV_pre b l1 l hi j
/-- the cells of the top -/
theorem RowV.top {g0 cap : Nat} (h : RowV wr w0.heap.size 60 3 (.slice (some ⟨g0, 0, none⟩) (y :: S).length cap) (y :: S).length (stV b (y :: S))) :
    wr.cell? ⟨g0, S.length * 3, none⟩ = some (.int .i64 y.lev) ∧ wr.cell? ⟨g0, S.length * 3 + 1, none⟩ = some (.int .i64 y.ovr) ∧ wr.cell? ⟨g0, S.length * 3 + 2, none⟩ = some (.bool y.iso) := by
  have h0 := RowV.cellAt h (i := S.length) (j := 0) (by simp) (by omega)
  have h1 := RowV.cellAt h (i := S.length) (j := 1) (by simp) (by omega)
  have h2 := RowV.cellAt h (i := S.length) (j := 2) (by simp) (by omega)
  unfold stV at h0 h1 h2
  rw [stV_last] at h0 h1 h2
  exact ⟨h0, h1, h2⟩
end
/-- the classes, levels and outs of one character more -/
theorem cl_set {W V : Nat → Int} {i : Nat} {C : Nat → Int} {o : Int} (hC : C = prt W V i) (hw : W i = if 0 ≤ o then o else V i) (j : Nat) : (if 0 ≤ o then upd C i o else C) j = prt W V (i + 1) j := by
  subst hC
  by_cases h : 0 ≤ o
  · rw [if_pos h]; exact prt_set _ _ i (hw.trans (if_pos h)) j
  · rw [if_neg h]; exact prt_same (hw.trans (if_neg h)) j
end Go.Law.Bd
namespace Go.Law
/-- the block of a number in a code -/
def blkOf (n : Nat) : Code → Option Code
  | .block k c => match Nat.beq k n with
    | true => some (.block k c)
    | false => blkOf n c
  | .loop c => blkOf n c
  | .scope c => blkOf n c
  | .seq a b => match blkOf n a with
    | some c => some c
    | none => blkOf n b
  | .cond _ a b => match blkOf n a with
    | some c => some c
    | none => blkOf n b
  | _ => none
noncomputable def theBlk (f : Func) (n : Nat) : Code := (f.body.bind (blkOf n)).getD .skip
end Go.Law
