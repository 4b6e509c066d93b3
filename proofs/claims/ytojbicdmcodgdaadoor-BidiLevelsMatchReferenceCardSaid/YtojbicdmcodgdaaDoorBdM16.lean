/-
  BdRDir, BdRSmall, BdRPara, BdRSt, BdRPlain, BdRLvA.
-/
import Derived.Test.YtojbicdmcodgdaaDoorProg
import Derived.Test.YtojbicdmcodgdaaDoorBdM03
import Derived.WalkLawsBesides
import Derived.Lib.Hide
import Derived.Test.YtojbicdmcodgdaaDoorBdM04
import Derived.Test.YtojbicdmcodgdaaDoorBdM02
import Derived.Deep.CutRange
import Derived.Test.YtojbicdmcodgdaaDoorBdM08
import Derived.BigQuiet
import Derived.Deep.CutBlock
namespace Go.Proofs.YtojbicdmcodgdaaDoor.BD
open Go.RowKit Go.Law Go.Law.Bd
set_option linter.unusedVariables false
set_option linter.unusedSimpArgs false
set_option maxRecDepth 100000
theorem retI {a b : Int} (h : a = b) : Ending.returned (.int .i64 a) = .returned (.int .i64 b) := by rw [h]
theorem retB {a b : Bool} (h : a = b) : Ending.returned (.bool a) = .returned (.bool b) := by rw [h]
theorem in_any (n lo hi : Int) (w : World) : Calls Tryd.prog 8 #[.int .i64 n, .int .i64 lo, .int .i64 hi] w fun e w' => e = .returned (.bool (decide (lo ≤ n ∧ n ≤ hi))) ∧ w = w' := by
  go_enter Tryd.func8, Tryd.ntmps8
  go_wp2
  all_goals
    go_ret
    refine ⟨retB ?_, rfl⟩
    rw [Bool.eq_iff_iff]
    simp
    omega
def flatA : List Int := dirAT.flatMap fun r => r
theorem flat_at : ∀ i, i < 19 → ∀ j, j < 3 → flatA.getD (i * 3 + j) 0 = ent dirAT i j := by decide
theorem flat_len : flatA.length = 57 := by decide
set_option maxHeartbeats 4000000 in
theorem dir_any (c : Int) (w : World) :
    Calls Tryd.prog 23 #[.int .i64 c] w fun e w' => e = .returned (.int .i64 (lookR c (dirAT ++ dirST))) ∧ Below w.heap.size w w' := by
  go_enter Tryd.func23, Tryd.ntmps23
  go_wp2
  go_loopw [26] (fun ix wr => ∃ k : Nat, ix = .int .i64 k ∧ k ≤ 19 ∧ (∀ j, j < k → hit dirAT c j = false) ∧ Below (w.heap.size + 1) (w.alloc (.cells (flatA.map (Value.int .i64)).toArray 71)) wr) (fun ix _ => 19 - (intOf ix).toNat)
  case atStart => exact ⟨0, rfl, by omega, fun j hj => by omega, Below.refl _ _⟩
  case round =>
    obtain ⟨k, rfl, hk, hno, hbel⟩ := hrel
    have HN := Lib.hid hno
    clear hno
    have hsz := hbel.size
    simp at hsz
    by_cases hk7 : k < 19
    · have dd : ∀ j, j < 3 → wr.cell? ⟨w.heap.size, k * 3 + j, none⟩ = some (.int .i64 (ent dirAT k j)) := by
        intro j hj
        rw [hbel.cell (show w.heap.size < w.heap.size + 1 by omega), World.cell?_alloc_new, ← flat_at k hk7 j hj]
        have : k * 3 + j < flatA.length := by rw [flat_len]; omega
        simp [this]
      have d0 := dd 0 (by omega)
      have d1 := dd 1 (by omega)
      have d2 := dd 2 (by omega)
      rw [Nat.add_zero] at d0
      clear dd
      obtain ⟨x, hx⟩ : ∃ x, x = ent dirAT k 0 := ⟨_, rfl⟩
      obtain ⟨y, hy⟩ : ∃ y, y = ent dirAT k 1 := ⟨_, rfl⟩
      obtain ⟨z, hz⟩ : ∃ z, z = ent dirAT k 2 := ⟨_, rfl⟩
      have HH := Lib.hid (show hit dirAT c k = decide (x ≤ c ∧ c ≤ y) by rw [hx, hy]; rfl)
      rw [← hx] at d0
      rw [← hy] at d1
      rw [← hz] at d2
      have HZ := Lib.hid hz
      clear hx hy hz
      have hbw : Below w.heap.size w wr := ((Below.refl _ _).alloc (Nat.le_refl _) _).trans (hbel.mono (by omega))
      by_cases hc : x ≤ c ∧ c ≤ y
      · have HL := Lib.hid (show lookR c (dirAT ++ dirST) = z by rw [lookR_hit_append c dirAT dirST k hk7 HN.out (by rw [HH.out]; simpa using hc), HZ.out])
        have hcd : decide (x ≤ c ∧ c ≤ y) = true := by simpa using hc
        go_wp2_with (go_at_call 8; refine (in_any _ _ _ _).mono ?_; rintro e w3 ⟨rfl, rfl⟩)
        go_ret
        refine ⟨by rw [HL.out]; rfl, ?_⟩
        repeat' (with_reducible first | exact Below.refl _ _ | assumption | refine Below.setCell ?_ ?_ _ | refine Below.alloc ?_ ?_ _ | refine below_drewN ?_ _ | refine Below.drew ?_)
        all_goals first | omega | (simp; done) | (simp; omega)
      · have hcd : decide (x ≤ c ∧ c ≤ y) = false := by simpa using hc
        have HC := Lib.hid hc
        clear hc
        go_wp2_with (go_at_call 8; refine (in_any _ _ _ _).mono ?_; rw [hcd]; rintro e w3 ⟨rfl, rfl⟩)
        go_roundw
        case rel =>
          refine ⟨k + 1, by go_num, by omega, fun j hj => ?_, ?_⟩
          · rcases Nat.lt_or_ge j k with h | h
            · exact HN.out j h
            · rw [show j = k by omega, HH.out]; simpa using HC.out
          · repeat' (with_reducible first | exact Below.refl _ _ | assumption | refine Below.setCell ?_ ?_ _ | refine Below.alloc ?_ ?_ _ | refine below_drewN ?_ _ | refine Below.drew ?_)
            all_goals first | omega | (simp; done) | (simp; omega)
        case measure => simp [intOf]; omega
    · obtain rfl : k = 19 := by omega
      have HL := Lib.hid (lookR_append c dirAT dirST HN.out)
      have hbw : Below w.heap.size w wr := ((Below.refl _ _).alloc (Nat.le_refl _) _).trans (hbel.mono (by omega))
      clear hbel hsz
      have hne : ∀ v : Int, (c < v ∨ v < c) = ¬ (c = v) := fun v => by
        apply propext; omega
      have HE := Lib.hid hne
      clear hne
      go_wp2_with (go_at_call 8; refine (in_any _ _ _ _).mono ?_; rintro e w3 ⟨rfl, rfl⟩)
      all_goals
        go_ret
        refine ⟨retI ?_, hbw⟩
        rw [HL.out]
        clear HL HN
        go_tidy
        have e := HE.out
        try simp only [beq_iff_eq, beq_eq_false_iff_ne, ne_eq] at *
        try simp only [← Int.not_lt, ← not_or] at *
        simp only [dirST, lookR, List.getD_cons_zero, List.getD_cons_succ, e]
        simp [*]
theorem dir_cls (c : Int) (w : World) : Calls Tryd.prog 23 #[.int .i64 c] w fun e w' => e = .returned (.int .i64 (clsB c)) ∧ Below w.heap.size w w' :=
  (dir_any c w).mono fun e w' h => ⟨h.1.trans (by unfold clsB; rw [tables_same]), h.2⟩
theorem begins_any (k : Int) (w : World) : Calls Tryd.prog 44 #[.int .i64 k] w fun e w' => e = .returned (.bool (isoB k)) ∧ w = w' := by
  go_enter Tryd.func44, Tryd.ntmps44
  by_cases h1 : k = 19
  · subst h1
    go_wp2
    go_ret
    exact ⟨rfl, rfl⟩
  by_cases h2 : k = 20
  · subst h2
    go_wp2
    go_ret
    exact ⟨rfl, rfl⟩
  by_cases h3 : k = 21
  · subst h3
    go_wp2
    go_ret
    exact ⟨rfl, rfl⟩
  have f1 : (k == 19) = false := by simpa using h1
  have f2 : (k == 20) = false := by simpa using h2
  have f3 : (k == 21) = false := by simpa using h3
  have HI := Lib.hid (show isoB k = false by unfold isoB; simp; omega)
  clear h1 h2 h3
  go_wp2
  go_ret
  exact ⟨by rw [HI.out]; rfl, rfl⟩
theorem sideOf_any (lev : Int) (w : World) (h : 0 ≤ lev) : Calls Tryd.prog 47 #[.int .i64 lev] w fun e w' => e = .returned (.int .i64 (sideB lev)) ∧ w = w' := by
  go_enter Tryd.func47, Tryd.ntmps47
  have e : lev.tmod 2 = lev % 2 := Int.tmod_eq_emod_of_nonneg h
  by_cases h0 : lev % 2 = 0
  · have HS := Lib.hid (show sideB lev = 0 by rw [sideB_even, if_pos h0])
    go_wp2
    go_ret
    exact ⟨by rw [HS.out]; rfl, rfl⟩
  · have HS := Lib.hid (show sideB lev = 1 by rw [sideB_even, if_neg h0])
    have h1 : (lev % 2 == 0) = false := by simpa using h0
    go_wp2
    go_ret
    exact ⟨by rw [HS.out]; rfl, rfl⟩
theorem counts_any (k : Int) (w : World) : Calls Tryd.prog 51 #[.int .i64 k] w fun e w' => e = .returned (.int .i64 (ctB k)) ∧ w = w' := by
  go_enter Tryd.func51, Tryd.ntmps51
  by_cases h1 : k = 3
  · subst h1
    go_wp2
    go_ret
    exact ⟨rfl, rfl⟩
  by_cases h2 : k = 6
  · subst h2
    go_wp2
    go_ret
    exact ⟨rfl, rfl⟩
  by_cases h3 : k = 0
  · subst h3
    go_wp2
    go_ret
    exact ⟨rfl, rfl⟩
  by_cases h4 : k = 1
  · subst h4
    go_wp2
    go_ret
    exact ⟨rfl, rfl⟩
  have f1 : (k == 3) = false := by simpa using h1
  have f2 : (k == 6) = false := by simpa using h2
  have f3 : (k == 0) = false := by simpa using h3
  have f4 : (k == 1) = false := by simpa using h4
  have HI := Lib.hid (show ctB k = -1 by unfold ctB; rw [if_neg h3, if_neg (by omega)])
  clear h1 h2 h3 h4
  go_wp2
  go_ret
  exact ⟨by rw [HI.out]; rfl, rfl⟩
set_option maxHeartbeats 1000000 in
theorem partner_any (n : Nat) (K : Nat → Int) (a : Option Addr) (c i : Nat) (w : World) (ha : IntsF w a n K) (hn : n ≤ 1000) (hi : i < n) :
    Calls Tryd.prog 45 #[.slice a n c, .int .i64 i] w fun e w' => e = .returned (.int .i64 (partner K n i : Nat)) ∧ w = w' := by
  obtain ⟨b, off, rfl, hcell⟩ := ha (by omega)
  have HC := Lib.hid hcell
  clear hcell ha
  have hw0 := IntWalk.i64_in ((i : Int) + 1) (by omega)
  go_enter Tryd.func45, Tryd.ntmps45
  go_wp2_with fail
  go_loopw [5, 6] (fun ov jv wr => ∃ j o : Nat, ov = .int .i64 o ∧ jv = .int .i64 j ∧ i < j ∧ j ≤ n ∧ 1 ≤ o ∧ o ≤ j ∧ scn K n j o = partner K n i ∧ w = wr) (fun _ jv _ => n - (intOf jv).toNat)
  case atStart => exact ⟨i + 1, 1, rfl, by go_num, by omega, by omega, by omega, by omega, rfl, rfl⟩
  case round =>
    obtain ⟨j, o, rfl, rfl, hij, hj, ho1, hoj, hsc, rfl⟩ := hrel
    have HS := Lib.hid hsc
    clear hsc
    by_cases hjn : j < n
    · have d0 := HC.out j hjn
      obtain ⟨k, hk⟩ : ∃ k, k = K j := ⟨_, rfl⟩
      rw [← hk] at d0
      have HK := Lib.hid hk
      have hw1 := IntWalk.i64_in ((j : Int) + 1) (by omega)
      have hw2 := IntWalk.i64_in ((o : Int) + 1) (by omega)
      have hw3 := IntWalk.i64_in ((o : Int) - 1) (by omega)
      clear hk
      by_cases h1 : isoB k = true
      · have hb := fun w => begins_any k w
        rw [h1] at hb
        have HE := Lib.hid (show scn K n (j + 1) (o + 1) = partner K n i by rw [← HS.out, scn_iso hjn (by rw [← HK.out]; exact h1)])
        have hk22 : (k == 22) = false := by
          have := h1
          unfold isoB at this
          simp at this ⊢
          omega
        have HBG := Lib.hid hb
        clear hb h1
        go_wp2_with (refine (HBG.out _).mono ?_; rintro e9 w9 ⟨rfl, rfl⟩)
        go_roundw
        case rel => exact ⟨j + 1, o + 1, by go_num, by go_num, by omega, by omega, by omega, by omega, HE.out, trivial⟩
        case measure => simp [intOf]; omega
      · have h1' : isoB k = false := by simpa using h1
        have hb := fun w => begins_any k w
        rw [h1'] at hb
        have HBG := Lib.hid hb
        clear hb h1
        by_cases h22 : k = 22
        · by_cases ho : o = 1
          · have HE := Lib.hid (show partner K n i = j by rw [← HS.out, ho, scn_hit hjn (by rw [← HK.out]; exact h22)])
            subst h22
            subst ho
            clear h1'
            go_wp2_with (refine (HBG.out _).mono ?_; rintro e9 w9 ⟨rfl, rfl⟩)
            go_ret
            exact ⟨by rw [HE.out]; rfl, rfl⟩
          · have HE := Lib.hid (show scn K n (j + 1) (o - 1) = partner K n i by rw [← HS.out, scn_pdi hjn (by rw [← HK.out]; exact h22) ho])
            have ho2 : ((o : Int) - 1 == 0) = false := by simp; omega
            subst h22
            clear h1' ho
            go_wp2_with (refine (HBG.out _).mono ?_; rintro e9 w9 ⟨rfl, rfl⟩)
            go_roundw
            case rel => exact ⟨j + 1, o - 1, by go_num, by go_num, by omega, by omega, by simp at ho2; omega, by omega, HE.out, trivial⟩
            case measure => simp [intOf]; omega
        · have HE := Lib.hid (show scn K n (j + 1) o = partner K n i by rw [← HS.out, scn_other hjn (by rw [← HK.out]; exact h1') (by rw [← HK.out]; exact h22)])
          have h22' : (k == 22) = false := by simpa using h22
          clear h1' h22
          go_wp2_with (refine (HBG.out _).mono ?_; rintro e9 w9 ⟨rfl, rfl⟩)
          go_roundw
          case rel => exact ⟨j + 1, o, rfl, by go_num, by omega, by omega, by omega, by omega, HE.out, trivial⟩
          case measure => simp [intOf]; omega
    · have HE := Lib.hid (show partner K n i = n by rw [← HS.out, scn_end (by omega)])
      have hj2 : ¬ (j : Int) < (n : Int) := by omega
      go_wp2_with fail
      go_ret
      exact ⟨by rw [HE.out]; rfl, rfl⟩
set_option maxHeartbeats 1000000 in
theorem firstLetter_any (n : Nat) (K : Nat → Int) (a : Option Addr) (c i t : Nat) (w : World) (ha : IntsF w a n K) (hn : n ≤ 1000) (ht : t ≤ n) (hi : i ≤ 1000) :
    Calls Tryd.prog 24 #[.slice a n c, .int .i64 i, .int .i64 t] w fun e w' => e = .returned (.int .i64 (flt K n i t)) ∧ w = w' := by
  have HA := Lib.hid ha
  clear ha
  go_enter Tryd.func24, Tryd.ntmps24
  go_wp2_with fail
  go_loopw [7] (fun jv wr => ∃ j : Nat, jv = .int .i64 j ∧ j ≤ 1001 ∧ flt K n j t = flt K n i t ∧ w = wr) (fun jv _ => 1002 - (intOf jv).toNat)
  case atStart => exact ⟨i, rfl, by omega, rfl, rfl⟩
  case round =>
    obtain ⟨j, rfl, hj, hsc, rfl⟩ := hrel
    have HS := Lib.hid hsc
    clear hsc
    by_cases hjt : j < t
    · obtain ⟨b, off, rfl, hcell⟩ := HA.out (by omega)
      have d0 := hcell j (by omega)
      clear hcell
      obtain ⟨k, hk⟩ : ∃ k, k = K j := ⟨_, rfl⟩
      rw [← hk] at d0
      have hst := flt_step (K := K) ht hjt
      rw [← hk] at hst
      have hjn : (j : Int) < (n : Int) := by omega
      have hw1 := IntWalk.i64_in ((j : Int) + 1) (by omega)
      clear hk
      by_cases h1 : isoB k = true
      · have hb := fun w => begins_any k w
        rw [h1] at hb
        have HBG := Lib.hid hb
        rw [if_pos h1] at hst
        have hp := partner_range (K := K) (show j < n by omega)
        have HPT := Lib.hid (partner_any n K (some ⟨b, off, none⟩) c j w HA.out hn (by omega))
        obtain ⟨p, hp2⟩ : ∃ p, p = partner K n j := ⟨_, rfl⟩
        rw [← hp2] at hst hp HPT
        have HE := Lib.hid (hst.symm.trans HS.out)
        have hw2 := IntWalk.i64_in ((p : Int) + 1) (by omega)
        clear hb h1 hst hp2
        go_wp2_with fail
        refine (HBG.out _).mono ?_
        rintro e9 w9 ⟨rfl, rfl⟩
        go_wp2_with fail
        refine HPT.out.mono ?_
        rintro e9 w9 ⟨rfl, rfl⟩
        go_wp2_with fail
        go_roundw
        case rel => exact ⟨p + 1, by go_num, by omega, HE.out, trivial⟩
        case measure => simp [intOf]; omega
      · have h1' : isoB k = false := by simpa using h1
        have hb := fun w => begins_any k w
        rw [h1'] at hb
        have HBG := Lib.hid hb
        rw [if_neg h1] at hst
        clear hb h1 h1'
        by_cases h0 : k = 0
        · rw [if_pos h0] at hst
          have HE := Lib.hid (hst.symm.trans HS.out)
          subst h0
          clear hst
          go_wp2_with (refine (HBG.out _).mono ?_; rintro e9 w9 ⟨rfl, rfl⟩)
          go_ret
          exact ⟨by rw [← HE.out]; rfl, rfl⟩
        · rw [if_neg h0] at hst
          have f0 : (k == 0) = false := by simpa using h0
          by_cases h2 : k = 1 ∨ k = 2
          · rw [if_pos h2] at hst
            have HE := Lib.hid (hst.symm.trans HS.out)
            clear hst
            rcases h2 with rfl | rfl
            all_goals
              go_wp2_with (refine (HBG.out _).mono ?_; rintro e9 w9 ⟨rfl, rfl⟩)
              go_ret
              exact ⟨by rw [← HE.out]; rfl, rfl⟩
          · rw [if_neg h2] at hst
            have HE := Lib.hid (hst.symm.trans HS.out)
            have f1 : (k == 1) = false := by simp; omega
            have f2 : (k == 2) = false := by simp; omega
            clear hst h2 h0
            go_wp2_with (refine (HBG.out _).mono ?_; rintro e9 w9 ⟨rfl, rfl⟩)
            go_roundw
            case rel => exact ⟨j + 1, by go_num, by omega, HE.out, trivial⟩
            case measure => simp [intOf]; omega
    · have HE := Lib.hid (show flt K n i t = -1 by rw [← HS.out, flt_end (by omega)])
      have hj2 : ¬ (j : Int) < (t : Int) := by omega
      go_wp2_with fail
      go_ret
      exact ⟨by rw [HE.out]; rfl, rfl⟩
set_option maxHeartbeats 1000000 in
theorem bidiError_any (n : Nat) (T : Nat → Int) (a : Option Addr) (c : Nat) (w : World) (ha : IntsF w a n T) (hn : n ≤ 1000) :
    Calls Tryd.prog 7 #[.slice a n c] w fun e w' => e = .returned (.int .i64 (textE T n)) ∧ w = w' := by
  have HA := Lib.hid ha
  clear ha
  have h9 : ¬ (100000 : Int) < (n : Int) := by omega
  go_enter Tryd.func7, Tryd.ntmps7
  go_wp2_with fail
  go_loopw [10] (fun iv wr => ∃ i : Nat, iv = .int .i64 i ∧ i ≤ n ∧ (∀ j, j < i → erT T j = 0) ∧ w = wr) (fun iv _ => n - (intOf iv).toNat)
  case atStart => exact ⟨0, rfl, by omega, fun j hj => by omega, rfl⟩
  case round =>
    obtain ⟨i, rfl, hi, hno, rfl⟩ := hrel
    have HN := Lib.hid hno
    clear hno
    by_cases hin : i < n
    · obtain ⟨b, off, rfl, hcell⟩ := HA.out (by omega)
      have d0 := hcell i hin
      obtain ⟨x, hx⟩ : ∃ x, x = T i := ⟨_, rfl⟩
      rw [← hx] at d0
      have HX := Lib.hid hx
      clear hx
      have HR := Lib.hid (fun v (h1 : erT T i = v) (h2 : v ≠ 0) => show textE T n = v from (firstE_at hin HN.out (by rw [h1]; exact h2)).trans h1)
      by_cases hx : x < 0 ∨ 1114111 < x
      · have HZ := Lib.hid (HR.out 2 (by unfold erT; rw [← HX.out, if_pos hx]) (by decide))
        have hcd : decide ((0 : Int) ≤ x ∧ x ≤ 1114111) = false := by simp; omega
        clear hcell hx
        go_wp2_with (go_at_call 8; refine (in_any _ _ _ _).mono ?_; rw [hcd]; rintro e w3 ⟨rfl, rfl⟩)
        go_ret
        exact ⟨by rw [HZ.out]; rfl, rfl⟩
      · have hcd : decide ((0 : Int) ≤ x ∧ x ≤ 1114111) = true := by simp; omega
        by_cases hi0 : i = 0
        · have HZ := Lib.hid (show erT T i = 0 by unfold erT; rw [← HX.out, if_neg hx, if_neg (by omega)])
          subst hi0
          rw [Nat.add_zero] at d0
          clear hx hcell
          go_wp2_with (go_at_call 8; refine (in_any _ _ _ _).mono ?_; rw [hcd]; rintro e w3 ⟨rfl, rfl⟩)
          go_roundw
          case rel => exact ⟨0 + 1, by go_num, by omega, fun j hj => by rw [show j = 0 by omega]; exact HZ.out, trivial⟩
          case measure => simp [intOf]; omega
        · have d1 := hcell (i - 1) (by omega)
          have e1 : (i : Int) - 1 = ((i - 1 : Nat) : Int) := by omega
          have hw1 := IntWalk.i64_in ((i - 1 : Nat) : Int) (by omega)
          have h0 : (0 : Int) < (i : Int) := by omega
          have h1 : ((i - 1 : Nat) : Int) < (n : Int) := by omega
          have h2 : (0 : Int) ≤ ((i - 1 : Nat) : Int) := by omega
          obtain ⟨y, hy⟩ : ∃ y, y = T (i - 1) := ⟨_, rfl⟩
          rw [← hy] at d1
          have HY := Lib.hid hy
          clear hy hcell
          by_cases hy : y = 10
          · have HZ := Lib.hid (HR.out 4 (by unfold erT; rw [← HX.out, if_neg hx, if_pos ⟨by omega, by rw [← HY.out]; exact hy⟩]) (by decide))
            subst hy
            clear hx
            go_wp2_with (go_at_call 8; refine (in_any _ _ _ _).mono ?_; rw [hcd]; rintro e w3 ⟨rfl, rfl⟩)
            go_ret
            exact ⟨by rw [HZ.out]; rfl, rfl⟩
          · have HZ := Lib.hid (show erT T i = 0 by unfold erT; rw [← HX.out, if_neg hx, if_neg (by rw [← HY.out]; omega)])
            have hy' : (y == 10) = false := by simpa using hy
            clear hx hy
            go_wp2_with (go_at_call 8; refine (in_any _ _ _ _).mono ?_; rw [hcd]; rintro e w3 ⟨rfl, rfl⟩)
            go_roundw
            case rel => exact ⟨i + 1, by go_num, by omega, fun j hj => by rcases Nat.lt_or_ge j i with h | h; exact HN.out j h; rw [show j = i by omega]; exact HZ.out, trivial⟩
            case measure => simp [intOf]; omega
    · obtain rfl : i = n := by omega
      have HZ := Lib.hid (show textE T i = 0 from firstE_none HN.out)
      go_wp2_with fail
      go_ret
      exact ⟨by rw [HZ.out]; rfl, rfl⟩
theorem below_grown {B : Nat} {w w2 w5 : World} {row : Option Nat} (h : Below B w w2) (hB : B ≤ w2.heap.size) (o : Obj) (hg : (w2.alloc o).grownBy w5 row) (hr : ∀ k, row = some k → B ≤ k) : Below B w w5 := by
  have h2 := h.alloc hB o
  have h3 : Below B (w2.alloc o) w5 := ⟨hg.os, hg.tape, hg.output, hg.size, fun k hk => hg.block k (by show k < (w2.alloc o).heap.size; simp; omega) (fun e => by have := hr k e.symm; omega)⟩
  exact h2.trans h3
theorem RowI.ints {w : World} {base : Nat} {e : TypeId} {a : Option Addr} {n c : Nat} {F : Nat → Int} (h : RowI w base e 1 (.slice a n c) n F) : IntsF w a n F := fun hn => by
  obtain ⟨g, cap, hv, _, _, _, _, _, hc⟩ := RowI.at h hn
  cases hv
  exact ⟨g, 0, rfl, fun i hi => by rw [Nat.zero_add]; exact hc i (by rw [Nat.mul_one]; exact hi)⟩
set_option maxHeartbeats 4000000 in
theorem para_any (n : Nat) (T : Nat → Int) (a : Option Addr) (c : Nat) (dir : Int) (w : World) (ha : IntsF w a n T) (hn : n ≤ 1000) :
    Calls Tryd.prog 9 #[.slice a n c, .int .i64 dir] w fun e w' => e = .returned (.int .i64 (if 0 ≤ dir then dir else if flt (fun i => clsB (T i)) n 0 n = 1 then 1 else 0)) ∧ Below w.heap.size w w' := by
  by_cases hd : 0 ≤ dir
  · have HD := Lib.hid hd
    go_enter Tryd.func9, Tryd.ntmps9
    go_wp2_with fail
    go_ret
    exact ⟨by first | rfl | (rw [if_pos HD.out]; rfl), Below.refl _ _⟩
  · have HA := Lib.hid ha
    have HD := Lib.hid hd
    have hd2 : ¬ dir ≥ 0 := hd
    have hd3 : dir < 0 := by omega
    have HI := Lib.hid (info_parts (show (Tryd.prog.info? 3).map (fun i => (i.zero, i.size, i.bytes)) = some (some (.int .i64 0), 1, 8) by kernel_rfl))
    obtain ⟨K, hK⟩ : ∃ K : Nat → Int, K = fun i => clsB (T i) := ⟨_, rfl⟩
    rw [← hK]
    have HK := Lib.hid (show ∀ i, K i = clsB (T i) from fun i => by rw [hK])
    rw [if_neg hd]
    obtain ⟨F, hF⟩ : ∃ F, F = flt K n 0 n := ⟨_, rfl⟩
    rw [← hF]
    have HFD := Lib.hid hF
    clear ha hK hd hF
    go_enter Tryd.func9, Tryd.ntmps9
    go_wp2_with fail
    go_loopw [5, 13] (fun kv iv wr => ∃ i : Nat, iv = .int .i64 i ∧ i ≤ n ∧ RowI wr w.heap.size 3 1 kv i K ∧ Below w.heap.size w wr) (fun _ iv _ => n - (intOf iv).toNat)
    case atStart => exact ⟨0, rfl, by omega, RowI.nil _ _ _ _ _, Below.refl _ _⟩
    case round =>
      obtain ⟨i, rfl, hi, hr, hb⟩ := hrel
      obtain ⟨ka, kc, rfl, hkc1, hkc2⟩ := hr.slice
      have HR := Lib.hid hr
      have HB := Lib.hid hb
      clear hr hb
      by_cases hin : i < n
      · obtain ⟨b, off, rfl, hcell⟩ := (HA.out.below (Nat.le_refl _) HB.out) (by omega)
        have d0 := hcell i hin
        clear hcell
        go_wp2_with fail
        refine (dir_cls (T i) wr).mono ?_
        rintro e w2 ⟨rfl, hb2⟩
        rw [← HK.out]
        have HR2 := Lib.hid (HR.out.below hb2 (Nat.le_refl _))
        have HB2 := Lib.hid (HB.out.trans (hb2.mono HB.out.size))
        have hsz2 := HB2.out.size
        clear hb2 d0 HR HB
        obtain ⟨xs, hown0, hxs⟩ := HR2.out
        have hxl := hown0.1
        have HXX := Lib.hid hown0
        have HXL := Lib.hid hxl
        have HXS := Lib.hid hxs
        obtain ⟨ii, hii, hz0, hz1, hz2⟩ := HI.out
        clear hown0 hxl hxs
        go_wp2_with (at_builtin; go_loud (refine wpList_append_own _ rfl _ _ 22 rfl (w.heap.size) 3 ii _ 1 8 Tryd.underlying22 hii hz0 hz1 hz2 rfl (by decide) _ _ _ rfl (RowL.alloc HXX.out _) ⟨w2.heap.size, 0, none⟩ 1 1 [.int .i64 (K i)] rfl rfl ?k1a ?k2a ?k3a ?k4a ?k5a ?_))
        try (case k1a =>
          intro j u hj
          have e : Addr.add ⟨w2.heap.size, 0, none⟩ j = ⟨w2.heap.size, j, none⟩ := by simp [Addr.add] <;> omega
          rw [e]
          exact cellNew1 (by simpa using hj))
        try (case k2a => first | rfl | (intro u hu; simp at hu; subst hu; rfl))
        try (case k3a => unfold maxLen; (try simp); (try omega))
        try (case k4a => (try simp); (try omega))
        try (case k5a => (try simp); (try omega))
        intro v5 w5 hown hgrow _
        have HR3 := Lib.hid (show RowI w5 w.heap.size 3 1 v5 (i + 1) K from RowI.push hown HXL.out HXS.out (fun j hj => by (obtain rfl : j = 0 := by omega); rw [Nat.mul_one]; rfl) (fun _ _ => rfl))
        have HB3 := Lib.hid (below_grown HB2.out HB2.out.size _ hgrow HR2.out.ge)
        clear hown hgrow hii hz0 hz1 hz2 HXX HXS HXL HR2
        go_wp2_with fail
        go_roundw
        case rel => exact ⟨i + 1, by go_num, by omega, HR3.out, HB3.out⟩
        case measure => simp [intOf]; omega
      · obtain rfl : i = n := by omega
        have HF := Lib.hid (firstLetter_any i K ka kc 0 i wr (RowI.ints HR.out) hn (Nat.le_refl _) (by omega))
        rw [← HFD.out] at HF
        by_cases h1 : F = 1
        · subst h1
          go_wp2_with fail
          refine HF.out.mono ?_
          rintro e w2 ⟨rfl, rfl⟩
          go_wp2_with fail
          go_ret
          exact ⟨rfl, HB.out⟩
        · have f1 : (F == 1) = false := by simpa using h1
          have HF1 := Lib.hid h1
          clear h1
          go_wp2_with fail
          refine HF.out.mono ?_
          rintro e w2 ⟨rfl, rfl⟩
          go_wp2_with fail
          go_ret
          exact ⟨by first | rfl | (rw [if_neg HF1.out]; rfl), HB.out⟩
end Go.Proofs.YtojbicdmcodgdaaDoor.BD
namespace Go.Law.Bd
open Go Go.Law Go.RowKit
set_option linter.unusedVariables false
/-- a cell of a character -/
def chV (K C V : Nat → Int) (O : Nat → Bool) (T : Nat → Int) (i j : Nat) : Value :=
  if j = 0 then .int .i64 (K i) else if j = 1 then .int .i64 (C i) else if j = 2 then .int .i64 (V i) else if j = 3 then .bool (O i) else .int .i64 (T i)
/-- the characters -/
def Ch (w : World) (lo : Nat) (v : Value) (n : Nat) (K C V : Nat → Int) (O : Nat → Bool) (T : Nat → Int) : Prop := RowV w lo 49 5 v n (chV K C V O T)
section
variable {w w' : World} {lo g cap n i : Nat} {v : Value} {K C V C' V' : Nat → Int} {O O' : Nat → Bool} {T : Nat → Int}
theorem Ch.congr (h : Ch w lo v n K C V O T) (hC : ∀ j, j < n → C j = C' j) (hV : ∀ j, j < n → V j = V' j) (hO : ∀ j, j < n → O j = O' j) : Ch w lo v n K C' V' O' T :=
  RowV.congr h fun i hi j _ => by unfold chV; rw [hC i hi, hV i hi, hO i hi]
theorem Ch.at (h : Ch w lo v n K C V O T) (hi : i < n) : ∃ g cap, v = .slice (some ⟨g, 0, none⟩) n cap ∧ lo ≤ g ∧ g < w.heap.size ∧ n ≤ cap ∧ cap ≤ maxLen ∧ (∀ i, w.frozen? ⟨g, i, none⟩ = false) ∧
    w.cell? ⟨g, i * 5, none⟩ = some (.int .i64 (K i)) ∧ w.cell? ⟨g, i * 5 + 1, none⟩ = some (.int .i64 (C i)) ∧ w.cell? ⟨g, i * 5 + 2, none⟩ = some (.int .i64 (V i)) ∧ w.cell? ⟨g, i * 5 + 3, none⟩ = some (.bool (O i)) ∧ w.cell? ⟨g, i * 5 + 4, none⟩ = some (.int .i64 (T i)) := by
  obtain ⟨g, cap, h1, h2, h3, h4, h5, h6, h7⟩ := RowV.at h (by omega)
  exact ⟨g, cap, h1, h2, h3, h4, h5, h6, h7 i hi 0 (by omega), h7 i hi 1 (by omega), h7 i hi 2 (by omega), h7 i hi 3 (by omega), h7 i hi 4 (by omega)⟩
theorem Ch.cells (h : Ch w lo (.slice (some ⟨g, 0, none⟩) n cap) n K C V O T) (hi : i < n) : (∀ i, w.frozen? ⟨g, i, none⟩ = false) ∧
    w.cell? ⟨g, i * 5, none⟩ = some (.int .i64 (K i)) ∧ w.cell? ⟨g, i * 5 + 1, none⟩ = some (.int .i64 (C i)) ∧ w.cell? ⟨g, i * 5 + 2, none⟩ = some (.int .i64 (V i)) ∧ w.cell? ⟨g, i * 5 + 3, none⟩ = some (.bool (O i)) ∧ w.cell? ⟨g, i * 5 + 4, none⟩ = some (.int .i64 (T i)) := by
  obtain ⟨g', cap', h1, h2, h3, h4, h5, h6⟩ := h.at hi
  cases h1
  exact h6
theorem Ch.setC (h : Ch w lo (.slice (some ⟨g, 0, none⟩) n cap) n K C V O T) (hi : i < n) (x : Int) : Ch (w.setCell ⟨g, i * 5 + 1, none⟩ (.int .i64 x)) lo (.slice (some ⟨g, 0, none⟩) n cap) n K (upd C i x) V O T :=
  (RowV.set h i 1 hi (by omega) _).congr fun a _ j hj => by
    unfold updV chV upd
    by_cases ha : a = i
    · subst ha
      by_cases hj1 : j = 1
      · subst hj1; simp
      · simp [hj1]
    · simp [ha]
theorem Ch.setV (h : Ch w lo (.slice (some ⟨g, 0, none⟩) n cap) n K C V O T) (hi : i < n) (x : Int) : Ch (w.setCell ⟨g, i * 5 + 2, none⟩ (.int .i64 x)) lo (.slice (some ⟨g, 0, none⟩) n cap) n K C (upd V i x) O T :=
  (RowV.set h i 2 hi (by omega) _).congr fun a _ j hj => by
    unfold updV chV upd
    by_cases ha : a = i
    · subst ha
      by_cases hj1 : j = 2
      · subst hj1; simp
      · simp [hj1]
    · simp [ha]
theorem Ch.setO (h : Ch w lo (.slice (some ⟨g, 0, none⟩) n cap) n K C V O T) (hi : i < n) (x : Bool) : Ch (w.setCell ⟨g, i * 5 + 3, none⟩ (.bool x)) lo (.slice (some ⟨g, 0, none⟩) n cap) n K C V (fun j => if j = i then x else O j) T :=
  (RowV.set h i 3 hi (by omega) _).congr fun a _ j hj => by
    unfold updV chV
    by_cases ha : a = i
    · subst ha
      by_cases hj1 : j = 3
      · subst hj1; simp
      · simp [hj1]
    · simp [ha]
theorem Ch.block (h : Ch w lo v n K C V O T) (hb : ∀ k, v.ownBlock = some k → w'.heap[k]? = w.heap[k]?) : Ch w' lo v n K C V O T := RowV.block h hb
theorem Ch.lt (h : Ch w lo (.slice (some ⟨g, 0, none⟩) n cap) n K C V O T) : g < w.heap.size := RowV.lt h rfl
theorem Ch.only (h : Ch w lo (.slice (some ⟨g, 0, none⟩) n cap) n K C V O T) (hb : w'.heap[g]? = w.heap[g]?) : Ch w' lo (.slice (some ⟨g, 0, none⟩) n cap) n K C V O T :=
  h.block fun k hk => by cases hk; exact hb
end
structure EmP where
  lo : Nat
  g : Nat
  cap : Nat
  n : Nat
  sp : Nat
  K : Nat → Int
  T : Nat → Int
/-- the value of the row of characters -/
def EmP.lv (p : EmP) : Value := .slice (some ⟨p.g, 0, none⟩) p.n p.cap
structure EmOk (p : EmP) (w0 : World) : Prop where
  g : p.g < w0.heap.size
  sp : w0.heap.size ≤ p.sp
structure Em (p : EmP) (b : Ent) (C V : Nat → Int) (O : Nat → Bool) (w0 wr : World) (sv : Value) (S : List Ent) : Prop where
  ch : Ch wr p.lo (.slice (some ⟨p.g, 0, none⟩) p.n p.cap) p.n p.K C V O p.T
  st : RowV wr w0.heap.size 74 3 sv S.length (stV b S)
  sp : Blk wr p.sp #[sv] 75
  sv : Save (fun k => k = p.g) w0 wr
section
variable {p : EmP} {b x y : Ent} {C C' V V' : Nat → Int} {O O' : Nat → Bool} {w0 wr w' w1 : World} {sv v' : Value} {i : Nat} {S : List Ent} {o : Obj} {xs : List Value}
theorem Em.drewN (h : Em p b C V O w0 wr sv S) (q : Nat) : Em p b C V O w0 (wr.drewN q) sv S := ⟨h.ch.only rfl, h.st.block (fun _ _ => rfl), h.sp.drewN q, h.sv.drewN q⟩
theorem Em.drew (h : Em p b C V O w0 wr sv S) : Em p b C V O w0 wr.drew sv S := h.drewN 1
theorem Em.alloc (h : Em p b C V O w0 wr sv S) (o : Obj) : Em p b C V O w0 (wr.alloc o) sv S :=
  ⟨h.ch.only (Below.heap_alloc _ _ _ h.ch.lt), h.st.below ((Below.refl _ _).alloc (Nat.le_refl _) o) (Nat.le_refl _), h.sp.alloc o, h.sv.alloc o⟩
theorem Em.congr (h : Em p b C V O w0 wr sv S) (hC : ∀ j, j < p.n → C j = C' j) (hV : ∀ j, j < p.n → V j = V' j) (hO : ∀ j, j < p.n → O j = O' j) : Em p b C' V' O' w0 wr sv S := ⟨h.ch.congr hC hV hO, h.st, h.sp, h.sv⟩
theorem Em.row (ok : EmOk p w0) (h : Em p b C V O w0 wr sv S) : sv.ownBlock ≠ some p.g ∧ sv.ownBlock ≠ some p.sp :=
  ⟨fun e => by have := h.st.ge _ e; have := ok.g; omega, RowV.notblk h.st h.sp (by decide)⟩
theorem Em.setC (ok : EmOk p w0) (h : Em p b C V O w0 wr sv S) (hi : i < p.n) (x : Int) : Em p b (upd C i x) V O w0 (wr.setCell ⟨p.g, i * 5 + 1, none⟩ (.int .i64 x)) sv S :=
  ⟨h.ch.setC hi x, h.st.other (h.row ok).1 _, h.sp.other (by have := ok.g; have := ok.sp; show p.sp ≠ p.g; omega) _, h.sv.set (.inl rfl) _⟩
theorem Em.setV (ok : EmOk p w0) (h : Em p b C V O w0 wr sv S) (hi : i < p.n) (x : Int) : Em p b C (upd V i x) O w0 (wr.setCell ⟨p.g, i * 5 + 2, none⟩ (.int .i64 x)) sv S :=
  ⟨h.ch.setV hi x, h.st.other (h.row ok).1 _, h.sp.other (by have := ok.g; have := ok.sp; show p.sp ≠ p.g; omega) _, h.sv.set (.inl rfl) _⟩
theorem Em.setO (ok : EmOk p w0) (h : Em p b C V O w0 wr sv S) (hi : i < p.n) (x : Bool) : Em p b C V (fun j => if j = i then x else O j) w0 (wr.setCell ⟨p.g, i * 5 + 3, none⟩ (.bool x)) sv S :=
  ⟨h.ch.setO hi x, h.st.other (h.row ok).1 _, h.sp.other (by have := ok.g; have := ok.sp; show p.sp ≠ p.g; omega) _, h.sv.set (.inl rfl) _⟩
/-- a store into a block beside -/
theorem Em.other (h : Em p b C V O w0 wr sv S) {a : Addr} (h1 : p.g ≠ a.block) (h2 : p.sp ≠ a.block) (h3 : sv.ownBlock ≠ some a.block) (h4 : w0.heap.size ≤ a.block) (u : Value) : Em p b C V O w0 (wr.setCell a u) sv S :=
  ⟨h.ch.only (Below.heap_setCell _ _ _ _ h1), h.st.other h3 _, h.sp.other h2 _, h.sv.set (.inr h4) _⟩
/-- an entry more -/
theorem Em.push (ok : EmOk p w0) (h : Em p b C V O w0 wr sv S) (hg : (wr.alloc o).grownBy w1 sv.ownBlock)
    (hown : w1.ownsRow w0.heap.size 74 3 v' (S.length + 1) (xs ++ [.int .i64 y.lev, .int .i64 y.ovr, .bool y.iso])) (hl : xs.length = S.length * 3) (hx : ∀ i, i < S.length → ∀ j, j < 3 → xs[i * 3 + j]? = some (stV b S i j)) :
    Em p b C V O w0 (w1.setCell ⟨p.sp, 0, none⟩ v') v' (y :: S) := by
  have ha := h.alloc o
  have hr := ha.row ok
  have h1 : RowV w1 w0.heap.size 74 3 v' (y :: S).length (stV b (y :: S)) := RowV.push hown hl hx (fun j hj => by
    match j, hj with
    | 0, _ => show _ = some (stV _ _ _ _); unfold stV; rw [stV_last]; rfl
    | 1, _ => show _ = some (stV _ _ _ _); unfold stV; rw [stV_last]; rfl
    | 2, _ => show _ = some (stV _ _ _ _); unfold stV; rw [stV_last]; rfl) (fun i hi j _ => stV_push b S y hi j)
  have h2 : Blk w1 p.sp #[sv] 75 := ha.sp.block (hg.block _ ha.sp.lt (fun e => hr.2 e.symm))
  refine ⟨(ha.ch.only (hg.block _ ha.ch.lt (fun e => hr.1 e.symm))).only (Below.heap_setCell _ _ _ _ (by have := ok.g; have := ok.sp; show p.g ≠ p.sp; omega)), h1.other (RowV.notblk h1 h2 (by decide)) _, h2.set 0 _, (ha.sv.grown hg (fun q hq => ha.st.ge q hq)).set (.inr ok.sp) _⟩
/-- some entries less -/
theorem Em.cut {a : Option Addr} {m cap : Nat} {l1 l : List Ent} (ok : EmOk p w0) (h : Em p b C V O w0 wr (.slice a m cap) (l1 ++ l)) (hn : m = l1.length + l.length) :
    Em p b C V O w0 (wr.setCell ⟨p.sp, 0, none⟩ (.slice a l.length cap)) (.slice a l.length cap) l := by
  subst hn
  have hr := h.row ok
  have h1 := h.st
  rw [List.length_append] at h1
  have h2 := (RowV.take h1 (k := l.length) (by omega)).congr (V' := stV b l) fun i hi j _ => stV_pre b l1 l hi j
  exact ⟨h.ch.only (Below.heap_setCell _ _ _ _ (by have := ok.g; have := ok.sp; show p.g ≠ p.sp; omega)), h2.other (fun e => hr.2 (by cases a with | none => simp [Value.ownBlock] at e | some a => exact e)) _, h.sp.set 0 _, h.sv.set (.inr ok.sp) _⟩
/-- the cells of the top -/
theorem RowV.topR {g0 cap : Nat} (h : RowV wr w0.heap.size 74 3 (.slice (some ⟨g0, 0, none⟩) (y :: S).length cap) (y :: S).length (stV b (y :: S))) :
    wr.cell? ⟨g0, S.length * 3, none⟩ = some (.int .i64 y.lev) ∧ wr.cell? ⟨g0, S.length * 3 + 1, none⟩ = some (.int .i64 y.ovr) ∧ wr.cell? ⟨g0, S.length * 3 + 2, none⟩ = some (.bool y.iso) := by
  have h0 := RowV.cellAt h (i := S.length) (j := 0) (by simp) (by omega)
  have h1 := RowV.cellAt h (i := S.length) (j := 1) (by simp) (by omega)
  have h2 := RowV.cellAt h (i := S.length) (j := 2) (by simp) (by omega)
  unfold stV at h0 h1 h2
  rw [stV_last] at h0 h1 h2
  exact ⟨h0, h1, h2⟩
end
end Go.Law.Bd
namespace Go.Proofs.YtojbicdmcodgdaaDoor.BD
open Go.RowKit Go.Law Go.Law.Bd
set_option linter.unusedVariables false
set_option linter.unusedSimpArgs false
set_option maxRecDepth 100000
set_option maxHeartbeats 2000000 in
theorem plain_any {p : EmP} {b x : Ent} {C V : Nat → Int} {O : Nat → Bool} {w0 w : World} {sv : Value} {t : List Ent} {i cb : Nat} (ok : EmOk p w0) (h : Em p b C V O w0 w sv (x :: t)) (hc : Blk w cb #[.pointer (some ⟨p.g, i * 5, none⟩)] 76)
    (hi : i < p.n) (hn : p.n ≤ 1000) (ht : t.length ≤ 1000) :
    Calls Tryd.prog 46 #[.pointer (some ⟨p.sp, 0, none⟩), .pointer (some ⟨cb, 0, none⟩)] w fun e w' => e = .returned (.tuple #[]) ∧ Em p b (ovC C i x.ovr) (upd V i x.lev) O w0 w' sv (x :: t) ∧ Save (fun k => k = p.g) w w' := by
  have OK := Lib.hid ok
  obtain ⟨lv, ov, iso⟩ := x
  have HE := Lib.hid h
  have s0 : w.cell? ⟨p.sp, 0, none⟩ = _ := h.sp.cell (i := 0) rfl
  have k0 : w.cell? ⟨cb, 0, none⟩ = _ := hc.cell (i := 0) rfl
  have hsl : (Ent.mk lv ov iso :: t).length = t.length + 1 := by simp
  obtain ⟨gs, cs, hsv, hgs, hgl, hsc1, hsc2, hsf, _⟩ := RowV.at h.st (by simp)
  subst hsv
  obtain ⟨m0, m1, m2⟩ := RowV.topR h.st
  simp only at m0 m1 m2
  obtain ⟨z, _⟩ := h.ch.cells hi
  have z1 := z (i * 5 + 1)
  have z2 := z (i * 5 + 2)
  have hcb := hc.lt
  have hgw := h.ch.lt
  have hspl := h.sp.lt
  obtain ⟨T, hT⟩ : ∃ T, T = t.length := ⟨_, rfl⟩
  rw [hsl, ← hT] at HE s0 ⊢
  rw [← hT] at m0 m1 m2 ht
  rw [hsl, ← hT] at hsc1
  have e1 : (T : Int) + 1 - 1 = (T : Int) := by omega
  have hw9 := IntWalk.i64_in (T : Int) (by omega)
  have hne : cb ≠ p.g := by
    rintro rfl
    have h1 := h.ch
    exact RowV.notblk h1 hc (by decide) rfl
  have hd : cb ≠ w.heap.size := by omega
  have HCB := Lib.hid hc
  clear h hc z hsl hT ok
  go_enter Tryd.func46, Tryd.ntmps46
  go_upto_region 1 with fail
  obtain ⟨w1, hw1⟩ : ∃ w1, w1 = w.alloc (Obj.cells #[.int .i64 lv, .int .i64 ov, .bool iso] 74) := ⟨_, rfl⟩
  obtain ⟨g1, hg1⟩ : ∃ g1, g1 = w.heap.size := ⟨_, rfl⟩
  have HE1 := Lib.hid (show Em p b C V O w0 w1 (.slice (some ⟨gs, 0, none⟩) (T + 1) cs) (⟨lv, ov, iso⟩ :: t) by rw [hw1]; exact HE.out.alloc _)
  have hb1 : Blk w1 g1 #[.int .i64 lv, .int .i64 ov, .bool iso] 74 := by rw [hw1, hg1]; exact Blk.new _ _ _
  have HS1 := Lib.hid (show Save (fun k => k = p.g) w w1 by rw [hw1]; exact (Save.refl _ w).alloc _)
  have hc1 : Blk w1 cb #[.pointer (some ⟨p.g, i * 5, none⟩)] 76 := by rw [hw1]; exact HCB.out.alloc _
  have k0' : w1.cell? ⟨cb, 0, none⟩ = _ := hc1.cell (i := 0) rfl
  have n0 := hb1.cell (i := 0) rfl
  have n1 := hb1.cell (i := 1) rfl
  obtain ⟨z, _⟩ := HE1.out.ch.cells hi
  have z1 := z (i * 5 + 1)
  have z2 := z (i * 5 + 2)
  have hg1p : g1 ≠ p.g := by omega
  have HB1 := Lib.hid hb1
  rw [← hw1, ← hg1]
  clear hw1 hg1 s0 k0 m0 m1 m2 HE hb1 z e1 hw9 hd hgl
  go_upto_region 2 with fail
  obtain ⟨w2, hw2⟩ : ∃ w2, w2 = w1.setCell ⟨p.g, i * 5 + 2, none⟩ (.int .i64 lv) := ⟨_, rfl⟩
  have HE2 := Lib.hid (show Em p b C (upd V i lv) O w0 w2 (.slice (some ⟨gs, 0, none⟩) (T + 1) cs) (⟨lv, ov, iso⟩ :: t) by rw [hw2]; exact HE1.out.setV OK.out hi lv)
  have HS2 := Lib.hid (show Save (fun k => k = p.g) w w2 by rw [hw2]; exact HS1.out.set (.inl rfl) _)
  have hb2 : Blk w2 g1 #[.int .i64 lv, .int .i64 ov, .bool iso] 74 := by rw [hw2]; exact HB1.out.other hg1p _
  have hc2 : Blk w2 cb #[.pointer (some ⟨p.g, i * 5, none⟩)] 76 := by rw [hw2]; exact hc1.other hne _
  have k2 : w2.cell? ⟨cb, 0, none⟩ = _ := hc2.cell (i := 0) rfl
  have n1 := hb2.cell (i := 1) rfl
  have n0 := hb2.cell (i := 0) rfl
  obtain ⟨z, _⟩ := HE2.out.ch.cells hi
  have z1 := z (i * 5 + 1)
  rw [← hw2]
  clear hw2 k0' HE1 HS1 HB1 hb2 z z2 hc1 hc2 HCB
  by_cases ho : 0 ≤ ov
  · have HO := Lib.hid ho
    go_wp2_with fail
    first | go_end0 | (simp only [Exit.inBlock, Exit.then]; refine bodyPost_ret (results_none rfl _ _ _) rfl ?_) | refine bodyPost_ret (results_none rfl _ _ _) rfl ?_
    exact ⟨rfl, by unfold ovC; rw [if_pos HO.out]; exact HE2.out.setC OK.out hi ov, HS2.out.set (.inl rfl) _⟩
  · have HO := Lib.hid ho
    have ho2 : ov < 0 := by omega
    go_wp2_with fail
    first | go_end0 | (simp only [Exit.inBlock, Exit.then]; refine bodyPost_ret (results_none rfl _ _ _) rfl ?_) | refine bodyPost_ret (results_none rfl _ _ _) rfl ?_
    exact ⟨rfl, by unfold ovC; rw [if_neg (show ¬ 0 ≤ ov by have := HO.out; omega)]; exact HE2.out, HS2.out⟩
set_option maxHeartbeats 8000000 in
theorem rfMake {n tc : Nat} {T : Nat → Int} {ta : Option Addr} {base : Int} {w : World} {tv0 : Value} (HT : Hid (IntsF w ta n T)) (hn2 : n ≤ 200)
    {s2 s3 s6 s7 s8 s9 s10 s11 s12 s13 s14 s15 s16 s17 s18 s19 s23 s24 s25 s26 s27 s28 s29 s30 s31 s32 s33 s34 s35 s36 s37 s38 s39 s40 s41 s42 s43 s44 s45 s46 s47 s48 s49 s50 s51 s52 s53 s54 s55 s56 s57 s58 s59 s60 s61 s62 s63 s64 s65 s66 s67 s68 s69 s70 s71 s72 s73 s74 s75 s76 s77 s78 s79 s80 s81 s82 s83 s84 s85 s86 s87 s88 s89 s90 s91 s92 s93 s94 s95 s96 s97 s98 s99 s100 s101 s102 s103 s104 s105 s106 s107 s108 s109 s110 s111 s112 s113 s114 s115 s116 s117 s118 s119 s120 s121 s122 s123 s124 s125 s126 s127 s128 s129 s130 s131 s132 s133 s134 s135 s136 s137 s138 s139 s140 s141 s142 s143 s144 s145 s146 s147 s148 s149 s150 s151 s152 s153 s154 s155 s156 s157 s158 s159 s160 s161 s162 s163 s164 s165 s166 s167 s168 s169 s170 s171 s172 s173 s174 s175 s176 s177 s178 : Value} {J K' : Act → World → Prop} {Q : Exit → Act → World → Prop}
    (hJ : ∀ (a' : Act) (w' : World), (∃ u5 u7 u8 u22 u23 u24 u25 u26 u27 u28 u29 u30 u31 u32 u33 u34 u35 : Value, (Ch w' w.heap.size u5 n (fun i => clsB (T i)) (fun i => clsB (T i)) (fun _ => 0) (fun _ => false) T ∧ Below w.heap.size w w') ∧ a' = ⟨#[tv0, .int .i64 base, s2, s3, .slice none 0 0, u5, s6, u7, u8, s9, s10, s11, s12, s13, s14, s15, s16, s17, s18, s19, .slice ta n tc, .int .i64 n, u22, u23, u24, u25, u26, u27, u28, u29, u30, u31, u32, u33, u34, u35, s36, s37, s38, s39, s40, s41, s42, s43, s44, s45, s46, s47, s48, s49, s50, s51, s52, s53, s54, s55, s56, s57, s58, s59, s60, s61, s62, s63, s64, s65, s66, s67, s68, s69, s70, s71, s72, s73, s74, s75, s76, s77, s78, s79, s80, s81, s82, s83, s84, s85, s86, s87, s88, s89, s90, s91, s92, s93, s94, s95, s96, s97, s98, s99, s100, s101, s102, s103, s104, s105, s106, s107, s108, s109, s110, s111, s112, s113, s114, s115, s116, s117, s118, s119, s120, s121, s122, s123, s124, s125, s126, s127, s128, s129, s130, s131, s132, s133, s134, s135, s136, s137, s138, s139, s140, s141, s142, s143, s144, s145, s146, s147, s148, s149, s150, s151, s152, s153, s154, s155, s156, s157, s158, s159, s160, s161, s162, s163, s164, s165, s166, s167, s168, s169, s170, s171, s172, s173, s174, s175, s176, s177, s178], []⟩) → J a' w')
    (hK : ∀ (a' : Act) (w' : World), Met J a' w' → K' a' w') :
    Code.wp Tryd.prog (theBlk Tryd.f11 0) (Exit.then K' Q) ⟨#[tv0, .int .i64 base, s2, s3, .slice none 0 0, .slice none 0 0, s6, s7, s8, s9, s10, s11, s12, s13, s14, s15, s16, s17, s18, s19, .slice ta n tc, .int .i64 n, .int .i64 0, s23, s24, s25, s26, s27, s28, s29, s30, s31, s32, s33, s34, s35, s36, s37, s38, s39, s40, s41, s42, s43, s44, s45, s46, s47, s48, s49, s50, s51, s52, s53, s54, s55, s56, s57, s58, s59, s60, s61, s62, s63, s64, s65, s66, s67, s68, s69, s70, s71, s72, s73, s74, s75, s76, s77, s78, s79, s80, s81, s82, s83, s84, s85, s86, s87, s88, s89, s90, s91, s92, s93, s94, s95, s96, s97, s98, s99, s100, s101, s102, s103, s104, s105, s106, s107, s108, s109, s110, s111, s112, s113, s114, s115, s116, s117, s118, s119, s120, s121, s122, s123, s124, s125, s126, s127, s128, s129, s130, s131, s132, s133, s134, s135, s136, s137, s138, s139, s140, s141, s142, s143, s144, s145, s146, s147, s148, s149, s150, s151, s152, s153, s154, s155, s156, s157, s158, s159, s160, s161, s162, s163, s164, s165, s166, s167, s168, s169, s170, s171, s172, s173, s174, s175, s176, s177, s178], []⟩ w := by
  have HI := Lib.hid (info_parts (show (Tryd.prog.info? 49).map (fun i => (i.zero, i.size, i.bytes)) = some (some (.agg #[.int .i64 0, .int .i64 0, .int .i64 0, .bool false, .int .i64 0]), 5, 40) by kernel_rfl))
  conv => arg 2; whnf
  go_wp2_with fail
  go_loopw [5, 22] (fun v iv wr => ∃ i : Nat, iv = .int .i64 i ∧ i ≤ n ∧ Ch wr w.heap.size v i (fun i => clsB (T i)) (fun i => clsB (T i)) (fun _ => 0) (fun _ => false) T ∧ Below w.heap.size w wr) (fun _ iv _ => n - (intOf iv).toNat)
  case atStart => exact ⟨0, rfl, by omega, RowV.nil _ _ _ _ _, Below.refl _ _⟩
  case round =>
    obtain ⟨i, rfl, hi, hch, hb⟩ := hrel
    obtain ⟨va, vc, hv, hvc1, hvc2⟩ := RowV.slice hch
    subst hv
    have HCH := Lib.hid hch
    have HB := Lib.hid hb
    clear hch
    by_cases hin : i < n
    case neg =>
      obtain rfl : i = n := by omega
      clear hb
      go_wp2_with fail
      go_meet
      exact ⟨HCH.out, HB.out⟩
    obtain ⟨b0, off, hta, hcc⟩ := (HT.out.below (Nat.le_refl _) hb) (by omega)
    have c0 := hcc i hin
    subst hta
    have hini : (i : Int) < (n : Int) := by omega
    have HD := Lib.hid (dir_cls (T i) wr)
    obtain ⟨ti, hti⟩ : ∃ x, x = T i := ⟨_, rfl⟩
    obtain ⟨ki, hki⟩ : ∃ x, x = clsB (T i) := ⟨_, rfl⟩
    rw [← hki, ← hti] at HD
    rw [← hti] at c0
    have HTI := Lib.hid hti
    have HKI := Lib.hid hki
    clear hcc hti hki hb
    go_wp2_with fail
    refine HD.out.mono ?_
    rintro e2 w2 ⟨rfl, hb2⟩
    have HC2 := Lib.hid (RowV.below HCH.out hb2 (Nat.le_refl _))
    have HB2 := Lib.hid (HB.out.trans (hb2.mono HB.out.size))
    dsimp only
    clear hb2 HD c0 HCH HB
    obtain ⟨xs, hown0, hxl, hxs⟩ := RowV.own HC2.out
    have HX := Lib.hid hown0
    have HXL := Lib.hid hxl
    have HXS := Lib.hid hxs
    obtain ⟨ii, hii, hz0, hz1, hz2⟩ := HI.out
    have hlow := HB2.out.size
    clear hown0 hxl hxs
    go_wp2_with (at_builtin; go_loud (refine wpList_append_own _ rfl _ _ 47 rfl (w.heap.size) 49 ii _ 5 40 Tryd.underlying47 hii hz0 hz1 hz2 rfl (by decide) _ _ _ rfl (RowL.alloc HX.out _) ⟨w2.heap.size, 0, none⟩ 1 1 [.int .i64 ki, .int .i64 ki, .int .i64 0, .bool false, .int .i64 ti] rfl rfl ?k1 ?k2 ?k3 ?k4 ?k5 ?_))
    try (case k1 =>
      intro j u hj
      have e : Addr.add ⟨w2.heap.size, 0, none⟩ j = ⟨w2.heap.size, j, none⟩ := by simp [Addr.add] <;> omega
      rw [e]
      exact cellNewS (by simpa using hj))
    try (case k2 => first | exact ⟨rfl, rfl, rfl, rfl, rfl⟩ | (intro u hu; simp at hu; rcases hu with rfl | rfl | rfl | rfl | rfl <;> rfl) | (intro u hu; simp at hu; rcases hu with rfl | rfl | rfl | rfl <;> rfl))
    try (case k3 => unfold maxLen; (try simp); (try omega))
    try (case k4 => (try simp); (try omega))
    try (case k5 => (try simp); (try omega))
    intro v5 w5 hown hgrow _
    have HC5 := Lib.hid (show Ch w5 w.heap.size v5 (i + 1) (fun i => clsB (T i)) (fun i => clsB (T i)) (fun _ => 0) (fun _ => false) T from RowV.push hown HXL.out HXS.out (fun j hj => by
      show _ = some (if j = 0 then Value.int .i64 (clsB (T i)) else if j = 1 then Value.int .i64 (clsB (T i)) else if j = 2 then Value.int .i64 0 else if j = 3 then Value.bool false else Value.int .i64 (T i))
      rw [← HKI.out, ← HTI.out]
      match j, hj with
      | 0, _ => rfl
      | 1, _ => rfl
      | 2, _ => rfl
      | 3, _ => rfl
      | 4, _ => rfl) (fun _ _ _ _ => rfl))
    have HB5 := Lib.hid (below_grown HB2.out HB2.out.size _ hgrow (fun q hq => RowV.ge HC2.out q hq))
    clear hown hgrow hii hz0 hz1 hz2 HX HXS HXL HC2 HB2
    go_wp2_with fail
    go_roundw
    case rel => exact ⟨i + 1, by go_num, by omega, HC5.out, HB5.out⟩
    case measure => simp [intOf]; omega
set_option maxHeartbeats 8000000 in
theorem rfOut {lo g cap n : Nat} {K C V T : Nat → Int} {O : Nat → Bool} {base : Int} {wS : World} {s4v : Value} (HC : Hid (Ch wS lo (.slice (some ⟨g, 0, none⟩) n cap) n K C V O T)) (hn2 : n ≤ 200)
    {s0 s2 s3 s4 s6 s7 s8 s9 s10 s11 s12 s13 s14 s15 s16 s17 s18 s19 s20 s21 s22 s23 s24 s25 s26 s27 s28 s29 s30 s31 s32 s33 s34 s35 s36 s37 s38 s39 s40 s41 s42 s43 s44 s45 s46 s47 s48 s49 s50 s51 s52 s53 s54 s55 s56 s57 s58 s59 s60 s61 s62 s63 s64 s65 s66 s67 s68 s69 s70 s71 s72 s73 s74 s75 s76 s77 s78 s79 s80 s81 s82 s83 s84 s85 s86 s87 s88 s89 s93 s94 s95 s96 s97 s98 s99 s100 s101 s102 s103 s104 s105 s106 s107 s108 s109 s110 s111 s112 s113 s114 s115 s116 s117 s118 s119 s120 s121 s122 s123 s124 s125 s126 s127 s128 s129 s130 s131 s132 s133 s134 s135 s136 s137 s138 s139 s140 s141 s142 s143 s144 s145 s146 s147 s148 s149 s150 s151 s152 s153 s154 s155 s156 s157 s158 s159 s160 s161 s162 s163 s164 s165 s166 s167 s168 s169 s170 s171 s172 s173 s174 s175 s176 s177 s178 : Value} {J K' : Act → World → Prop} {Q : Exit → Act → World → Prop}
    (hJ : ∀ (a' : Act) (w' : World), (∃ u15 u92 u93 u94 u95 u96 u97 u98 u99 u100 u101 u102 u103 u104 u105 u106 u107 u108 u109 u110 u111 u112 u113 u114 u115 u116 u117 : Value, (Ch w' lo (.slice (some ⟨g, 0, none⟩) n cap) n K C (outL O V base) O T ∧ Save (fun k => k = g) wS w') ∧ a' = ⟨#[s0, .int .i64 base, s2, s3, s4, .slice (some ⟨g, 0, none⟩) n cap, s6, s7, s8, s9, s10, s11, s12, s13, s14, u15, s16, s17, s18, s19, s20, s21, s22, s23, s24, s25, s26, s27, s28, s29, s30, s31, s32, s33, s34, s35, s36, s37, s38, s39, s40, s41, s42, s43, s44, s45, s46, s47, s48, s49, s50, s51, s52, s53, s54, s55, s56, s57, s58, s59, s60, s61, s62, s63, s64, s65, s66, s67, s68, s69, s70, s71, s72, s73, s74, s75, s76, s77, s78, s79, s80, s81, s82, s83, s84, s85, s86, s87, s88, s89, .slice (some ⟨g, 0, none⟩) n cap, .int .i64 n, u92, u93, u94, u95, u96, u97, u98, u99, u100, u101, u102, u103, u104, u105, u106, u107, u108, u109, u110, u111, u112, u113, u114, u115, u116, u117, s118, s119, s120, s121, s122, s123, s124, s125, s126, s127, s128, s129, s130, s131, s132, s133, s134, s135, s136, s137, s138, s139, s140, s141, s142, s143, s144, s145, s146, s147, s148, s149, s150, s151, s152, s153, s154, s155, s156, s157, s158, s159, s160, s161, s162, s163, s164, s165, s166, s167, s168, s169, s170, s171, s172, s173, s174, s175, s176, s177, s178], []⟩) → J a' w')
    (hK : ∀ (a' : Act) (w' : World), Met J a' w' → K' a' w') :
    Code.wp Tryd.prog (theBlk Tryd.f11 6) (Exit.then K' Q) ⟨#[s0, .int .i64 base, s2, s3, s4, .slice (some ⟨g, 0, none⟩) n cap, s6, s7, s8, s9, s10, s11, s12, s13, s14, s15, s16, s17, s18, s19, s20, s21, s22, s23, s24, s25, s26, s27, s28, s29, s30, s31, s32, s33, s34, s35, s36, s37, s38, s39, s40, s41, s42, s43, s44, s45, s46, s47, s48, s49, s50, s51, s52, s53, s54, s55, s56, s57, s58, s59, s60, s61, s62, s63, s64, s65, s66, s67, s68, s69, s70, s71, s72, s73, s74, s75, s76, s77, s78, s79, s80, s81, s82, s83, s84, s85, s86, s87, s88, s89, .slice (some ⟨g, 0, none⟩) n cap, .int .i64 n, .int .i64 0, s93, s94, s95, s96, s97, s98, s99, s100, s101, s102, s103, s104, s105, s106, s107, s108, s109, s110, s111, s112, s113, s114, s115, s116, s117, s118, s119, s120, s121, s122, s123, s124, s125, s126, s127, s128, s129, s130, s131, s132, s133, s134, s135, s136, s137, s138, s139, s140, s141, s142, s143, s144, s145, s146, s147, s148, s149, s150, s151, s152, s153, s154, s155, s156, s157, s158, s159, s160, s161, s162, s163, s164, s165, s166, s167, s168, s169, s170, s171, s172, s173, s174, s175, s176, s177, s178], []⟩ wS := by
  conv => arg 2; whnf
  go_wp2_with fail
  go_loopw [92] (fun iv wr => ∃ i : Nat, iv = .int .i64 i ∧ i ≤ n ∧ Ch wr lo (.slice (some ⟨g, 0, none⟩) n cap) n K C (prt (outL O V base) V i) O T ∧ Save (fun k => k = g) wS wr) (fun iv _ => n - (intOf iv).toNat)
  case atStart => exact ⟨0, rfl, by omega, HC.out.congr (fun _ _ => rfl) (fun j _ => (prt_zero _ _ j).symm) (fun _ _ => rfl), Save.refl _ _⟩
  case round =>
    obtain ⟨i, rfl, hi, hch, hsv⟩ := hrel
    clear HC
    have HCH := Lib.hid hch
    have HSV := Lib.hid hsv
    by_cases hin : i < n
    case neg =>
      obtain rfl : i = n := by omega
      clear hch hsv
      go_wp2_with fail
      go_meet
      exact ⟨HCH.out.congr (fun _ _ => rfl) (fun j hj => prt_lt hj) (fun _ _ => rfl), HSV.out⟩
    obtain ⟨z, _, _, d2, d3, _⟩ := hch.cells hin
    have z2 := z (i * 5 + 2)
    have hini : (i : Int) < (n : Int) := by omega
    obtain ⟨o, ho⟩ : ∃ o, o = O i := ⟨_, rfl⟩
    rw [← ho] at d3
    have HO := Lib.hid ho
    clear ho hsv z
    cases o with
    | false =>
      have HV := Lib.hid (show outL O V base i = V i by
        cases i with
        | zero => rw [outL, ← HO.out, if_neg (by decide)]
        | succ t => rw [outL, ← HO.out, if_neg (by decide)])
      clear hch
      go_wp2_with fail
      go_roundw
      case rel => exact ⟨i + 1, by go_num, by omega, HCH.out.congr (fun _ _ => rfl) (fun j _ => prt_same HV.out j) (fun _ _ => rfl), HSV.out⟩
      case measure => simp [intOf]; omega
    | true =>
      by_cases hi0 : i = 0
      · have HV := Lib.hid (show outL O V base i = base by rw [hi0, outL, ← hi0, ← HO.out, if_pos rfl])
        have hib : decide (0 < i) = false := by simp [hi0]
        have HI0 := Lib.hid hi0
        clear hi0 hch
        go_wp2_with fail
        go_roundw
        case rel => exact ⟨i + 1, by go_num, by omega, (HCH.out.setV hin base).congr (fun _ _ => rfl) (fun j _ => prt_set _ _ i HV.out j) (fun _ _ => rfl), HSV.out.set (.inl rfl) _⟩
        case measure => simp [intOf]; omega
      · obtain ⟨t, ht⟩ : ∃ t, i = t + 1 := ⟨i - 1, by omega⟩
        have HV := Lib.hid (show outL O V base i = outL O V base t by rw [ht, outL, ← ht, ← HO.out, if_pos rfl])
        have hib : decide (0 < i) = true := by simp; omega
        have e1 : (i : Int) - 1 = (t : Int) := by omega
        have hw9 := IntWalk.i64_in (t : Int) (by omega)
        have htn : t < n := by omega
        have htni : (t : Int) < (n : Int) := by omega
        obtain ⟨w1, hw1⟩ : ∃ x, x = wr.setCell ⟨g, i * 5 + 2, none⟩ (.int .i64 base) := ⟨_, rfl⟩
        have hch1 := hch.setV hin base
        rw [← hw1] at hch1
        have HC1 := Lib.hid hch1
        have HS1 := Lib.hid (show Save (fun k => k = g) wS w1 by rw [hw1]; exact HSV.out.set (.inl rfl) _)
        obtain ⟨_, _, _, e2, _, _⟩ := hch1.cells htn
        obtain ⟨zz, _, _, e3, _, _⟩ := hch1.cells hin
        have zz2 := zz (i * 5 + 2)
        have hte : upd (prt (outL O V base) V i) i base t = outL O V base t := by
          unfold upd; rw [if_neg (by omega), prt_lt (by omega)]
        rw [hte] at e2
        obtain ⟨ov, hov⟩ : ∃ x, x = outL O V base t := ⟨_, rfl⟩
        rw [← hov] at e2
        have HOV := Lib.hid hov
        clear hch hch1 hi0 hte zz hov ht
        go_upto_region 28 with fail
        rw [← hw1]
        clear hw1 d2 d3 z2 HCH HSV
        go_wp2_with fail
        go_roundw
        case rel => exact ⟨i + 1, by go_num, by omega, (HC1.out.setV hin ov).congr (fun _ _ => rfl) (fun j _ => by
          rw [← prt_set (outL O V base) V i (x := ov) (by rw [HV.out, HOV.out]) j]
          unfold upd
          by_cases h : j = i
          · rw [if_pos h, if_pos h]
          · rw [if_neg h, if_neg h, if_neg h]) (fun _ _ => rfl), HS1.out.set (.inl rfl) _⟩
        case measure => simp [intOf]; omega
end Go.Proofs.YtojbicdmcodgdaaDoor.BD
