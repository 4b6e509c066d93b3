
/-
  The reference's BreakAt.
-/
import Derived.Test.YtnigebnibikolaaDoorBrClass
import Derived.Test.YtnigebnibikolaaDoorBlk
import Derived.BigQuiet
namespace Go.Proofs.YtnigebnibikolaaDoor.BR
open Go.RowKit Go.Law Go.Law.Me Go.Law.Br Ref ME
set_option linter.unusedVariables false
set_option linter.unusedSimpArgs false
set_option maxRecDepth 100000
theorem push_len (l : List Int) (k : Int) : (pushL l k).length ≤ l.length + 1 ∧ l.length ≤ (pushL l k).length ∧ (l = [] → (pushL l k).length = 1) := by
  unfold pushL
  split
  · split
    · simp
    · rename_i h; refine ⟨by omega, by omega, fun h0 => ?_⟩; subst h0; exact absurd rfl h
  · simp
theorem base_len (t : Nat → Int) : ∀ n, (baseL t n).length ≤ n ∧ (0 < n → 0 < (baseL t n).length)
  | 0 => ⟨Nat.le_refl _, fun h => by omega⟩
  | n + 1 => by
    have h := base_len t n
    have hp := push_len (baseL t n) (brkC (t n))
    refine ⟨?_, fun _ => ?_⟩
    · show (pushL _ _).length ≤ _; omega
    · show 0 < (pushL _ _).length
      by_cases h0 : baseL t n = []
      · have := hp.2.2 h0; omega
      · have := List.length_pos_iff.2 h0; omega
theorem last_getD {l : List Int} (h : 0 < l.length) : l[l.length - 1]? = some (l.getLastD 110) := by
  rw [List.getLastD_eq_getLast?, List.getLast?_eq_getElem?, List.getElem?_eq_getElem (by omega)]; rfl
theorem second_getD {l : List Int} (h : 1 < l.length) : l[l.length - 2]? = some (l.dropLast.getLastD 110) := by
  have h1 := last_getD (l := l.dropLast) (by simp; omega)
  rw [← h1, List.length_dropLast, List.getElem?_dropLast, if_pos (by omega)]
  congr 1
theorem second_one {l : List Int} (h : ¬ 1 < l.length) : l.dropLast.getLastD 110 = 110 := by
  match l with
  | [] => rfl
  | [x] => rfl
  | x :: y :: l => simp at h
theorem firm_take {l : List Int} {i : Nat} {x : Int} (h : l[i]? = some x) : firmL (l.take (i + 1)) = if x ≠ 115 then x else firmL (l.take i) := by
  obtain ⟨hi, rfl⟩ := List.getElem?_eq_some_iff.1 h
  rw [List.take_succ_eq_append_getElem hi, firmL_snoc]
/-- the bytes of a row -/
theorem row_bytes {w : World} {base : Nat} {e : TypeId} {v : Value} {L : List Int} (h : RowL w base e 1 v L.length (L.map (Value.int .u8))) :
    ∃ a cap, v = .slice a L.length cap ∧ L.length ≤ cap ∧ cap ≤ maxLen ∧ (0 < L.length → ∃ g, a = some ⟨g, 0, none⟩ ∧ ∀ i x, L[i]? = some x → w.cell? ⟨g, i, none⟩ = some (.int .u8 x)) := by
  obtain ⟨a, cap, hv, h1, h2⟩ := RowL.slice h
  refine ⟨a, cap, hv, h1, h2, fun hn => ?_⟩
  obtain ⟨g, cap', hv', _, _, _, _, _, hc⟩ := RowL.at h hn
  rw [hv] at hv'
  cases hv'
  exact ⟨g, rfl, fun i x hx => hc i _ (by rw [List.getElem?_map, hx]; rfl)⟩
set_option maxHeartbeats 8000000 in
theorem breakAt_any (n : Nat) (t : Nat → Int) (a : Option Addr) (c q : Nat) (w : World) (ha : IntsF w a n t) (hnc : n ≤ c) (hn : n ≤ 300) (hq : 1 ≤ q) (hqn : q < n) :
    Calls Tryd.prog 17 #[.slice a n c, .int .i64 (q : Int)] w fun e w' => e = .returned (.int .i64 (brkAt t q)) ∧ Below w.heap.size w w' := by
  obtain ⟨ii, hii, hz0, hz1, hz2⟩ := info_parts (show (Tryd.prog.info? 5).map (fun i => (i.zero, i.size, i.bytes)) = some (some (.int .u8 0), 1, 1) by kernel_rfl)
  obtain ⟨b, off, rfl, hcell⟩ := ha (by omega)
  have HCE := Lib.hid hcell
  have hqc : (q : Int) ≤ (c : Int) := by omega
  have HV := Lib.hid (show brkAt t q = brkL ((baseL t q).getLastD 110) ((baseL t q).dropLast.getLastD 110) (firmL (baseL t q)) (brkC (t q)) (decide (t (q - 1) = 8205)) from rfl)
  obtain ⟨V, hV⟩ : ∃ V, V = brkAt t q := ⟨_, rfl⟩
  rw [← hV] at HV ⊢
  clear ha hcell hV
  go_enter Tryd.func17, Tryd.ntmps17
  go_wp2_with fail
  go_loopw [5, 21] (fun bv iv wr => ∃ k : Nat, iv = .int .i64 k ∧ k ≤ q ∧ RowL wr w.heap.size 5 1 bv (baseL t k).length ((baseL t k).map (Value.int .u8)) ∧ Below w.heap.size w wr) (fun _ iv _ => q - (intOf iv).toNat)
  case atStart => exact ⟨0, rfl, by omega, RowL.nil _ _ _ _, Below.refl _ _⟩
  case round =>
    obtain ⟨k, rfl, hk, hrow, hbel⟩ := hrel
    have hlen := (base_len t k).1
    have HP := Lib.hid (base_len t k).2
    by_cases hkq : k < q
    · have d1 := (hbel.cell (lt_of_cell (HCE.out k (by omega)))).trans (HCE.out k (by omega))
      have HL0 := Lib.hid (show baseL t (k + 1) = pushL (baseL t k) (brkC (t k)) from rfl)
      obtain ⟨L, hL⟩ : ∃ L, L = baseL t k := ⟨_, rfl⟩
      rw [← hL] at hrow hlen HP HL0
      clear hL
      have hbc := fun w => breakClass_any (t k) w
      obtain ⟨K, hK⟩ : ∃ K, K = brkC (t k) := ⟨_, rfl⟩
      rw [← hK] at hbc HL0
      have HBC := Lib.hid hbc
      obtain ⟨x, hx⟩ : ∃ x, x = t k := ⟨_, rfl⟩
      rw [← hx] at d1 HBC
      clear hbc hK hx
      obtain ⟨av, cv, rfl, hlc, hcm, hcs⟩ := row_bytes hrow
      have HCS := Lib.hid hcs
      obtain ⟨l, hl⟩ : ∃ l, l = L.length := ⟨_, rfl⟩
      have HLL := Lib.hid hl
      rw [← hl] at hrow hlen hlc ⊢
      clear hl hcs
      by_cases k109 : K = 109
      · subst k109
        by_cases h110 : L.getLastD 110 = 110
        · have HL := Lib.hid (show baseL t (k + 1) = L ++ [120] by rw [HL0.out]; unfold pushL; rw [if_pos rfl, if_pos h110])
          have HX := Lib.hid h110
          clear h110
          by_cases l0 : l = 0
          · subst l0
            go_wp2_with fail
            refine (HBC.out _).mono ?_
            rintro e w1 ⟨rfl, hb1⟩
            have hb2 := hbel.trans (hb1.mono hbel.size)
            have hrow1 : RowL w1 w.heap.size 5 1 (.slice av 0 cv) 0 (L.map (Value.int .u8)) := hrow.below hb1 (Nat.le_refl _)
            clear hb1 hrow hbel
            go_wp2_with (at_builtin; go_loud (refine wpList_append_own _ rfl _ _ 78 rfl w.heap.size 5 ii (.int .u8 0) 1 1 Tryd.underlying78 hii hz0 hz1 hz2 rfl (by decide) _ _ _ rfl (hrow1.alloc _) ⟨w1.heap.size, 0, none⟩ 1 1 [.int .u8 120] rfl rfl ?a1 ?a2 ?a3 ?a4 ?a5 ?_))
            case a1 =>
              intro j u hj
              match j, hj with
              | 0, hj => simp at hj; subst hj; simp [Addr.add]
            case a2 => intro u hu; simp at hu; subst hu; rfl
            case a3 => unfold maxLen; omega
            case a4 => omega
            case a5 => have := hb2.size; simp; omega
            intro v' w2 hown' hgrow _
            have hb3 : Below w.heap.size w w2 := below_grown hb2 hb2.size hrow1 hgrow
            clear hgrow hrow1
            go_wp2_with fail
            go_roundw
            case rel => exact ⟨k + 1, by go_num, by omega, by rw [HL.out, List.length_append, ← HLL.out]; simpa using hown', hb3⟩
            case measure => simp [intOf]; omega
          · have l0' : ((l : Int) == 0) = false := by simp; omega
            obtain ⟨g, rfl, hg⟩ := HCS.out (by rw [← HLL.out]; omega)
            have d2 : wr.cell? ⟨g, l - 1, none⟩ = some (.int .u8 110) := by rw [HLL.out, hg _ _ (last_getD (by rw [← HLL.out]; omega)), HX.out]
            have lt2 := lt_of_cell d2
            clear hg
            go_wp2_with fail
            refine (HBC.out _).mono ?_
            rintro e w1 ⟨rfl, hb1⟩
            have d3 := (hb1.cell lt2).trans d2
            have hb2 := hbel.trans (hb1.mono hbel.size)
            have hrow1 : RowL w1 w.heap.size 5 1 (.slice (some ⟨g, 0, none⟩) l cv) l (L.map (Value.int .u8)) := hrow.below hb1 (Nat.le_refl _)
            clear hb1 hrow hbel d2
            go_wp2_with (at_builtin; go_loud (refine wpList_append_own _ rfl _ _ 78 rfl w.heap.size 5 ii (.int .u8 0) 1 1 Tryd.underlying78 hii hz0 hz1 hz2 rfl (by decide) _ _ _ rfl (hrow1.alloc _) ⟨w1.heap.size, 0, none⟩ 1 1 [.int .u8 120] rfl rfl ?b1 ?b2 ?b3 ?b4 ?b5 ?_))
            case b1 =>
              intro j u hj
              match j, hj with
              | 0, hj => simp at hj; subst hj; simp [Addr.add]
            case b2 => intro u hu; simp at hu; subst hu; rfl
            case b3 => unfold maxLen; omega
            case b4 => omega
            case b5 => have := hb2.size; simp; omega
            intro v' w2 hown' hgrow _
            have hb3 : Below w.heap.size w w2 := below_grown hb2 hb2.size hrow1 hgrow
            clear hgrow hrow1
            go_wp2_with fail
            go_roundw
            case rel => exact ⟨k + 1, by go_num, by omega, by rw [HL.out, List.length_append, ← HLL.out]; simpa using hown', hb3⟩
            case measure => simp [intOf]; omega
        · have HL := Lib.hid (show baseL t (k + 1) = L by rw [HL0.out]; unfold pushL; rw [if_pos rfl, if_neg h110])
          have l0 : 0 < l := by
            rcases Nat.eq_zero_or_pos l with h | h
            · exfalso; apply h110
              have : L = [] := List.length_eq_zero_iff.1 (by rw [← HLL.out]; exact h)
              rw [this]; rfl
            · exact h
          have l0' : ((l : Int) == 0) = false := by simp; omega
          obtain ⟨X, hX⟩ : ∃ X, X = L.getLastD 110 := ⟨_, rfl⟩
          rw [← hX] at h110
          have hx1 : (X == 110) = false := by simpa using h110
          obtain ⟨g, rfl, hg⟩ := HCS.out (by rw [← HLL.out]; omega)
          have d2 : wr.cell? ⟨g, l - 1, none⟩ = some (.int .u8 X) := by rw [HLL.out, hg _ _ (last_getD (by rw [← HLL.out]; omega)), hX]
          have lt2 := lt_of_cell d2
          clear hg h110 hX
          go_wp2_with fail
          refine (HBC.out _).mono ?_
          rintro e w1 ⟨rfl, hb1⟩
          have d3 := (hb1.cell lt2).trans d2
          have hb2 := hbel.trans (hb1.mono hbel.size)
          have hrow1 : RowL w1 w.heap.size 5 1 (.slice (some ⟨g, 0, none⟩) l cv) l (L.map (Value.int .u8)) := hrow.below hb1 (Nat.le_refl _)
          clear hb1 hrow hbel d2
          go_wp2_with fail
          go_roundw
          case rel => exact ⟨k + 1, by go_num, by omega, by rw [HL.out, ← HLL.out]; exact hrow1, hb2⟩
          case measure => simp [intOf]; omega
      · have HL := Lib.hid (show baseL t (k + 1) = L ++ [K] by rw [HL0.out]; unfold pushL; rw [if_neg k109])
        have k1 : (K == 109) = false := by simpa using k109
        have k2 : (K != 109) = true := by simpa using k109
        clear k109
        go_wp2_with fail
        refine (HBC.out _).mono ?_
        rintro e w1 ⟨rfl, hb1⟩
        have hb2 := hbel.trans (hb1.mono hbel.size)
        have hrow1 : RowL w1 w.heap.size 5 1 (.slice av l cv) l (L.map (Value.int .u8)) := hrow.below hb1 (Nat.le_refl _)
        clear hb1 hrow hbel
        go_wp2_with (at_builtin; go_loud (refine wpList_append_own _ rfl _ _ 78 rfl w.heap.size 5 ii (.int .u8 0) 1 1 Tryd.underlying78 hii hz0 hz1 hz2 rfl (by decide) _ _ _ rfl (hrow1.alloc _) ⟨w1.heap.size, 0, none⟩ 1 1 [.int .u8 K] rfl rfl ?d1 ?d2 ?d3 ?d4 ?d5 ?_))
        case d1 =>
          intro j u hj
          match j, hj with
          | 0, hj => simp at hj; subst hj; simp [Addr.add]
        case d2 => intro u hu; simp at hu; subst hu; rfl
        case d3 => unfold maxLen; omega
        case d4 => omega
        case d5 => have := hb2.size; simp; omega
        intro v' w2 hown' hgrow _
        have hb3 : Below w.heap.size w w2 := below_grown hb2 hb2.size hrow1 hgrow
        clear hgrow hrow1
        go_wp2_with fail
        go_roundw
        case rel => exact ⟨k + 1, by go_num, by omega, by rw [HL.out, List.length_append, ← HLL.out]; simpa using hown', hb3⟩
        case measure => simp [intOf]; omega
    · obtain rfl : q = k := by omega
      have hpos := HP.out (by omega)
      obtain ⟨L, hL⟩ : ∃ L, L = baseL t q := ⟨_, rfl⟩
      rw [← hL] at hrow hlen hpos HV
      clear hL HP
      obtain ⟨av, cv, rfl, hlc, hcm, hcs⟩ := row_bytes hrow
      obtain ⟨g, rfl, hg⟩ := hcs hpos
      have HG := Lib.hid hg
      have z1 := hg _ _ (last_getD hpos)
      have HS2 := Lib.hid (fun h => hg _ _ (second_getD (l := L) h))
      have HS1 := Lib.hid (@second_one L)
      obtain ⟨l, hl⟩ : ∃ l, l = L.length := ⟨_, rfl⟩
      have HLL := Lib.hid hl
      rw [← hl] at hrow hlen hlc hpos z1 HS2 HS1 ⊢
      obtain ⟨B, hB⟩ : ∃ B, B = L.getLastD 110 := ⟨_, rfl⟩
      obtain ⟨A, hA⟩ : ∃ A, A = L.dropLast.getLastD 110 := ⟨_, rfl⟩
      rw [← hB] at z1 HV
      rw [← hA] at HS2 HS1 HV
      have hbc := fun w => breakClass_any (t q) w
      obtain ⟨C, hC⟩ : ∃ C, C = brkC (t q) := ⟨_, rfl⟩
      rw [← hC] at hbc HV
      have d1 := (hbel.cell (lt_of_cell (HCE.out q hqn))).trans (HCE.out q hqn)
      have d0 := (hbel.cell (lt_of_cell (HCE.out (q - 1) (by omega)))).trans (HCE.out (q - 1) (by omega))
      obtain ⟨y, hy⟩ : ∃ y, y = t q := ⟨_, rfl⟩
      obtain ⟨x0, hx0⟩ : ∃ x0, x0 = t (q - 1) := ⟨_, rfl⟩
      rw [← hy] at d1 hbc
      rw [← hx0] at d0 HV
      obtain ⟨J, hJ⟩ : ∃ J, J = decide (x0 = 8205) := ⟨_, rfl⟩
      have hj : (x0 == 8205) = J := by rw [hJ, Bool.eq_iff_iff]; simp
      rw [← hJ] at HV
      have HBC := Lib.hid hbc
      have lt0 := lt_of_cell d0
      clear hl hcs hg hB hA hC hy hx0 hJ hbc hrow
      by_cases l2 : 1 < l
      · have z2 := HS2.out l2
        clear HS2 HS1
        go_wp2_with fail
        go_loopw [11, 67] (fun fv iv wx => ∃ i : Nat, iv = .int .i64 i ∧ fv = .int .u8 (firmL (L.take i)) ∧ i ≤ l ∧ wr = wx) (fun _ iv _ => l - (intOf iv).toNat)
        case atStart => exact ⟨0, rfl, rfl, by omega, rfl⟩
        case round =>
          obtain ⟨i, rfl, rfl, hi, rfl⟩ := hrel
          by_cases hil : i < l
          · obtain ⟨x, hx⟩ : ∃ x, L[i]? = some x := ⟨_, List.getElem?_eq_getElem (by rw [← HLL.out]; exact hil)⟩
            have dx := HG.out i x hx
            have HF := Lib.hid (firm_take hx)
            obtain ⟨F0, hF0⟩ : ∃ F0, F0 = firmL (L.take i) := ⟨_, rfl⟩
            rw [← hF0] at HF ⊢
            clear hx hF0
            by_cases x5 : x = 115
            · subst x5
              have HE := Lib.hid (show firmL (L.take (i + 1)) = F0 by rw [HF.out, if_neg (by simp)])
              go_wp2_with fail
              go_roundw
              case rel => exact ⟨i + 1, by go_num, by rw [HE.out], by omega, trivial⟩
              case measure => simp [intOf]; omega
            · have HE := Lib.hid (show firmL (L.take (i + 1)) = x by rw [HF.out, if_pos x5])
              have x5' : (x != 115) = true := by simpa using x5
              clear x5
              go_wp2_with fail
              go_roundw
              case rel => exact ⟨i + 1, by go_num, by rw [HE.out], by omega, trivial⟩
              case measure => simp [intOf]; omega
          · obtain rfl : l = i := by omega
            rw [List.take_of_length_le (show L.length ≤ l by rw [← HLL.out]; exact Nat.le_refl _)]
            obtain ⟨F, hF⟩ : ∃ F, F = firmL L := ⟨_, rfl⟩
            rw [← hF] at HV ⊢
            clear hF HG HLL
            go_wp2_with fail
            refine (HBC.out _).mono ?_
            rintro e w5 ⟨rfl, hb5⟩
            have d2 := (hb5.cell lt0).trans d0
            have hb6 := hbel.trans (hb5.mono hbel.size)
            clear hb5 hbel HBC d0 d1 z1
            unfold brkL at HV
            go_wp2_with fail
            all_goals
              go_ret
              refine ⟨retK ?_, hb6⟩
              have e1 := HV.out
              clear HV
              go_tidy
              try simp only [beq_iff_eq, beq_eq_false_iff_ne, ne_eq, decide_eq_true_eq, decide_eq_false_iff_not] at *
              first
                | (simp [*] at e1; subst e1; rfl)
                | ((repeat' split at e1) <;> first | (subst e1; rfl) | (exfalso; omega) | (exfalso; simp_all; done))
      · have hA := HS1.out l2
        subst hA
        clear HS2 HS1
        go_wp2_with fail
        go_loopw [11, 67] (fun fv iv wx => ∃ i : Nat, iv = .int .i64 i ∧ fv = .int .u8 (firmL (L.take i)) ∧ i ≤ l ∧ wr = wx) (fun _ iv _ => l - (intOf iv).toNat)
        case atStart => exact ⟨0, rfl, rfl, by omega, rfl⟩
        case round =>
          obtain ⟨i, rfl, rfl, hi, rfl⟩ := hrel
          by_cases hil : i < l
          · obtain ⟨x, hx⟩ : ∃ x, L[i]? = some x := ⟨_, List.getElem?_eq_getElem (by rw [← HLL.out]; exact hil)⟩
            have dx := HG.out i x hx
            have HF := Lib.hid (firm_take hx)
            obtain ⟨F0, hF0⟩ : ∃ F0, F0 = firmL (L.take i) := ⟨_, rfl⟩
            rw [← hF0] at HF ⊢
            clear hx hF0
            by_cases x5 : x = 115
            · subst x5
              have HE := Lib.hid (show firmL (L.take (i + 1)) = F0 by rw [HF.out, if_neg (by simp)])
              go_wp2_with fail
              go_roundw
              case rel => exact ⟨i + 1, by go_num, by rw [HE.out], by omega, trivial⟩
              case measure => simp [intOf]; omega
            · have HE := Lib.hid (show firmL (L.take (i + 1)) = x by rw [HF.out, if_pos x5])
              have x5' : (x != 115) = true := by simpa using x5
              clear x5
              go_wp2_with fail
              go_roundw
              case rel => exact ⟨i + 1, by go_num, by rw [HE.out], by omega, trivial⟩
              case measure => simp [intOf]; omega
          · obtain rfl : l = i := by omega
            rw [List.take_of_length_le (show L.length ≤ l by rw [← HLL.out]; exact Nat.le_refl _)]
            obtain ⟨F, hF⟩ : ∃ F, F = firmL L := ⟨_, rfl⟩
            rw [← hF] at HV ⊢
            clear hF HG HLL
            go_wp2_with fail
            refine (HBC.out _).mono ?_
            rintro e w5 ⟨rfl, hb5⟩
            have d2 := (hb5.cell lt0).trans d0
            have hb6 := hbel.trans (hb5.mono hbel.size)
            clear hb5 hbel HBC d0 d1 z1
            unfold brkL at HV
            go_wp2_with fail
            all_goals
              go_ret
              refine ⟨retK ?_, hb6⟩
              have e1 := HV.out
              clear HV
              go_tidy
              try simp only [beq_iff_eq, beq_eq_false_iff_ne, ne_eq, decide_eq_true_eq, decide_eq_false_iff_not] at *
              first
                | (simp [*] at e1; subst e1; rfl)
                | ((repeat' split at e1) <;> first | (subst e1; rfl) | (exfalso; omega) | (exfalso; simp_all; done))
end Go.Proofs.YtnigebnibikolaaDoor.BR
