/-
  BdREdgW, BdChnP, BdRChP, BdRLvB, BdRWd, BdRLet, BdRNumP.
-/
import Derived.Test.YtojbicdmcodgdaaDoorBdM16
import Derived.Test.YtojbicdmcodgdaaDoorBdM04
import Derived.Deep.CutRange
import Derived.Deep.CutBlock
import Derived.Test.YtojbicdmcodgdaaDoorBdM02
import Derived.Test.YtojbicdmcodgdaaDoorBdM09
import Derived.Test.YtojbicdmcodgdaaDoorBdM10
import Derived.Test.YtojbicdmcodgdaaDoorBdM08
import Derived.BigQuiet
import Derived.Test.YtojbicdmcodgdaaDoorBdM03
namespace Go.Proofs.YtojbicdmcodgdaaDoor.BD
open Go.RowKit Go.Law Go.Law.Bd
set_option linter.unusedVariables false
set_option linter.unusedSimpArgs false
set_option maxRecDepth 100000
set_option maxHeartbeats 8000000 in
theorem edges_any {lo g cap n ga m cs : Nat} {K C V T : Nat → Int} {O : Nat → Bool} {A : Nat → Nat} {base : Int} {w : World} (h : Ch w lo (.slice (some ⟨g, 0, none⟩) n cap) n K C V O T)
    (ha : ∀ k, k < m → w.cell? ⟨ga, k, none⟩ = some (.int .i64 (A k : Nat))) (hA : ∀ k, k < m → A k < n) (hm : 0 < m) (hmc : m ≤ cs) (hn : n ≤ 200) (hm2 : m ≤ 200) (hb : base = 0 ∨ base = 1) (hV : ∀ j, 0 ≤ V j ∧ V j ≤ 1000) :
    Calls Tryd.prog 27 #[.slice (some ⟨g, 0, none⟩) n cap, .slice (some ⟨ga, 0, none⟩) m cs, .int .i64 base] w fun e w' =>
      e = .returned (.tuple #[.int .i64 (befB O V base (V (A 0)) (A 0)), .int .i64 (aftB O V K base (V (A 0)) n (A (m - 1)))]) ∧ Below w.heap.size w w' := by
  have HI := Lib.hid (info_parts (show (Tryd.prog.info? 3).map (fun i => (i.zero, i.size, i.bytes)) = some (some (.int .i64 0), 1, 8) by kernel_rfl))
  have H := Lib.hid h
  have HVV := Lib.hid hV
  have hmax : ∀ x y : Int, (if x < y then y else x) = max x y := fun x y => by omega
  have HMAX := Lib.hid hmax
  have hglt := h.lt
  have a0 := ha 0 hm
  have az := ha (m - 1) (by omega)
  have hA0 := hA 0 hm
  have hAz := hA (m - 1) (by omega)
  obtain ⟨x0, hx0⟩ : ∃ x, x = A 0 := ⟨_, rfl⟩
  obtain ⟨z, hz⟩ : ∃ z, z = A (m - 1) := ⟨_, rfl⟩
  rw [← hx0] at a0 hA0 ⊢
  rw [← hz] at az hAz ⊢
  obtain ⟨_, _, _, v0, _⟩ := h.cells hA0
  have hmi : (0 : Int) < (m : Int) := by omega
  have hx0i : (x0 : Int) < (n : Int) := by omega
  have hzi : (z : Int) < (n : Int) := by omega
  obtain ⟨own, hown⟩ : ∃ o, o = V x0 := ⟨_, rfl⟩
  have how := hV x0
  rw [← hown] at v0 how ⊢
  clear h ha hA hx0 hz hown hV hmax
  go_enter Tryd.func27, Tryd.ntmps27
  go_upto_block 0 with fail
  go_cut [9, 11] from 26 to 43 (fun v _ wx => v = .int .i64 (ahL O V base x0) ∧ wx = w)
  case first =>
    go_wp2_with fail
    go_loopw [9, 11] (fun v iv wx => ∃ k : Nat, iv = .int .i64 k ∧ k ≤ x0 ∧ v = .int .i64 (ahL O V base k) ∧ wx = w) (fun _ iv _ => x0 - (intOf iv).toNat)
    case atStart => exact ⟨0, rfl, by omega, rfl, rfl⟩
    case round =>
      obtain ⟨k, rfl, hk, rfl, hwr⟩ := hrel
      obtain rfl : w = wr := hwr.symm
      clear hwr v0
      by_cases hkx : k < x0
      · obtain ⟨_, _, _, d2, d3, _⟩ := H.out.cells (i := k) (by omega)
        obtain ⟨o, ho⟩ : ∃ o, o = O k := ⟨_, rfl⟩
        rw [← ho] at d3
        have HST := Lib.hid (show ahL O V base (k + 1) = if o = true then ahL O V base k else V k by rw [ahL, ho])
        clear ho az
        cases o with
        | true =>
          go_wp2_with fail
          go_roundw
          case rel => exact ⟨k + 1, by go_num, by omega, by rw [HST.out, if_pos rfl], trivial⟩
          case measure => simp [intOf]; omega
        | false =>
          go_wp2_with fail
          go_roundw
          case rel => exact ⟨k + 1, by go_num, by omega, by rw [HST.out, if_neg (by decide)], trivial⟩
          case measure => simp [intOf]; omega
      · obtain rfl : k = x0 := by omega
        go_wp2_with fail
        go_meet
        exact ⟨rfl, rfl⟩
  case rest =>
  obtain ⟨rfl, hw⟩ := hcut
  obtain rfl : w = wc := hw.symm
  clear hw
  have e1 : (m : Int) - 1 = ((m - 1 : Nat) : Int) := by omega
  have hw9 := IntWalk.i64_in ((m - 1 : Nat) : Int) (by omega)
  have hl1 : ((m - 1 : Nat) : Int) < (m : Int) := by omega
  have hl2 : (0 : Int) ≤ ((m - 1 : Nat) : Int) := by omega
  go_upto_block 2 with fail
  go_cut [13, 14, 15] from 52 to 61 (fun v _ _ wx => ∃ ka kc, v = .slice ka n kc ∧ IntsF wx ka n K ∧ Below w.heap.size w wx)
  case first =>
    go_wp2_with fail
    go_loopw [13, 52] (fun kv iv wr => ∃ i : Nat, iv = .int .i64 i ∧ i ≤ n ∧ RowI wr w.heap.size 3 1 kv i K ∧ Below w.heap.size w wr) (fun _ iv _ => n - (intOf iv).toNat)
    case atStart => exact ⟨0, rfl, by omega, RowI.nil _ _ _ _ _, Below.refl _ _⟩
    case round =>
      obtain ⟨i, rfl, hi, hr, hb⟩ := hrel
      obtain ⟨ka, kc, rfl, hkc1, hkc2⟩ := hr.slice
      have HR := Lib.hid hr
      have HB := Lib.hid hb
      clear hr hb az a0 v0
      by_cases hin : i < n
      · have hch := H.out.only (w' := wr) (HB.out.block g hglt)
        obtain ⟨_, d0, d1, d2, d3, d4⟩ := hch.cells hin
        clear hch
        go_upto_region 13 with fail
        obtain ⟨w2, hw2⟩ : ∃ w2, w2 = wr.alloc (Obj.cells #[.int .i64 (K i), .int .i64 (C i), .int .i64 (V i), .bool (O i), .int .i64 (T i)] 49) := ⟨_, rfl⟩
        have HR2 := Lib.hid (show RowI w2 w.heap.size 3 1 (.slice ka i kc) i K by rw [hw2]; exact HR.out.alloc _)
        have HB2 := Lib.hid (show Below w.heap.size w w2 by rw [hw2]; exact HB.out.alloc HB.out.size _)
        have hb2 : Blk w2 wr.heap.size #[.int .i64 (K i), .int .i64 (C i), .int .i64 (V i), .bool (O i), .int .i64 (T i)] 49 := by rw [hw2]; exact Blk.new _ _ _
        obtain ⟨g2, hg2⟩ : ∃ g2, g2 = wr.heap.size := ⟨_, rfl⟩
        rw [← hg2] at hb2
        rw [← hw2, ← hg2]
        have n0 := hb2.cell (i := 0) rfl
        clear hw2 hg2 hb2 d0 d1 d2 d3 d4 HR HB
        have hsz2 := HB2.out.size
        obtain ⟨xs, hown0, hxs⟩ := HR2.out
        have hxl := hown0.1
        have HXX := Lib.hid hown0
        have HXL := Lib.hid hxl
        have HXS := Lib.hid hxs
        obtain ⟨ii, hii, hz0, hz1, hz2⟩ := HI.out
        clear hown0 hxl hxs
        go_wp2_with (at_builtin; go_loud (refine wpList_append_own _ rfl _ _ 22 rfl (w.heap.size) 3 ii _ 1 8 Tryd.underlying22 hii hz0 hz1 hz2 rfl (by decide) _ _ _ rfl (RowL.alloc HXX.out _) ⟨w2.heap.size, 0, none⟩ 1 1 [.int .i64 (K i)] rfl rfl ?k1a ?k2a ?k3a ?k4a ?k5a ?_))
        try (case k1a =>
          intro j u hj
          have e : Addr.add ⟨w2.heap.size, 0, none⟩ j = ⟨w2.heap.size, j, none⟩ := by simp [Addr.add] <;> omega
          rw [e]
          exact cellNew1 (by simpa using hj))
        try (case k2a => first | rfl | (intro u hu; simp at hu; subst hu; rfl))
        try (case k3a => unfold maxLen; (try simp); (try omega))
        try (case k4a => (try simp); (try omega))
        try (case k5a => (try simp); (try omega))
        intro v5 w5 hown hgrow _
        have HR3 := Lib.hid (show RowI w5 w.heap.size 3 1 v5 (i + 1) K from RowI.push hown HXL.out HXS.out (fun j hj => by (obtain rfl : j = 0 := by omega); rw [Nat.mul_one]; rfl) (fun _ _ => rfl))
        have HB3 := Lib.hid (below_grown HB2.out HB2.out.size _ hgrow HR2.out.ge)
        clear hown hgrow hii hz0 hz1 hz2 HXX HXS HXL HR2 HB2 n0
        go_wp2_with fail
        go_roundw
        case rel => exact ⟨i + 1, by go_num, by omega, HR3.out, HB3.out⟩
        case measure => simp [intOf]; omega
      · obtain rfl : n = i := by omega
        go_wp2_with fail
        go_meet
        exact ⟨_, _, rfl, RowI.ints HR.out, HB.out⟩
  case rest =>
  obtain ⟨ka, kc, rfl, hints, hbel⟩ := hcut
  obtain ⟨w2, rfl⟩ : ∃ x : World, x = wc := ⟨_, rfl⟩
  have HC2 := Lib.hid (show Ch w2 lo (.slice (some ⟨g, 0, none⟩) n cap) n K C V O T from H.out.only (hbel.block g hglt))
  have HINT := Lib.hid hints
  have HB2 := Lib.hid hbel
  obtain ⟨_, k0, _⟩ := HC2.out.cells hAz
  clear hints hbel a0 az v0 e1 hw9 hl1 hl2
  have hbd1 : 0 ≤ ahL O V base x0 ∧ ahL O V base x0 ≤ 1000 := by
    rcases ahL_mem (O := O) (L := V) (base := base) x0 with h | ⟨j, _, _, h⟩
    · rw [h]; omega
    · rw [h]; exact HVV.out j
  obtain ⟨bf, hbf⟩ : ∃ b, b = ahL O V base x0 := ⟨_, rfl⟩
  rw [← hbf] at hbd1 ⊢
  have HBF := Lib.hid hbf
  clear hbf
  obtain ⟨aft, haft⟩ : ∃ a, a = (if isoB (K z) = true ∧ n ≤ partner K n z then base else beL O V base n (z + 1)) := ⟨_, rfl⟩
  have HAF := Lib.hid haft
  have hbd2 : 0 ≤ aft ∧ aft ≤ 1000 := by
    rw [haft]
    split
    · omega
    · rcases beL_mem (O := O) (L := V) (base := base) (n := n) _ (z + 1) rfl with h | ⟨j, _, _, _, h⟩
      · rw [h]; omega
      · rw [h]; exact HVV.out j
  clear haft
  obtain ⟨kz, hkz⟩ : ∃ k, k = K z := ⟨_, rfl⟩
  rw [← hkz] at k0 HAF
  obtain ⟨bz, hbz⟩ : ∃ b, b = isoB kz := ⟨_, rfl⟩
  have HBG := Lib.hid (show Calls Tryd.prog 44 #[.int .i64 kz] w2 fun e w' => e = .returned (.bool bz) ∧ w2 = w' by rw [hbz]; exact begins_any kz w2)
  have HPT := Lib.hid (partner_any n K ka kc z w2 HINT.out (by omega) hAz)
  obtain ⟨P, hP⟩ : ∃ P, P = partner K n z := ⟨_, rfl⟩
  rw [← hP] at HPT
  rw [← hP, ← hbz] at HAF
  have hPr : P ≤ n := by rw [hP]; exact (partner_range hAz).2
  have HAE := Lib.hid (show aftB O V K base own n z = sideB (max aft own) by unfold aftB; rw [HAF.out, ← hkz, hbz, hP])
  clear hkz hbz hP
  obtain ⟨tst, ht⟩ : ∃ t : Bool, t = (!bz || decide (P < n)) := ⟨_, rfl⟩
  have HT := Lib.hid ht
  clear ht
  go_upto_region 15 with fail
  go_cut [76] from 62 to 75 (fun v wx => v = .bool tst ∧ wx = w2)
  case first =>
    cases bz with
    | false =>
      have HO := Lib.hid (show tst = true by rw [HT.out]; rfl)
      go_wp2_with fail
      refine HBG.out.mono ?_
      rintro e9 w9 ⟨rfl, rfl⟩
      dsimp only
      go_wp2_with fail
      go_meet
      exact ⟨by rw [HO.out], rfl⟩
    | true =>
      by_cases hPn : P < n
      · have HO := Lib.hid (show tst = true by rw [HT.out]; simp [hPn])
        have hPi : (P : Int) < (n : Int) := by omega
        go_wp2_with fail
        refine HBG.out.mono ?_
        rintro e9 w9 ⟨rfl, rfl⟩
        dsimp only
        go_wp2_with fail
        refine HPT.out.mono ?_
        rintro e9 w9 ⟨rfl, rfl⟩
        dsimp only
        go_wp2_with fail
        go_meet
        exact ⟨by rw [HO.out], rfl⟩
      · have HO := Lib.hid (show tst = false by rw [HT.out]; simp [hPn])
        have hPi : ¬ (P : Int) < (n : Int) := by omega
        go_wp2_with fail
        refine HBG.out.mono ?_
        rintro e9 w9 ⟨rfl, rfl⟩
        dsimp only
        go_wp2_with fail
        refine HPT.out.mono ?_
        rintro e9 w9 ⟨rfl, rfl⟩
        dsimp only
        go_wp2_with fail
        go_meet
        exact ⟨by rw [HO.out], rfl⟩
  case rest =>
  obtain ⟨rfl, hw⟩ := hcut
  obtain rfl : w2 = wc := hw.symm
  clear hw HBG HPT
  go_upto_if 76 with fail
  go_cut [10, 16] from 77 to 95 (fun v _ wx => v = .int .i64 aft ∧ wx = w2)
  case first =>
    cases tst with
    | false =>
      have HA0 := Lib.hid (show aft = base by
        have h1 := HT.out
        rw [HAF.out, if_pos]
        cases bz with
        | false => simp at h1
        | true => exact ⟨rfl, by simp at h1; omega⟩)
      go_wp2_with fail
      go_meet
      exact ⟨by rw [HA0.out], rfl⟩
    | true =>
      have HA0 := Lib.hid (show aft = beL O V base n (z + 1) by
        have h1 := HT.out
        rw [HAF.out, if_neg]
        rintro ⟨h2, h3⟩
        rw [h2] at h1
        simp at h1
        omega)
      clear k0
      have e5 : (n : Int) - 1 = ((n - 1 : Nat) : Int) := by omega
      have hw8 := IntWalk.i64_in ((n - 1 : Nat) : Int) (by omega)
      go_wp2_with fail
      go_loopw [10, 16] (fun v iv wx => ∃ k : Nat, iv = .int .i64 ((k : Int) - 1) ∧ z + 1 ≤ k ∧ k ≤ n ∧ v = .int .i64 (beL O V base n k) ∧ wx = w2) (fun _ iv _ => (intOf iv + 1).toNat)
      case atStart => exact ⟨n, by rw [e5], by omega, Nat.le_refl _, by rw [beL_end (Nat.le_refl _)], rfl⟩
      case round =>
        obtain ⟨k, rfl, hk1, hk2, rfl, hwr⟩ := hrel
        obtain rfl : w2 = wr := hwr.symm
        clear hwr e5 hw8
        obtain ⟨q, rfl⟩ : ∃ q, k = q + 1 := ⟨k - 1, by omega⟩
        have e6 : ((q + 1 : Nat) : Int) - 1 = (q : Int) := by omega
        rw [e6]
        by_cases hq : z < q
        · obtain ⟨_, _, _, d2, d3, _⟩ := HC2.out.cells (i := q) (by omega)
          obtain ⟨o, ho⟩ : ∃ o, o = O q := ⟨_, rfl⟩
          rw [← ho] at d3
          have HST := Lib.hid (show beL O V base n q = if o = true then beL O V base n (q + 1) else V q by rw [beL_step (by omega), ho])
          have hzq : (z : Int) < (q : Int) := by omega
          have hqn : (q : Int) < (n : Int) := by omega
          have hw8 := IntWalk.i64_in ((q : Int) - 1) (by omega)
          clear ho
          cases o with
          | true =>
            go_wp2_with fail
            go_roundw
            case rel => exact ⟨q, rfl, by omega, by omega, by rw [HST.out, if_pos rfl], trivial⟩
            case measure => simp [intOf]
          | false =>
            go_wp2_with fail
            go_roundw
            case rel => exact ⟨q, rfl, by omega, by omega, by rw [HST.out, if_neg (by decide)], trivial⟩
            case measure => simp [intOf]
        · obtain rfl : q = z := by omega
          go_wp2_with fail
          go_meet
          exact ⟨by rw [HA0.out], rfl⟩
  case rest =>
  obtain ⟨rfl, hw⟩ := hcut
  obtain rfl : w2 = wc := hw.symm
  clear hw k0
  have hmax := HMAX.out
  have HS1 := Lib.hid (sideOf_any (max bf own) w2 (by omega))
  have HS2 := Lib.hid (sideOf_any (max aft own) w2 (by omega))
  obtain ⟨m1, hm1⟩ : ∃ m1, max bf own = m1 := ⟨_, rfl⟩
  obtain ⟨m3, hm3⟩ : ∃ m3, max aft own = m3 := ⟨_, rfl⟩
  rw [hm1] at HS1
  rw [hm3] at HS2
  go_wp2_with fail
  refine HS1.out.mono ?_
  rintro e9 w9 ⟨rfl, rfl⟩
  dsimp only
  go_wp2_with fail
  refine HS2.out.mono ?_
  rintro e9 w9 ⟨rfl, rfl⟩
  dsimp only
  go_wp2_with fail
  go_ret2
  refine ⟨?_, HB2.out⟩
  rw [HAE.out, hm3, show befB O V base own x0 = sideB m1 by unfold befB; rw [← HBF.out, hm1]]
  rfl
end Go.Proofs.YtojbicdmcodgdaaDoor.BD
namespace Go.Law.Bd
open Go.Law
set_option linter.unusedVariables false
/-- the chains of the first j runs, as places -/
def outB (K : Nat → Int) (n : Nat) (R : List (List Nat)) (j : Nat) : List (List Nat) := (hds (rnX K n R) j).map fun h => atB R (chn (rnX K n R) j h)
/-- no row is empty, and rows begin differently -/
structure HdOk (S : List (List Nat)) : Prop where
  ne : ∀ k, k < S.length → rnG S k ≠ []
  inj : ∀ j k, j < S.length → k < S.length → (rnG S j).headD 0 = (rnG S k).headD 0 → j = k
section
variable {O : Nat → Bool} {K : Nat → Int} {n j k : Nat} {R : List (List Nat)} {nx : Nat → Nat}
theorem RnsOk.hd {i : Nat} (h : RnsOk O i R) : HdOk R := ⟨fun _ hk => rn_in h hk, fun _ _ hj hk he => rn_heads h hj hk he⟩
theorem outB_zero : outB K n R 0 = [] := by unfold outB hds; simp
theorem outB_length : (outB K n R j).length = (hds (rnX K n R) j).length := by unfold outB; rw [List.length_map]
theorem hds_len (q : Nat) : (hds nx q).length ≤ q := by
  unfold hds
  have := List.length_filter_le (hdB nx) (List.range q)
  rwa [List.length_range] at this
theorem hds_inj {q a b x : Nat} (ha : (hds nx q)[a]? = some x) (hb : (hds nx q)[b]? = some x) : a = b := by
  have hp : (hds nx q).Pairwise (· < ·) := (List.pairwise_lt_range).filter _
  obtain ⟨h1, e1⟩ := List.getElem?_eq_some_iff.1 ha
  obtain ⟨h2, e2⟩ := List.getElem?_eq_some_iff.1 hb
  rcases Nat.lt_trichotomy a b with h | h | h
  · have := List.pairwise_iff_getElem.mp hp a b h1 h2 h; omega
  · exact h
  · have := List.pairwise_iff_getElem.mp hp b a h2 h1 h; omega
theorem outB_le : (outB K n R j).length ≤ j := by rw [outB_length]; exact hds_len j
/-- the head of a chain -/
theorem outB_at (hk : k < (outB K n R j).length) : ∃ h, (hds (rnX K n R) j)[k]? = some h ∧ h ∈ hds (rnX K n R) j ∧ rnG (outB K n R j) k = atB R (chn (rnX K n R) j h) := by
  rw [outB_length] at hk
  refine ⟨(hds (rnX K n R) j)[k], List.getElem?_eq_getElem hk, List.getElem_mem hk, ?_⟩
  unfold rnG outB
  rw [List.getD_eq_getElem?_getD, List.getElem?_map, List.getElem?_eq_getElem hk]
  rfl
theorem atB_head (h : RnsOk O n R) {q x : Nat} (hg : ∀ x, x < nx x) (hq : q ≤ R.length) (hx : x < q) : atB R (chn nx q x) ≠ [] ∧ (atB R (chn nx q x)).headD 0 = (rnG R x).headD 0 := by
  rw [chn_step hg hx]
  unfold atB
  simp only [List.map_cons, List.flatten_cons]
  have hne := rn_in h (p := x) (by omega)
  cases hr : rnG R x with
  | nil => exact absurd hr hne
  | cons a t => exact ⟨by simp, by simp⟩
theorem outB_hd (h : RnsOk O n R) (hj : j ≤ R.length) : HdOk (outB K n R j) := by
  have hg := rnX_lt (K := K) h (Nat.le_refl _)
  refine ⟨fun k hk => ?_, fun a b ha hb he => ?_⟩
  · obtain ⟨x, _, hm, e⟩ := outB_at hk
    rw [e]
    exact (atB_head h hg hj (hds_mem hm).1).1
  · obtain ⟨x, hx, hxm, ex⟩ := outB_at ha
    obtain ⟨y, hy, hym, ey⟩ := outB_at hb
    rw [ex, ey, (atB_head h hg hj (hds_mem hxm).1).2, (atB_head h hg hj (hds_mem hym).1).2] at he
    have hx1 := (hds_mem hxm).1
    have hy1 := (hds_mem hym).1
    have e := rn_heads h (by omega) (by omega) he
    subst e
    exact hds_inj hx hy
/-- the last run of a chain, and what the reference asks of it -/
theorem outB_last (h : RnsOk O n R) (hj : j ≤ R.length) (hk : k < (outB K n R j).length) : ∃ x p, (hds (rnX K n R) j)[k]? = some x ∧ x ∈ hds (rnX K n R) j ∧ p = (chn (rnX K n R) j x).getLastD 0 ∧ p < j ∧ (rnG (outB K n R j) k).getLastD 0 = (rnG R p).getLastD 0 := by
  have hg := rnX_lt (K := K) h (Nat.le_refl _)
  obtain ⟨x, hx, hm, e⟩ := outB_at hk
  have hxj := (hds_mem hm).1
  have hl : ∀ p, p ∈ chn (rnX K n R) j x → p < R.length := fun p hp => by have := (chn_lt hg _ x rfl hxj p hp).2; omega
  refine ⟨x, _, hx, hm, rfl, ?_, ?_⟩
  · exact (chn_lt hg _ x rfl hxj _ (getLastD_mem (chn_ne hg hxj))).2
  · rw [e]; exact atB_last h (chn_ne hg hxj) hl
theorem outB_ask (h : RnsOk O n R) (hj : j < R.length) (hk : k < (outB K n R j).length) : ∃ x, (hds (rnX K n R) j)[k]? = some x ∧ x ∈ hds (rnX K n R) j ∧ (rnG (outB K n R j) k).getLastD 0 < n ∧
    ((isoB (K ((rnG (outB K n R j) k).getLastD 0)) = true ∧ partner K n ((rnG (outB K n R j) k).getLastD 0) = (rnG R j).headD 0) ↔ rnX K n R ((chn (rnX K n R) j x).getLastD 0) = j) := by
  obtain ⟨x, p, h1, h2, rfl, h3, h4⟩ := outB_last h (by omega) hk
  refine ⟨x, h1, h2, ?_, ?_⟩
  · rw [h4]; exact (rns_place h (by omega) (rn_last h (by omega))).1
  · rw [h4]; exact rnX_ask h (by omega) hj
/-- the run is joined to a chain -/
theorem outB_join (h : RnsOk O n R) (hj : j < R.length) (hk : k < (outB K n R j).length)
    (ha : isoB (K ((rnG (outB K n R j) k).getLastD 0)) = true ∧ partner K n ((rnG (outB K n R j) k).getLastD 0) = (rnG R j).headD 0) :
    outB K n R (j + 1) = (outB K n R j).set k (rnG (outB K n R j) k ++ rnG R j) := by
  have hg := rnX_lt (K := K) h (Nat.le_refl _)
  obtain ⟨x, hx, hm, _, hq⟩ := outB_ask h hj hk
  have hqx := hq.1 ha
  have hxj := (hds_mem hm).1
  obtain ⟨x', hx', _, e⟩ := outB_at hk
  rw [hx] at hx'
  injection hx' with hx'
  subst hx'
  have hno : hdB (rnX K n R) j = false := by
    cases hc : hdB (rnX K n R) j with
    | false => rfl
    | true => exact absurd hqx (chn_join_no hg hc x)
  have hinj : ∀ a b, rnX K n R a = rnX K n R b → rnX K n R a = j → a = b := fun a b he _ => rnX_inj h (Nat.le_refl _) a b he
  apply List.ext_getElem?
  intro t
  unfold outB at hk ⊢
  rw [List.length_map] at hk
  rw [hds_old hno, List.getElem?_set]
  by_cases ht : k = t
  · subst ht
    have e2 : rnG (List.map (fun h => atB R (chn (rnX K n R) j h)) (hds (rnX K n R) j)) k = atB R (chn (rnX K n R) j x) := e
    rw [if_pos rfl, if_pos (by rw [List.length_map]; exact hk), e2, List.getElem?_map, hx]
    have hc := chn_more hg _ x rfl hxj
    rw [if_pos hqx] at hc
    simp only [Option.map_some]
    rw [hc, atB_app]
    unfold atB
    simp
  · rw [if_neg ht, List.getElem?_map, List.getElem?_map]
    cases hy : (hds (rnX K n R) j)[t]? with
    | none => rfl
    | some y =>
      have hym : y ∈ hds (rnX K n R) j := List.mem_of_getElem? hy
      have hyj := (hds_mem hym).1
      have hne : rnX K n R ((chn (rnX K n R) j y).getLastD 0) ≠ j := by
        intro he
        have exy := chn_join_one hg hinj (rnX_inj2 h (Nat.le_refl _) j) hm hym hqx he
        subst exy
        exact ht (hds_inj hx hy)
      have hc := chn_more hg _ y rfl hyj
      rw [if_neg hne] at hc
      simp only [Option.map_some]
      rw [hc]
/-- the run begins a chain -/
theorem outB_new (h : RnsOk O n R) (hj : j < R.length)
    (ha : ∀ k, k < (outB K n R j).length → ¬ (isoB (K ((rnG (outB K n R j) k).getLastD 0)) = true ∧ partner K n ((rnG (outB K n R j) k).getLastD 0) = (rnG R j).headD 0)) :
    outB K n R (j + 1) = outB K n R j ++ [rnG R j] := by
  have hg := rnX_lt (K := K) h (Nat.le_refl _)
  have hno : ∀ y, y ∈ hds (rnX K n R) j → rnX K n R ((chn (rnX K n R) j y).getLastD 0) ≠ j := by
    intro y hy he
    obtain ⟨t, ht, hty⟩ := List.getElem_of_mem hy
    have htl : t < (outB K n R j).length := by rw [outB_length]; exact ht
    obtain ⟨x, hx, _, _, hq⟩ := outB_ask h hj htl
    rw [List.getElem?_eq_getElem ht, hty] at hx
    injection hx with hx
    subst hx
    exact ha t htl (hq.2 he)
  have hyes : hdB (rnX K n R) j = true := by
    cases hc : hdB (rnX K n R) j with
    | true => rfl
    | false =>
      obtain ⟨y, hy, he⟩ := chn_join hg hc
      exact absurd he (hno y hy)
  unfold outB
  rw [hds_new hyes, List.map_append]
  congr 1
  · apply List.map_congr_left
    intro y hy
    have hc := chn_more hg _ y rfl (hds_mem hy).1
    rw [if_neg (hno y hy)] at hc
    rw [hc]
  · show [atB R (chn (rnX K n R) (j + 1) j)] = _
    rw [chn_new hg]
    unfold atB
    simp
theorem outB_end : outB K n R R.length = seqsB K n R := rfl
end
end Go.Law.Bd
namespace Go.Law.Bd
open Go Go.Law Go.RowKit
set_option linter.unusedVariables false
section
variable {w w1 w' : World} {base : Nat} {v v' u' : Value} {S : List (List Nat)} {I : Nat → Value} {k : Nat} {xs : List Value}
/-- the head of a row, in memory -/
theorem NsI.head2 (h : NsI w base v S I) (ok : HdOk S) (hk : k < S.length) {g : Nat} (hg : (I k).ownBlock = some g) : w.cell? ⟨g, 0, none⟩ = some (.int .i64 ((rnG S k).headD 0 : Nat)) := by
  have hne := ok.ne k hk
  have hl : 0 < (rnG S k).length := List.length_pos_iff.2 hne
  obtain ⟨g', cap, hv, _, _, _, _, _, hc⟩ := RowI.at (h.inn k hk) hl
  rw [hv] at hg
  simp [Value.ownBlock] at hg
  subst hg
  rw [hc 0 (by omega)]
  unfold plF
  cases hr : rnG S k with
  | nil => exact absurd hr hne
  | cons a t => rfl
/-- rows lie in different blocks -/
theorem NsI.dif2 (h : NsI w base v S I) (ok : HdOk S) {j : Nat} (hj : j < S.length) (hk : k < S.length) (hne : j ≠ k) {g : Nat} (hg : (I k).ownBlock = some g) : (I j).ownBlock ≠ some g := by
  intro e
  have h1 := h.head2 ok hj e
  have h2 := h.head2 ok hk hg
  rw [h1] at h2
  have h3 : (rnG S j).headD 0 = (rnG S k).headD 0 := by injection h2 with h4; injection h4 with _ h5; omega
  exact hne (ok.inj j k hj hk h3)
theorem rnG_set {l : List Nat} {t : Nat} (hk : k < S.length) : rnG (S.set k l) t = if t = k then l else rnG S t := by
  unfold rnG
  rw [List.getD_eq_getElem?_getD, List.getElem?_set]
  by_cases h : k = t
  · subst h; rw [if_pos rfl, if_pos rfl, if_pos hk]; rfl
  · rw [if_neg h, if_neg (Ne.symm h), List.getD_eq_getElem?_getD]
/-- a row grows, and its slice is stored -/
theorem NsI.growK {g cap : Nat} {r : List Nat} (h : NsI w base (.slice (some ⟨g, 0, none⟩) S.length cap) S I) (ok : HdOk S) (hk : k < S.length)
    (hg : w.grownBy w1 (I k).ownBlock) (hown : w1.ownsRow base 3 1 u' ((rnG S k).length + r.length) (xs ++ r.map fun x => Value.int .i64 (x : Nat))) (hl : xs.length = (rnG S k).length * 1) (hx : ∀ t, t < (rnG S k).length * 1 → xs[t]? = some (.int .i64 (plF (rnG S k) t))) :
    NsI (w1.setCell ⟨g, k, none⟩ u') base (.slice (some ⟨g, 0, none⟩) S.length cap) (S.set k (rnG S k ++ r)) (fun t => if t = k then u' else I t) := by
  have hnew : RowI w1 base 3 1 u' (rnG S k ++ r).length (plF (rnG S k ++ r)) := by
    rw [List.length_append]
    exact ⟨_, hown, fun i hi => plF_app hl hx i (by rw [List.length_append]; exact hi)⟩
  have hout : RowV w1 base 22 1 (.slice (some ⟨g, 0, none⟩) S.length cap) S.length (fun i _ => I i) := by
    refine h.out.block fun b hb => hg.block b (h.out.lt hb) (fun e => ?_)
    exact rowIV_ne (h.inn k hk) h.out (by decide) e.symm hb
  have hinn : ∀ t, t < S.length → t ≠ k → RowI w1 base 3 1 (I t) (rnG S t).length (plF (rnG S t)) := fun t ht hne => by
    have h1 := h.inn t ht
    refine h1.block fun b hb => hg.block b (rowI_lt3 h1 hb) (fun e => ?_)
    exact h.dif2 ok ht hk hne e.symm hb
  have hset := hout.set k 0 hk (by omega) u'
  rw [Nat.mul_one, Nat.add_zero] at hset
  have hgo : (Value.slice (some ⟨g, 0, none⟩) S.length cap).ownBlock = some g := by simp [Value.ownBlock]
  refine ⟨?_, fun t ht => ?_⟩
  · rw [List.length_set]
    refine hset.congr fun a ha2 b hb => ?_
    obtain rfl : b = 0 := by omega
    unfold updV
    by_cases e : a = k
    · rw [if_pos ⟨e, rfl⟩, if_pos e]
    · rw [if_neg (fun q => e q.1), if_neg e]
  · rw [List.length_set] at ht
    rw [rnG_set hk]
    by_cases e : t = k
    · subst e
      rw [if_pos rfl, if_pos rfl]
      exact hnew.other (fun q => rowIV_ne hnew hout (by decide) q hgo) _
    · rw [if_neg e, if_neg e]
      have h1 := hinn t ht e
      exact h1.other (fun q => rowIV_ne h1 hout (by decide) q hgo) _
/-- a row is put behind -/
theorem NsI.pushL {l : List Nat} {qv : Value} (h : NsI w base v S I) (hb : Below w.heap.size w w') (hq : RowI w' base 3 1 qv l.length (plF l))
    (hg : w'.grownBy w1 v.ownBlock) (hown : w1.ownsRow base 22 1 v' (S.length + 1) (xs ++ [qv])) (hl : xs.length = S.length * 1) (hx : ∀ t, t < S.length → ∀ j, j < 1 → xs[t * 1 + j]? = some (I t)) :
    NsI w1 base v' (S ++ [l]) (fun k => if k = S.length then qv else I k) := by
  have ha := h.under hb (Nat.le_refl _)
  have hG : ∀ k, k < S.length → rnG (S ++ [l]) k = rnG S k := fun k hk => by
    unfold rnG
    rw [List.getD_eq_getElem?_getD, List.getElem?_append_left hk, List.getD_eq_getElem?_getD]
  have hG1 : rnG (S ++ [l]) S.length = l := by unfold rnG; rw [List.getD_eq_getElem?_getD, List.getElem?_append_right (Nat.le_refl _)]; simp
  refine ⟨?_, fun k hk => ?_⟩
  · rw [show (S ++ [l]).length = S.length + 1 by simp]
    refine RowV.push hown hl hx (fun j hj => ?_) (fun i hi j _ => ?_)
    · obtain rfl : j = 0 := by omega
      rw [if_pos rfl]; rfl
    · rw [if_neg (by omega)]
  · show RowI _ _ _ _ (if k = S.length then qv else I k) _ _
    by_cases e : k = S.length
    · subst e
      rw [if_pos rfl, hG1]
      refine hq.block fun b hb2 => hg.block b (rowI_lt3 hq hb2) (fun e2 => ?_)
      exact rowIV_ne hq ha.out (by decide) hb2 e2.symm
    · rw [if_neg e, hG k (by simp at hk; omega)]
      have h1 := ha.inn k (by simp at hk; omega)
      refine h1.block fun b hb2 => hg.block b (rowI_lt3 h1 hb2) (fun e2 => ?_)
      exact rowIV_ne h1 ha.out (by decide) hb2 e2.symm
theorem outB_rowlen {O : Nat → Bool} {K : Nat → Int} {n j : Nat} {R : List (List Nat)} (h : RnsOk O n R) (hj : j ≤ R.length) (hk : k < (outB K n R j).length) : (rnG (outB K n R j) k).length ≤ n := by
  have hg := rnX_lt (K := K) h (Nat.le_refl _)
  obtain ⟨x, hx, hm, e⟩ := outB_at hk
  have hxj := (hds_mem hm).1
  have hl : ∀ p, p ∈ chn (rnX K n R) j x → p < R.length := fun p hp => by have := (chn_lt hg _ x rfl hxj p hp).2; omega
  rw [e]
  have := sorted_len (n := n) (atB R (chn (rnX K n R) j x)) 0 (fun y hy => ⟨Nat.zero_le _, (atB_place h hl hy).1⟩) (atB_sorted h (chn_sorted hg _ x rfl hxj) hl)
  omega
/-- a row in memory -/
theorem NsI.row {ra : Option Addr} {rc : Nat} (h : NsI w base (.slice ra S.length rc) S I) (ok : HdOk S) (hk : k < S.length) :
    ∃ g gk ck, ra = some ⟨g, 0, none⟩ ∧ base ≤ g ∧ w.frozen? ⟨g, k, none⟩ = false ∧ I k = .slice (some ⟨gk, 0, none⟩) (rnG S k).length ck ∧ w.cell? ⟨g, k, none⟩ = some (.slice (some ⟨gk, 0, none⟩) (rnG S k).length ck) ∧ (rnG S k).length ≤ ck ∧ ck ≤ maxLen ∧ gk < w.heap.size ∧ 0 < (rnG S k).length ∧ g ≠ gk ∧ ∀ t, t < (rnG S k).length → w.cell? ⟨gk, t, none⟩ = some (.int .i64 (plF (rnG S k) t)) := by
  have hl : 0 < (rnG S k).length := List.length_pos_iff.2 (ok.ne k hk)
  obtain ⟨g, cap, hv, hgb, _, _, _, hf, hc⟩ := RowV.at h.out (by omega)
  obtain ⟨gk, ck, hvk, _, hgk, h1, h2, _, hck⟩ := RowI.at (h.inn k hk) hl
  have hc1 := hc k hk 0 (by omega)
  rw [Nat.mul_one, Nat.add_zero, hvk] at hc1
  cases hv
  refine ⟨g, gk, ck, rfl, hgb, hf k, hvk, hc1, h1, h2, hgk, hl, fun e => ?_, fun t ht => hck t (by omega)⟩
  exact rowIV_ne (h.inn k hk) h.out (by decide) (k := g) (by rw [hvk, e]; simp [Value.ownBlock]) (by simp [Value.ownBlock])
end
/-- a cell of a word -/
def wdV (lv : Value) (I : Nat → Value) (O : Nat → Bool) (L K : Nat → Int) (base : Int) (n : Nat) (S : List (List Nat)) (t c : Nat) : Value :=
  if c = 0 then lv else if c = 1 then I t else if c = 2 then .int .i64 (L ((rnG S t).getD 0 0)) else
  if c = 3 then .int .i64 (befB O L base (L ((rnG S t).getD 0 0)) ((rnG S t).getD 0 0)) else .int .i64 (aftB O L K base (L ((rnG S t).getD 0 0)) n ((rnG S t).getLastD 0))
end Go.Law.Bd
namespace Go.Proofs.YtojbicdmcodgdaaDoor.BD
open Go.RowKit Go.Law Go.Law.Bd
set_option linter.unusedVariables false
set_option linter.unusedSimpArgs false
set_option maxRecDepth 100000
set_option maxHeartbeats 8000000 in
theorem rfWords {lo g cap n bc rc : Nat} {K C L T : Nat → Int} {O : Nat → Bool} {base : Int} {wC : World} {S : List (List Nat)} {I : Nat → Value} {ra : Option Addr} (HC : Hid (Ch wC lo (.slice (some ⟨g, 0, none⟩) n cap) n K C L O T)) (HNS : Hid (NsI wC bc (.slice ra S.length rc) S I)) (HOK : Hid (HdOk S)) (HPL : Hid (∀ s, s ∈ S → s.length ≤ n ∧ ∀ x, x ∈ s → x < n)) (hn2 : n ≤ 200) (hSl : S.length ≤ 1000) (hbase : base = 0 ∨ base = 1) (HL : Hid (∀ j, 0 ≤ L j ∧ L j ≤ 1000))
    {s0 s2 s3 s4 s6 s7 s8 s10 s11 s12 s13 s14 s15 s16 s17 s18 s19 s20 s21 s22 s23 s24 s25 s26 s27 s28 s29 s30 s31 s32 s33 s34 s35 s36 s37 s38 s39 s43 s44 s45 s46 s47 s48 s49 s50 s51 s52 s53 s54 s55 s56 s57 s58 s59 s60 s61 s62 s63 s64 s65 s66 s67 s68 s69 s70 s71 s72 s73 s74 s75 s76 s77 s78 s79 s80 s81 s82 s83 s84 s85 s86 s87 s88 s89 s90 s91 s92 s93 s94 s95 s96 s97 s98 s99 s100 s101 s102 s103 s104 s105 s106 s107 s108 s109 s110 s111 s112 s113 s114 s115 s116 s117 s118 s119 s120 s121 s122 s123 s124 s125 s126 s127 s128 s129 s130 s131 s132 s133 s134 s135 s136 s137 s138 s139 s140 s141 s142 s143 s144 s145 s146 s147 s148 s149 s150 s151 s152 s153 s154 s155 s156 s157 s158 s159 s160 s161 s162 s163 s164 s165 s166 s167 s168 s169 s170 s171 s172 s173 s174 s175 s176 s177 s178 : Value} {J K' : Act → World → Prop} {Q : Exit → Act → World → Prop}
    (hJ : ∀ (a' : Act) (w' : World), (∃ u9 u11 u12 u13 u42 u43 u44 u45 u46 u47 u48 u49 u50 u51 u52 u53 u54 u55 u56 u57 u58 u59 u60 u61 u62 u63 u64 u65 u66 u67 u68 : Value, (RowV w' wC.heap.size 57 5 u9 S.length (wdV (.slice (some ⟨g, 0, none⟩) n cap) I O L K base n S) ∧ Below wC.heap.size wC w') ∧ a' = ⟨#[s0, .int .i64 base, s2, s3, s4, .slice (some ⟨g, 0, none⟩) n cap, s6, s7, s8, u9, s10, u11, u12, u13, s14, s15, s16, s17, s18, s19, s20, s21, s22, s23, s24, s25, s26, s27, s28, s29, s30, s31, s32, s33, s34, s35, s36, s37, s38, s39, .slice ra S.length rc, .int .i64 S.length, u42, u43, u44, u45, u46, u47, u48, u49, u50, u51, u52, u53, u54, u55, u56, u57, u58, u59, u60, u61, u62, u63, u64, u65, u66, u67, u68, s69, s70, s71, s72, s73, s74, s75, s76, s77, s78, s79, s80, s81, s82, s83, s84, s85, s86, s87, s88, s89, s90, s91, s92, s93, s94, s95, s96, s97, s98, s99, s100, s101, s102, s103, s104, s105, s106, s107, s108, s109, s110, s111, s112, s113, s114, s115, s116, s117, s118, s119, s120, s121, s122, s123, s124, s125, s126, s127, s128, s129, s130, s131, s132, s133, s134, s135, s136, s137, s138, s139, s140, s141, s142, s143, s144, s145, s146, s147, s148, s149, s150, s151, s152, s153, s154, s155, s156, s157, s158, s159, s160, s161, s162, s163, s164, s165, s166, s167, s168, s169, s170, s171, s172, s173, s174, s175, s176, s177, s178], []⟩) → J a' w')
    (hK : ∀ (a' : Act) (w' : World), Met J a' w' → K' a' w') :
    Code.wp Tryd.prog (theBlk Tryd.f11 2) (Exit.then K' Q) ⟨#[s0, .int .i64 base, s2, s3, s4, .slice (some ⟨g, 0, none⟩) n cap, s6, s7, s8, .slice none 0 0, s10, s11, s12, s13, s14, s15, s16, s17, s18, s19, s20, s21, s22, s23, s24, s25, s26, s27, s28, s29, s30, s31, s32, s33, s34, s35, s36, s37, s38, s39, .slice ra S.length rc, .int .i64 S.length, .int .i64 0, s43, s44, s45, s46, s47, s48, s49, s50, s51, s52, s53, s54, s55, s56, s57, s58, s59, s60, s61, s62, s63, s64, s65, s66, s67, s68, s69, s70, s71, s72, s73, s74, s75, s76, s77, s78, s79, s80, s81, s82, s83, s84, s85, s86, s87, s88, s89, s90, s91, s92, s93, s94, s95, s96, s97, s98, s99, s100, s101, s102, s103, s104, s105, s106, s107, s108, s109, s110, s111, s112, s113, s114, s115, s116, s117, s118, s119, s120, s121, s122, s123, s124, s125, s126, s127, s128, s129, s130, s131, s132, s133, s134, s135, s136, s137, s138, s139, s140, s141, s142, s143, s144, s145, s146, s147, s148, s149, s150, s151, s152, s153, s154, s155, s156, s157, s158, s159, s160, s161, s162, s163, s164, s165, s166, s167, s168, s169, s170, s171, s172, s173, s174, s175, s176, s177, s178], []⟩ wC := by
  have HI := Lib.hid (info_parts (show (Tryd.prog.info? 57).map (fun i => (i.zero, i.size, i.bytes)) = some (some (.agg #[.slice none 0 0, .slice none 0 0, .int .i64 0, .int .i64 0, .int .i64 0]), 5, 72) by kernel_rfl))
  have hgl := HC.out.lt
  conv => arg 2; whnf
  go_wp2_with fail
  go_loopw [9, 42] (fun v iv wr => ∃ t : Nat, iv = .int .i64 t ∧ t ≤ S.length ∧ RowV wr wC.heap.size 57 5 v t (wdV (.slice (some ⟨g, 0, none⟩) n cap) I O L K base n S) ∧ Below wC.heap.size wC wr) (fun _ iv _ => S.length - (intOf iv).toNat)
  case atStart => exact ⟨0, rfl, by omega, RowV.nil _ _ _ _ _, Below.refl _ _⟩
  case round =>
    obtain ⟨t, rfl, ht, hr, hb⟩ := hrel
    obtain ⟨va, vc, rfl, hvc1, hvc2⟩ := RowV.slice hr
    have HRR := Lib.hid hr
    have HB := Lib.hid hb
    clear hr
    by_cases htS : t < S.length
    case neg =>
      obtain rfl : t = S.length := by omega
      clear hb
      go_wp2_with fail
      go_meet
      exact ⟨HRR.out, HB.out⟩
    obtain ⟨gr, gk, ck, hra, _, _, hIt, m1w, hck1, hck2, hgk, hl0, hgne, hm2⟩ := HNS.out.row HOK.out htS
    have m1 := bel_cell3 hb m1w
    have hpl := HPL.out _ (rnG_mem htS)
    obtain ⟨s, hs⟩ : ∃ s, s = rnG S t := ⟨_, rfl⟩
    rw [← hs] at hIt m1 hck1 hl0 hm2 hpl
    have hA : ∀ k, k < s.length → s.getD k 0 < n := fun k hk => hpl.2 _ (by rw [List.getD_eq_getElem?_getD, List.getElem?_eq_getElem hk]; exact List.getElem_mem hk)
    have hch := HC.out.only (w' := wr) (hb.block g hgl)
    have HED := Lib.hid (edges_any (A := fun k => s.getD k 0) (base := base) hch (fun k hk => bel_cell3 hb (hm2 k hk)) hA hl0 hck1 hn2 (by omega) hbase HL.out)
    obtain ⟨x0, hx0⟩ : ∃ x, x = s.getD 0 0 := ⟨_, rfl⟩
    have hx0n : x0 < n := by rw [hx0]; exact hA 0 hl0
    have hx0i : (x0 : Int) < (n : Int) := by omega
    have HED := Lib.hid (show Calls Tryd.prog 27 #[.slice (some ⟨g, 0, none⟩) n cap, .slice (some ⟨gk, 0, none⟩) s.length ck, .int .i64 base] wr fun e w' => e = .returned (.tuple #[.int .i64 (befB O L base (L x0) x0), .int .i64 (aftB O L K base (L x0) n (s.getLastD 0))]) ∧ Below wr.heap.size wr w' by
      have h1 := HED.out
      rw [getD_last, ← hx0] at h1
      exact h1)
    have HM0 := Lib.hid (show ∀ wx, Below wC.heap.size wC wx → wx.cell? ⟨gk, 0, none⟩ = some (.int .i64 (x0 : Nat)) from fun wx hx => by rw [hx0]; exact bel_cell3 hx (hm2 0 hl0))
    obtain ⟨bef, hbf⟩ : ∃ x, x = befB O L base (L x0) x0 := ⟨_, rfl⟩
    obtain ⟨aft, haf⟩ : ∃ x, x = aftB O L K base (L x0) n (s.getLastD 0) := ⟨_, rfl⟩
    rw [← hbf, ← haf] at HED
    have HROW := Lib.hid (show ∀ c u, [Value.slice (some ⟨g, 0, none⟩) n cap, .slice (some ⟨gk, 0, none⟩) s.length ck, .int .i64 (L x0), .int .i64 bef, .int .i64 aft][c]? = some u → c < 5 → u = wdV (.slice (some ⟨g, 0, none⟩) n cap) I O L K base n S t c from fun c u hu hc => by
      unfold wdV
      rw [← hs, ← hx0, ← hbf, ← haf, hIt]
      match c, hc with
      | 0, _ => exact (Option.some.inj hu).symm
      | 1, _ => exact (Option.some.inj hu).symm
      | 2, _ => exact (Option.some.inj hu).symm
      | 3, _ => exact (Option.some.inj hu).symm
      | 4, _ => exact (Option.some.inj hu).symm)
    obtain ⟨len, hlen⟩ : ∃ l, l = s.length := ⟨_, rfl⟩
    rw [← hlen] at HED m1 HROW hck1 hl0
    have htSi : (t : Int) < (S.length : Int) := by omega
    subst hra
    clear hA hm2 hs hIt hx0 hbf haf hlen hpl hch hb m1w
    go_wp2_with fail
    refine HED.out.mono ?_
    rintro e2 w2 ⟨rfl, hb2⟩
    have HB2 := Lib.hid (HB.out.trans (hb2.mono HB.out.size))
    have HR2 := Lib.hid (RowV.below HRR.out hb2 (Nat.le_refl _))
    have hch2 := HC.out.only (w' := w2) (HB2.out.block g hgl)
    obtain ⟨_, _, _, v0, _⟩ := hch2.cells hx0n
    have k0 := HM0.out w2 HB2.out
    dsimp only
    obtain ⟨L0, hL0⟩ : ∃ x, x = L x0 := ⟨_, rfl⟩
    rw [← hL0] at v0 HROW
    clear hb2 hch2 HED m1 HRR HB HM0 hL0
    obtain ⟨xs, hown0, hxl, hxs⟩ := RowV.own HR2.out
    have HX := Lib.hid hown0
    have HXL := Lib.hid hxl
    have HXS := Lib.hid hxs
    obtain ⟨ii, hii, hz0, hz1, hz2⟩ := HI.out
    have hlow := HB2.out.size
    clear hown0 hxl hxs
    go_wp2_with (at_builtin; go_loud (refine wpList_append_own _ rfl _ _ 51 rfl (wC.heap.size) 57 ii _ 5 72 Tryd.underlying51 hii hz0 hz1 hz2 rfl (by decide) _ _ _ rfl (RowL.alloc HX.out _) ⟨w2.heap.size, 0, none⟩ 1 1 [.slice (some ⟨g, 0, none⟩) n cap, .slice (some ⟨gk, 0, none⟩) len ck, .int .i64 L0, .int .i64 bef, .int .i64 aft] rfl rfl ?k1 ?k2 ?k3 ?k4 ?k5 ?_))
    case k1 =>
      intro j u hj
      have e : Addr.add ⟨w2.heap.size, 0, none⟩ j = ⟨w2.heap.size, j, none⟩ := by simp [Addr.add] <;> omega
      rw [e]
      exact cellNewS (cs := [_, _, _, _, _]) hj
    try (case k2 => first | exact ⟨rfl, rfl, rfl, rfl, rfl⟩ | (intro u hu; simp at hu; rcases hu with rfl | rfl | rfl | rfl | rfl <;> rfl))
    try (case k3 => unfold maxLen; (try simp); (try omega))
    try (case k4 => (try simp); (try omega))
    try (case k5 => (try simp); (try omega))
    intro v5 w5 hown hgrow _
    have HR5 := Lib.hid (show RowV w5 wC.heap.size 57 5 v5 (t + 1) (wdV (.slice (some ⟨g, 0, none⟩) n cap) I O L K base n S) from RowV.push hown HXL.out HXS.out (fun j hj => by
      rw [List.getElem?_eq_getElem (by simpa using hj)]
      exact congrArg some (HROW.out j _ (List.getElem?_eq_getElem (by simpa using hj)) hj)) (fun _ _ _ _ => rfl))
    have HB5 := Lib.hid (below_grown HB2.out HB2.out.size _ hgrow (fun q hq => RowV.ge HR2.out q hq))
    clear hown hgrow hii hz0 hz1 hz2 HX HXS HXL HR2 HB2 v0 k0
    go_wp2_with fail
    go_roundw
    case rel => exact ⟨t + 1, by go_num, by omega, HR5.out, HB5.out⟩
    case measure => simp [intOf]; omega
end Go.Proofs.YtojbicdmcodgdaaDoor.BD
namespace Go.Law.Bd
open Go Go.Law Go.RowKit
set_option linter.unusedVariables false
structure WdP where
  lo : Nat
  g : Nat
  cap : Nat
  n : Nat
  ga : Nat
  m : Nat
  ca : Nat
  lev : Int
  bef : Int
  aft : Int
  K : Nat → Int
  C : Nat → Int
  V : Nat → Int
  O : Nat → Bool
  T : Nat → Int
  A : Nat → Nat
/-- the cells of a word -/
def WdP.cs (p : WdP) : Array Value := #[.slice (some ⟨p.g, 0, none⟩) p.n p.cap, .slice (some ⟨p.ga, 0, none⟩) p.m p.ca, .int .i64 p.lev, .int .i64 p.bef, .int .i64 p.aft]
structure WdOk (p : WdP) : Prop where
  n2 : p.n ≤ 200
  m2 : p.m ≤ p.n
  mca : p.m ≤ p.ca
  pl : ∀ k, k < p.m → p.A k < p.n
  inj : ∀ j k, j < p.m → k < p.m → p.A j = p.A k → j = k
  gga : p.g ≠ p.ga
/-- a word in memory: F the classes of its characters -/
structure Wd (p : WdP) (F : Nat → Int) (w : World) : Prop where
  ch : ∃ C', Ch w p.lo (.slice (some ⟨p.g, 0, none⟩) p.n p.cap) p.n p.K C' p.V p.O p.T ∧ (∀ k, k < p.m → C' (p.A k) = F k) ∧ ∀ x, (∀ k, k < p.m → p.A k ≠ x) → C' x = p.C x
  pt : ∀ k, k < p.m → w.cell? ⟨p.ga, k, none⟩ = some (.int .i64 (p.A k : Nat))
  gl : p.ga < w.heap.size
/-- and with its box -/
structure Ws (p : WdP) (F : Nat → Int) (b : Nat) (w0 w : World) : Prop where
  wd : Wd p F w
  bx : Blk w b p.cs 57
  sv : Save (fun k => k = p.g) w0 w
  low : w0.heap.size ≤ b
section
variable {p : WdP} {F F' : Nat → Int} {w w0 w' : World} {b i : Nat} {x : Int}
theorem Wd.block (h : Wd p F w) (hg : w'.heap[p.g]? = w.heap[p.g]?) (ha : w'.heap[p.ga]? = w.heap[p.ga]?) (hs : w.heap.size ≤ w'.heap.size) : Wd p F w' := by
  obtain ⟨C', h1, h2, h3⟩ := h.ch
  exact ⟨⟨C', h1.only hg, h2, h3⟩, fun k hk => (World.cell?_of_block (w := w) ha).trans (h.pt k hk), Nat.lt_of_lt_of_le h.gl hs⟩
theorem Wd.lt (h : Wd p F w) : p.g < w.heap.size := by obtain ⟨C', h1, _⟩ := h.ch; exact h1.lt
theorem Wd.below (h : Wd p F w) (hb : Below w.heap.size w w') : Wd p F w' := h.block (hb.block _ h.lt) (hb.block _ h.gl) hb.size
theorem Wd.alloc (h : Wd p F w) (o : Obj) : Wd p F (w.alloc o) := h.below ((Below.refl _ _).alloc (Nat.le_refl _) o)
theorem Wd.drewN (h : Wd p F w) (q : Nat) : Wd p F (w.drewN q) := h.block rfl rfl (Nat.le_refl _)
theorem Wd.congr (h : Wd p F w) (e : ∀ k, k < p.m → F k = F' k) : Wd p F' w := by
  obtain ⟨C', h1, h2, h3⟩ := h.ch
  exact ⟨⟨C', h1, fun k hk => (h2 k hk).trans (e k hk), h3⟩, h.pt, h.gl⟩
theorem Wd.char (ok : WdOk p) (h : Wd p F w) (hi : i < p.m) : (∀ j, w.frozen? ⟨p.g, j, none⟩ = false) ∧ w.cell? ⟨p.g, p.A i * 5, none⟩ = some (.int .i64 (p.K (p.A i))) ∧ w.cell? ⟨p.g, p.A i * 5 + 1, none⟩ = some (.int .i64 (F i)) ∧
    w.cell? ⟨p.g, p.A i * 5 + 2, none⟩ = some (.int .i64 (p.V (p.A i))) ∧ w.cell? ⟨p.g, p.A i * 5 + 4, none⟩ = some (.int .i64 (p.T (p.A i))) := by
  obtain ⟨C', h1, h2, h3⟩ := h.ch
  obtain ⟨a, b, c, d, _, e⟩ := h1.cells (ok.pl i hi)
  rw [h2 i hi] at c
  exact ⟨a, b, c, d, e⟩
/-- a class is written -/
theorem Wd.set (ok : WdOk p) (h : Wd p F w) (hi : i < p.m) (x : Int) : Wd p (upd F i x) (w.setCell ⟨p.g, p.A i * 5 + 1, none⟩ (.int .i64 x)) := by
  obtain ⟨C', h1, h2, h3⟩ := h.ch
  refine ⟨⟨upd C' (p.A i) x, h1.setC (ok.pl i hi) x, fun k hk => ?_, fun y hy => ?_⟩, fun k hk => ?_, ?_⟩
  · unfold upd
    by_cases e : k = i
    · subst e; rw [if_pos rfl, if_pos rfl]
    · rw [if_neg e, if_neg (fun q => e (ok.inj k i hk hi q)), h2 k hk]
  · unfold upd
    rw [if_neg (fun e => hy i hi e.symm)]
    exact h3 y hy
  · exact (World.cell?_of_block (w := w) (Below.heap_setCell _ _ _ _ (fun e => ok.gga e.symm))).trans (h.pt k hk)
  · have := h.gl; simpa [World.setCell] using this
theorem Ws.below (h : Ws p F b w0 w) (hb : Below w.heap.size w w') : Ws p F b w0 w' :=
  ⟨h.wd.below hb, h.bx.below hb h.bx.lt, h.sv.trans (Save.of_below hb (Nat.le_refl _)), h.low⟩
theorem Ws.drewN (h : Ws p F b w0 w) (q : Nat) : Ws p F b w0 (w.drewN q) := ⟨h.wd.drewN q, h.bx.drewN q, h.sv.drewN q, h.low⟩
theorem Ws.alloc (h : Ws p F b w0 w) (o : Obj) : Ws p F b w0 (w.alloc o) := h.below ((Below.refl _ _).alloc (Nat.le_refl _) o)
theorem Ws.congr (h : Ws p F b w0 w) (e : ∀ k, k < p.m → F k = F' k) : Ws p F' b w0 w := ⟨h.wd.congr e, h.bx, h.sv, h.low⟩
theorem Ws.save (h : Ws p F b w0 w) (hd : Wd p F' w') (hs : Save (fun k => k = p.g) w w') : Ws p F' b w0 w' :=
  ⟨hd, h.bx.block (hs.block b h.bx.lt (fun e => by
    have e2 : b = p.g := e
    obtain ⟨C', h1, _⟩ := h.wd.ch
    exact RowV.notblk h1 h.bx (by decide) (by rw [e2]; rfl))), h.sv.trans hs, h.low⟩
theorem Ws.box (h : Ws p F b w0 w) : w.cell? ⟨b, 0, none⟩ = some (.slice (some ⟨p.g, 0, none⟩) p.n p.cap) ∧ w.cell? ⟨b, 1, none⟩ = some (.slice (some ⟨p.ga, 0, none⟩) p.m p.ca) ∧ w.cell? ⟨b, 2, none⟩ = some (.int .i64 p.lev) ∧ w.cell? ⟨b, 3, none⟩ = some (.int .i64 p.bef) ∧ w.cell? ⟨b, 4, none⟩ = some (.int .i64 p.aft) :=
  ⟨h.bx.cell (i := 0) rfl, h.bx.cell (i := 1) rfl, h.bx.cell (i := 2) rfl, h.bx.cell (i := 3) rfl, h.bx.cell (i := 4) rfl⟩
end
end Go.Law.Bd
namespace Go.Proofs.YtojbicdmcodgdaaDoor.BD
open Go.RowKit Go.Law Go.Law.Bd
set_option linter.unusedVariables false
set_option linter.unusedSimpArgs false
set_option maxRecDepth 100000
/-- the class at a place, ahead of all, behind all -/
def gtW (p : WdP) (F : Nat → Int) (i : Int) : Int := if i < 0 then p.bef else if (p.m : Int) ≤ i then p.aft else F i.toNat
theorem gtW_at {p : WdP} {F : Nat → Int} {k : Nat} (h : k < p.m) : gtW p F (k : Int) = F k := by unfold gtW; rw [if_neg (by omega), if_neg (by omega)]; rfl
theorem gtW_neg {p : WdP} {F : Nat → Int} : gtW p F (-1) = p.bef := by unfold gtW; rw [if_pos (by omega)]
theorem gtW_end {p : WdP} {F : Nat → Int} {k : Nat} (h : p.m ≤ k) : gtW p F (k : Int) = p.aft := by unfold gtW; rw [if_neg (by omega), if_pos (by omega)]
set_option maxHeartbeats 4000000 in
theorem wget_any {p : WdP} {F : Nat → Int} {w : World} (ok : WdOk p) (h : Wd p F w) (i : Int) :
    Calls Tryd.prog 48 #[.agg p.cs, .int .i64 i] w fun e w' => e = .returned (.int .i64 (gtW p F i)) ∧ Below w.heap.size w w' := by
  have OK := Lib.hid ok
  obtain ⟨w1, hw1⟩ : ∃ w1, w1 = w.alloc (Obj.cells p.cs 57) := ⟨_, rfl⟩
  have hs : Ws p F w.heap.size w w1 := by
    rw [hw1]
    exact ⟨h.alloc _, Blk.new _ _ _, (Save.refl _ w).alloc _, Nat.le_refl _⟩
  have HB1 := Lib.hid (show Below w.heap.size w w1 by rw [hw1]; exact (Below.refl _ _).alloc (Nat.le_refl _) _)
  obtain ⟨x0, x1, x2, x3, x4⟩ := hs.box
  have hm := ok.m2
  have hn := ok.n2
  have hmca := ok.mca
  have HW := Lib.hid hs
  unfold WdP.cs at hw1 ⊢
  clear h hs ok
  go_enter Tryd.func48, Tryd.ntmps48
  go_upto_region 1 with fail
  rw [← hw1]
  obtain ⟨b, hb⟩ : ∃ b, b = w.heap.size := ⟨_, rfl⟩
  rw [← hb] at x0 x1 x2 x3 x4 ⊢
  have HBB := Lib.hid hb
  clear hw1 hb
  by_cases h0 : i < 0
  · have HG := Lib.hid (show gtW p F i = p.bef by unfold gtW; rw [if_pos h0])
    go_wp2_with fail
    go_ret
    exact ⟨by rw [HG.out]; rfl, HB1.out⟩
  · by_cases h1 : (p.m : Int) ≤ i
    · have HG := Lib.hid (show gtW p F i = p.aft by unfold gtW; rw [if_neg h0, if_pos h1])
      go_wp2_with fail
      go_ret
      exact ⟨by rw [HG.out]; rfl, HB1.out⟩
    · obtain ⟨k, rfl⟩ : ∃ k : Nat, i = k := ⟨i.toNat, by omega⟩
      have hk : k < p.m := by omega
      have HG := Lib.hid (gtW_at (F := F) hk)
      have hAk := OK.out.pl k hk
      have hAi : (p.A k : Int) < (p.n : Int) := by omega
      have a1 := HW.out.wd.pt k hk
      obtain ⟨_, _, c1, _, _⟩ := HW.out.wd.char OK.out hk
      go_wp2_with fail
      go_quiet (fail)
      go_wp2_with fail
      go_ret
      exact ⟨by rw [HG.out]; rfl, below_drewN HB1.out nq⟩
set_option maxHeartbeats 4000000 in
theorem wput_any {p : WdP} {F : Nat → Int} {w : World} (ok : WdOk p) (h : Wd p F w) (k : Nat) (hk : k < p.m) (x : Int) :
    Calls Tryd.prog 49 #[.agg p.cs, .int .i64 k, .int .i64 x] w fun e w' => e = .returned (.tuple #[]) ∧ Wd p (upd F k x) w' ∧ Save (fun j => j = p.g) w w' := by
  have OK := Lib.hid ok
  obtain ⟨w1, hw1⟩ : ∃ w1, w1 = w.alloc (Obj.cells p.cs 57) := ⟨_, rfl⟩
  have hs : Ws p F w.heap.size w w1 := by
    rw [hw1]
    exact ⟨h.alloc _, Blk.new _ _ _, (Save.refl _ w).alloc _, Nat.le_refl _⟩
  obtain ⟨x0, x1, x2, x3, x4⟩ := hs.box
  have hm := ok.m2
  have hn := ok.n2
  have hmca := ok.mca
  have HW := Lib.hid hs
  unfold WdP.cs at hw1 ⊢
  clear h hs
  go_enter Tryd.func49, Tryd.ntmps49
  go_upto_region 1 with fail
  rw [← hw1]
  obtain ⟨b, hb⟩ : ∃ b, b = w.heap.size := ⟨_, rfl⟩
  rw [← hb] at x0 x1 x2 x3 x4 ⊢
  have HBB := Lib.hid hb
  clear hw1 hb
  have hAk := ok.pl k hk
  have hki : (k : Int) < (p.m : Int) := by omega
  have hAi : (p.A k : Int) < (p.n : Int) := by omega
  have a1 := HW.out.wd.pt k hk
  obtain ⟨z, _, c1, _, _⟩ := HW.out.wd.char ok hk
  have z1 := z (p.A k * 5 + 1)
  clear ok z
  go_still_tail 10, (by kernel_rfl)
  change wpList _ _ _ _ _ w1.drew
  obtain ⟨w2, hw2⟩ : ∃ w2, w2 = w1.drew := ⟨_, rfl⟩
  have HW2 := Lib.hid (show Ws p F b w w2 by rw [hw2, HBB.out]; exact HW.out.drewN 1)
  have c2 : w2.cell? ⟨p.g, p.A k * 5 + 1, none⟩ = some (.int .i64 (F k)) := by rw [hw2]; exact c1
  have z2 : w2.frozen? ⟨p.g, p.A k * 5 + 1, none⟩ = false := by rw [hw2]; exact z1
  rw [← hw2]
  clear hw2 z1 c1 a1 x0 x1 x2 x3 x4
  go_wp2_with fail
  first | go_end0 | (simp only [Exit.inBlock, Exit.then]; refine bodyPost_ret (results_none rfl _ _ _) rfl ?_) | refine bodyPost_ret (results_none rfl _ _ _) rfl ?_
  exact ⟨rfl, HW2.out.wd.set OK.out hk x, HW2.out.sv.set (.inl rfl) _⟩
end Go.Proofs.YtojbicdmcodgdaaDoor.BD
namespace Go.Law.Bd
open Go Go.Law Go.RowKit
/-- the last class of some ahead of a place -/
def lsW (F : Nat → Int) (bef : Int) (c : Nat → Int) (q : Nat) : Nat → Int
  | 0 => bef
  | k + 1 => if (List.range q).any (fun j => decide (F k = c j)) = true then F k else lsW F bef c q k
end Go.Law.Bd
namespace Go.Proofs.YtojbicdmcodgdaaDoor.BD
open Go.RowKit Go.Law Go.Law.Bd
set_option linter.unusedVariables false
set_option linter.unusedSimpArgs false
set_option maxRecDepth 100000
set_option maxHeartbeats 4000000 in
theorem wletter_any {p : WdP} {F c : Nat → Int} {w : World} {gc q qc : Nat} (ok : WdOk p) (h : Wd p F w) (hc : IntsF w (some ⟨gc, 0, none⟩) q c) (i : Nat) (hi : i < p.m) (hq : q ≤ 10) :
    Calls Tryd.prog 50 #[.agg p.cs, .int .i64 i, .slice (some ⟨gc, 0, none⟩) q qc] w fun e w' => e = .returned (.int .i64 (lsW F p.bef c q i)) ∧ Below w.heap.size w w' := by
  have OK := Lib.hid ok
  have HC := Lib.hid hc
  obtain ⟨w1, hw1⟩ : ∃ w1, w1 = w.alloc (Obj.cells p.cs 57) := ⟨_, rfl⟩
  have HW := Lib.hid (show Ws p F w.heap.size w w1 by
    rw [hw1]
    exact ⟨h.alloc _, Blk.new _ _ _, (Save.refl _ w).alloc _, Nat.le_refl _⟩)
  have HB1 := Lib.hid (show Below w.heap.size w w1 by rw [hw1]; exact (Below.refl _ _).alloc (Nat.le_refl _) _)
  have hm := ok.m2
  have hn := ok.n2
  have hmca := ok.mca
  have hw9 := IntWalk.i64_in ((i : Int) - 1) (by omega)
  unfold WdP.cs at hw1 ⊢
  clear h ok hc
  go_enter Tryd.func50, Tryd.ntmps50
  go_upto_region 1 with fail
  rw [← hw1]
  obtain ⟨b, hb⟩ : ∃ b, b = w.heap.size := ⟨_, rfl⟩
  rw [← hb]
  have HBB := Lib.hid hb
  rw [← hb] at HW
  clear hw1 hb
  go_wp2_with fail
  go_loopw [1] (fun iv wr => ∃ k : Nat, iv = .int .i64 ((k : Int) - 1) ∧ k ≤ i ∧ lsW F p.bef c q i = lsW F p.bef c q k ∧ Ws p F b w wr ∧ Below w.heap.size w wr) (fun iv _ => (intOf iv + 1).toNat)
  case atStart => exact ⟨i, rfl, Nat.le_refl _, rfl, HW.out, HB1.out⟩
  case round =>
    obtain ⟨k, rfl, hk, hls, hws, hbel⟩ := hrel
    have HLS := Lib.hid hls
    have HWS := Lib.hid hws
    have HBEL := Lib.hid hbel
    clear hls hws hbel HW HB1 hw9
    by_cases hk0 : k = 0
    · subst hk0
      obtain ⟨_, _, _, x3, _⟩ := HWS.out.box
      have HF := Lib.hid (show lsW F p.bef c q i = p.bef by rw [HLS.out, lsW])
      go_wp2_with fail
      go_ret
      exact ⟨by rw [HF.out]; rfl, HBEL.out⟩
    · obtain ⟨t, rfl⟩ : ∃ t, k = t + 1 := ⟨k - 1, by omega⟩
      have e1 : ((t + 1 : Nat) : Int) - 1 = (t : Int) := by omega
      rw [e1]
      have htm : t < p.m := by omega
      have hw8 := IntWalk.i64_in ((t : Int) - 1) (by omega)
      go_upto_block 2 with fail
      go_wp2_with fail
      go_loopw [17] (fun jv wx => ∃ j : Nat, jv = .int .i64 j ∧ j ≤ q ∧ (∀ y, y < j → F t ≠ c y) ∧ Ws p F b w wx ∧ Below w.heap.size w wx) (fun jv _ => q - (intOf jv).toNat)
      case atStart => exact ⟨0, rfl, by omega, fun y hy => by omega, HWS.out, HBEL.out⟩
      case round =>
        obtain ⟨j, rfl, hj, hno, hws, hbel⟩ := hrel
        have HNO := Lib.hid hno
        clear hno HWS HBEL
        have HWS := Lib.hid hws
        have HBEL := Lib.hid hbel
        by_cases hjq : j < q
        · obtain ⟨b1, off, hb1, hcc⟩ := IntsF.below HC.out (Nat.le_refl _) hbel (by omega)
          cases hb1
          have c1 := hcc j hjq
          rw [Nat.zero_add] at c1
          obtain ⟨x0, x1, x2, x3, x4⟩ := hws.box
          have HG := Lib.hid (wget_any (F := F) OK.out hws.wd (t : Int))
          rw [gtW_at htm] at HG
          have hjqi : (j : Int) < (q : Int) := by omega
          have hbl := hws.bx.lt
          obtain ⟨Ft, hFt⟩ : ∃ x, x = F t := ⟨_, rfl⟩
          obtain ⟨cj, hcj⟩ : ∃ x, x = c j := ⟨_, rfl⟩
          rw [← hFt] at HG HNO
          rw [← hcj] at c1
          have HFT := Lib.hid hFt
          have HCJ := Lib.hid hcj
          unfold WdP.cs at HG
          clear hcc hws hbel hFt hcj
          go_wp2_with fail
          refine HG.out.mono ?_
          rintro e9 w9 ⟨rfl, hb9⟩
          have HW9 := Lib.hid (HWS.out.below hb9)
          have HB9 := Lib.hid (show Below w.heap.size w w9 from HBEL.out.trans (hb9.mono HBEL.out.size))
          dsimp only
          clear hb9 HG
          by_cases hfc : Ft = cj
          · have hfb : (Ft == cj) = true := by simp [hfc]
            have HF := Lib.hid (show lsW F p.bef c q i = cj by
              rw [HLS.out, lsW, if_pos (by rw [List.any_eq_true]; exact ⟨j, List.mem_range.2 hjq, by rw [← HFT.out, ← HCJ.out]; simpa using hfc⟩), ← HFT.out, hfc])
            clear hfc
            go_wp2_with fail
            go_ret
            exact ⟨by rw [HF.out]; rfl, HB9.out⟩
          · have hfb : (Ft == cj) = false := by simp [hfc]
            have HF := Lib.hid (show ∀ y, y < j + 1 → F t ≠ c y from fun y hy => by
              by_cases e : y = j
              · rw [e, ← HFT.out, ← HCJ.out]; exact hfc
              · rw [← HFT.out]; exact HNO.out y (by omega))
            clear hfc
            go_wp2_with fail
            go_roundw
            case rel => exact ⟨j + 1, by go_num, by omega, HF.out, HW9.out, HB9.out⟩
            case measure => simp [intOf]; omega
        · obtain rfl : j = q := by omega
          have HF := Lib.hid (show lsW F p.bef c j i = lsW F p.bef c j t by
            rw [HLS.out, lsW, if_neg]
            intro h
            rw [List.any_eq_true] at h
            obtain ⟨y, hy, hy2⟩ := h
            exact HNO.out y (List.mem_range.1 hy) (by simpa using hy2))
          clear hws hbel
          go_wp2_with fail
          go_roundw
          case rel => exact ⟨t, rfl, by omega, HF.out, HWS.out, HBEL.out⟩
          case measure => simp [intOf]
section
variable {p : WdP} {F : Nat → Int} {b : Nat} {w0 w : World}
theorem wsget (ok : WdOk p) (h : Ws p F b w0 w) (i : Int) {x : Int} (hx : gtW p F i = x) :
    Calls Tryd.prog 48 #[.agg #[.slice (some ⟨p.g, 0, none⟩) p.n p.cap, .slice (some ⟨p.ga, 0, none⟩) p.m p.ca, .int .i64 p.lev, .int .i64 p.bef, .int .i64 p.aft], .int .i64 i] w fun e w' => e = .returned (.int .i64 x) ∧ Ws p F b w0 w' := by
  subst hx
  exact (wget_any ok h.wd i).mono fun e w' q => ⟨q.1, h.below q.2⟩
theorem wsput (ok : WdOk p) (h : Ws p F b w0 w) {k : Nat} (hk : k < p.m) (x : Int) :
    Calls Tryd.prog 49 #[.agg #[.slice (some ⟨p.g, 0, none⟩) p.n p.cap, .slice (some ⟨p.ga, 0, none⟩) p.m p.ca, .int .i64 p.lev, .int .i64 p.bef, .int .i64 p.aft], .int .i64 k, .int .i64 x] w fun e w' => e = .returned (.tuple #[]) ∧ Ws p (upd F k x) b w0 w' :=
  (wput_any ok h.wd k hk x).mono fun e w' q => ⟨q.1, h.save q.2.1 q.2.2⟩
theorem wslet (ok : WdOk p) (h : Ws p F b w0 w) {c : Nat → Int} {gc q qc : Nat} (hc : IntsF w (some ⟨gc, 0, none⟩) q c) {i : Nat} (hi : i < p.m) (hq : q ≤ 10) {x : Int} (hx : lsW F p.bef c q i = x) :
    Calls Tryd.prog 50 #[.agg #[.slice (some ⟨p.g, 0, none⟩) p.n p.cap, .slice (some ⟨p.ga, 0, none⟩) p.m p.ca, .int .i64 p.lev, .int .i64 p.bef, .int .i64 p.aft], .int .i64 i, .slice (some ⟨gc, 0, none⟩) q qc] w fun e w' => e = .returned (.int .i64 x) ∧ Ws p F b w0 w' := by
  subst hx
  exact (wletter_any ok h.wd hc i hi hq).mono fun e w' r => ⟨r.1, h.below r.2⟩
end
end Go.Proofs.YtojbicdmcodgdaaDoor.BD
