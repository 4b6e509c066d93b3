
/-
  chart.Sectors.
-/
import Derived.Test.YtpbnkkeplhgepaaChCheck
import Derived.Test.YtpbnkkeplhgepaaChShares
import Derived.Test.YtpbnkkeplhgepaaScaleMarks
import Derived.Test.YtpbnkkeplhgepaaSides
namespace Go.Proofs.Ytpbnkkeplhgepaa.CH
open Go.RowKit Go.Law Go.Law.Ch Ref
set_option linter.unusedVariables false
set_option linter.unusedSimpArgs false
set_option maxRecDepth 100000
/-- the angle at a sum -/
def toV (A S : Int) : Int := if 0 < A then SP.near (S * 3600) A else 0
theorem toV_zero (A : Int) : toV A 0 = 0 := by
  unfold toV
  by_cases h : 0 < A
  · rw [if_pos h]
    unfold SP.near
    exact Int.ediv_eq_zero_of_lt (by omega) (by omega)
  · rw [if_neg h]
theorem toV_eq {A S : Int} (h : 0 < A) : (2 * S * 3600 + A) / (2 * A) = toV A S := by
  unfold toV SP.near
  rw [if_pos h]
  congr 1
  omega
/-- the sectors as cells -/
def SecX (xs : List Value) (k : Nat) (A : Int) (f : Nat → Int) : Prop :=
  xs.length = k * 3 ∧ ∀ q, q < k → xs[q * 3]? = some (.int .i64 (q : Int)) ∧ xs[q * 3 + 1]? = some (.int .i64 (toV A (sumI f q))) ∧ xs[q * 3 + 2]? = some (.int .i64 (toV A (sumI f (q + 1))))
theorem SecX.nil (A : Int) (f : Nat → Int) : SecX [] 0 A f := ⟨rfl, fun q hq => by omega⟩
theorem SecX.step {xs : List Value} {k : Nat} {A : Int} {f : Nat → Int} (h : SecX xs k A f) : SecX (xs ++ [.int .i64 (k : Int), .int .i64 (toV A (sumI f k)), .int .i64 (toV A (sumI f (k + 1)))]) (k + 1) A f := by
  obtain ⟨h1, h2⟩ := h
  refine ⟨by simp; omega, fun q hq => ?_⟩
  by_cases hqk : q = k
  · subst hqk
    refine ⟨?_, ?_, ?_⟩
    · rw [List.getElem?_append_right (by omega), h1]; simp
    · rw [List.getElem?_append_right (by omega), h1]; simp
    · rw [List.getElem?_append_right (by omega), h1]; simp
  · obtain ⟨g1, g2, g3⟩ := h2 q (by omega)
    refine ⟨?_, ?_, ?_⟩
    · rw [List.getElem?_append_left (by omega)]; exact g1
    · rw [List.getElem?_append_left (by omega)]; exact g2
    · rw [List.getElem?_append_left (by omega)]; exact g3
theorem sectors_bad (kind : Int) (a1 a2 : Option Addr) (p cp s cs : Nat) (sa : Nat → Option Addr) (sn sc : Nat → Nat) (sf : Nat → Nat → Int) (w : World) (hrows : RowsF w a2 s sa sn sc sf) (he : chErr kind p s sn sf ≠ 0) :
    Calls Try.prog 30 #[.agg #[.int .i64 kind, .slice a1 p cp, .slice a2 s cs]] w fun e w' => e = .returned (.tuple #[.slice none 0 0, .int .i64 (chErr kind p s sn sf)]) ∧ Below w.heap.size w w' := by
  have he' : (chErr kind p s sn sf != 0) = true := by simpa using he
  clear he
  go_enter Try.func30, Try.ntmps30
  go_wp2_with fail
  refine (check_any kind a1 a2 p cp s cs sa sn sc sf _ (hrows.below (Nat.le_refl _) ((Below.refl _ _).alloc (Nat.le_refl _) _))).mono ?_
  rintro e w1 ⟨rfl, hb⟩
  go_wp2_with fail
  go_ret2
  exact ⟨rfl, ((Below.refl _ _).alloc (Nat.le_refl _) _).trans (hb.mono (by simp))⟩
theorem sectors_kind (kind : Int) (a1 a2 : Option Addr) (p cp s cs : Nat) (sa : Nat → Option Addr) (sn sc : Nat → Nat) (sf : Nat → Nat → Int) (w : World) (hrows : RowsF w a2 s sa sn sc sf) (he : chErr kind p s sn sf = 0) (hk : kind ≠ 3) :
    Calls Try.prog 30 #[.agg #[.int .i64 kind, .slice a1 p cp, .slice a2 s cs]] w fun e w' => e = .returned (.tuple #[.slice none 0 0, .int .i64 8]) ∧ Below w.heap.size w w' := by
  have hk' : (kind != 3) = true := by simpa using hk
  clear hk
  go_enter Try.func30, Try.ntmps30
  go_wp2_with fail
  refine (check_any kind a1 a2 p cp s cs sa sn sc sf _ (hrows.below (Nat.le_refl _) ((Below.refl _ _).alloc (Nat.le_refl _) _))).mono ?_
  rintro e w1 ⟨rfl, hb⟩
  rw [he]
  have hs1 := hb.size
  simp at hs1
  have p0 : w1.cell? ⟨w.heap.size, 0, none⟩ = some (.int .i64 kind) := (hb.cell (by simp)).trans (by simp)
  go_wp2_with fail
  go_ret2
  exact ⟨rfl, ((Below.refl _ _).alloc (Nat.le_refl _) _).trans (hb.mono (by simp))⟩
def SectorsPost (n : Nat) (f : Nat → Int) (w : World) (e : Ending) (w' : World) : Prop :=
  Below w.heap.size w w' ∧ ∃ v xs, e = .returned (.tuple #[v, .int .i64 0]) ∧ w'.ownsRow w.heap.size 61 3 v n xs ∧ SecX xs n (sumI f n) f
set_option maxHeartbeats 8000000 in
theorem sectors_ok (a1 a2 : Option Addr) (p cp s cs : Nat) (sa : Nat → Option Addr) (sn sc : Nat → Nat) (sf : Nat → Nat → Int) (w : World) (hrows : RowsF w a2 s sa sn sc sf) (he : chErr 3 p s sn sf = 0) :
    Calls Try.prog 30 #[.agg #[.int .i64 3, .slice a1 p cp, .slice a2 s cs]] w (SectorsPost (sn 0) (sf 0) w) := by
  obtain ⟨_, hp, hs, hp2, _, hs1, hrow⟩ := chErr_zero he
  obtain rfl : s = 1 := hs1 rfl
  obtain ⟨hsn, hok⟩ := hrow 0 (by omega)
  have hck := fun w1 (hb : Below w.heap.size w w1) => check_any 3 a1 a2 p cp 1 cs sa sn sc sf w1 (hrows.below (Nat.le_refl _) hb)
  rw [he] at hck
  have HCK := Lib.hid hck
  obtain ⟨b, off, rfl, hq⟩ := hrows (by omega)
  obtain ⟨e1, _, hi⟩ := hq 0 (by omega)
  obtain ⟨n, hn⟩ : ∃ n, n = sn 0 := ⟨_, rfl⟩
  obtain ⟨f, hf⟩ : ∃ f, f = sf 0 := ⟨_, rfl⟩
  rw [← hn] at hsn hok e1 hi ⊢
  rw [← hf] at hok hi ⊢
  obtain ⟨b3, off3, hsa, hcell⟩ := hi (by omega)
  rw [hsa] at e1
  have hok' : okV n f := fun i hi => hok i hi
  obtain ⟨hA1, hA2⟩ := okV_sum hok' (Nat.le_refl n) (by omega)
  have HOK := Lib.hid hok'
  have HC := Lib.hid hcell
  subst hsn
  clear hck hrow hs1 hq hi hcell hok hok' he hn hf hrows hsa
  obtain ⟨ii, hii, hz0, hz1, hz2⟩ := info_parts (show (Try.prog.info? 61).map (fun i => (i.zero, i.size, i.bytes)) = some (some (.agg #[.int .i64 0, .int .i64 0, .int .i64 0]), 3, 24) by kernel_rfl)
  go_enter Try.func30, Try.ntmps30
  go_wp2_with fail
  refine (HCK.out _ ((Below.refl _ _).alloc (Nat.le_refl _) _)).mono ?_
  rintro e w1 ⟨rfl, hb⟩
  clear HCK
  have hs1 := hb.size
  simp at hs1
  have z1 : w.heap.size < w1.heap.size := by omega
  have p0 : w1.cell? ⟨w.heap.size, 0, none⟩ = some (.int .i64 3) := (hb.cell (by simp)).trans (by simp)
  have p2 : w1.cell? ⟨w.heap.size, 2, none⟩ = some (.slice (some ⟨b, off, none⟩) 1 cs) := (hb.cell (by simp)).trans (by simp)
  have hbel : Below w.heap.size w w1 := ((Below.refl _ _).alloc (Nat.le_refl _) _).trans (hb.mono (by simp))
  have d0 : w1.cell? ⟨b, off, none⟩ = some (.slice (some ⟨b3, off3, none⟩) n (sc 0)) := (hbel.cell (lt_of_cell e1)).trans e1
  have HC1 : Hid (∀ i, i < n → w1.cell? ⟨b3, off3 + i, none⟩ = some (.int .i64 (f i))) := Lib.hid fun i hi => (hbel.cell (lt_of_cell (HC.out i hi))).trans (HC.out i hi)
  clear hb e1 HC
  go_wp2_with fail
  go_loopw [5, 27] (fun ax ix wr => ∃ k : Nat, ix = .int .i64 k ∧ ax = .int .i64 (sumI f k) ∧ k ≤ n ∧ w1 = wr) (fun _ ix _ => n - (intOf ix).toNat)
  case atStart => exact ⟨0, rfl, rfl, by omega, rfl⟩
  case round =>
    obtain ⟨k, rfl, rfl, hk, rfl⟩ := hrel
    by_cases hkn : k < n
    · have d1 := HC1.out k hkn
      obtain ⟨hr1, hr2⟩ := HOK.out k hkn
      obtain ⟨hs1, hs2⟩ := okV_sum (fun i hi => HOK.out i (by omega)) hk hp2
      go_wp2_with fail
      go_roundw
      case rel => exact ⟨k + 1, by go_num, rfl, by omega, trivial⟩
      case measure => simp [intOf]; omega
    · obtain rfl : n = k := by omega
      obtain ⟨A, hA⟩ : ∃ A, A = sumI f n := ⟨_, rfl⟩
      unfold SectorsPost
      rw [← hA]
      rw [← hA] at hA1 hA2
      have HA := Lib.hid hA
      clear hA
      go_wp2_with fail
      go_loopw [8, 9, 10, 40] (fun ov sv fv ix wr => ∃ (k : Nat) (xs : List Value), ix = .int .i64 k ∧ sv = .int .i64 (sumI f k) ∧ fv = .int .i64 (toV A (sumI f k)) ∧ k ≤ n ∧ wr.ownsRow w1.heap.size 61 3 ov k xs ∧ SecX xs k A f ∧ Below w1.heap.size w1 wr) (fun _ _ _ ix _ => n - (intOf ix).toNat)
      case atStart => exact ⟨0, [], rfl, rfl, by rw [show sumI f 0 = 0 from rfl, toV_zero], by omega, World.ownsRow_nil _ _ _ _, SecX.nil _ _, Below.refl _ _⟩
      case round =>
        obtain ⟨k, xs, rfl, rfl, rfl, hk, hown, hsec, hbw⟩ := hrel
        have hsz := hbw.size
        by_cases hkn : k < n
        · have d1 := (hbw.cell (lt_of_cell (HC1.out k hkn))).trans (HC1.out k hkn)
          obtain ⟨hr1, hr2⟩ := HOK.out k hkn
          obtain ⟨hs1, hs2⟩ := okV_sum (fun i hi => HOK.out i (by omega)) hk hp2
          obtain ⟨ht1, ht2⟩ := okV_sum (k := k + 1) (fun i hi => HOK.out i (by omega)) (by omega) hp2
          have HS := Lib.hid hsec.step
          clear hsec
          obtain ⟨F, hF⟩ : ∃ F, F = toV A (sumI f k) := ⟨_, rfl⟩
          obtain ⟨T, hT⟩ : ∃ T, T = toV A (sumI f (k + 1)) := ⟨_, rfl⟩
          rw [← hF, ← hT] at HS
          rw [← hF]
          by_cases hA0 : 0 < A
          · have hq : (2 * (sumI f k + f k) * 3600 + A) / (2 * A) = T := by rw [hT]; exact toV_eq hA0
            have hT1 : 0 ≤ T := by rw [← hq]; exact Int.ediv_nonneg (by change 0 ≤ sumI f k + f k at ht1; omega) (by omega)
            have hT2 : T ≤ 1000000000000000000 := by
              rw [← hq]
              refine Int.le_trans (Int.ediv_le_self _ (by change 0 ≤ sumI f k + f k at ht1; omega)) ?_
              change sumI f k + f k ≤ 20000000000000 at ht2
              omega
            have HT := Lib.hid hT
            clear hF hT
            change 0 ≤ sumI f k + f k at ht1
            change sumI f k + f k ≤ 20000000000000 at ht2
            go_wp2_with (at_builtin; go_loud (refine wpList_append_own _ rfl _ _ 56 rfl (w1.heap.size) 61 ii (.agg #[.int .i64 0, .int .i64 0, .int .i64 0]) 3 24 Try.underlying56 hii hz0 hz1 hz2 rfl (by decide) _ _ _ rfl (hown.alloc _) ⟨wr.heap.size, 0, none⟩ 1 1 [.int .i64 (k : Int), .int .i64 F, .int .i64 T] rfl rfl ?x1 ?x2 ?x3 ?x4 ?x5 ?_))
            case x1 =>
              intro j u hj
              match j, hj with
              | 0, hj => simp at hj; subst hj; simp [Addr.add]
              | 1, hj => simp at hj; subst hj; simp [Addr.add]
              | 2, hj => simp at hj; subst hj; simp [Addr.add]
            case x2 => first | exact ⟨rfl, rfl, rfl⟩ | (intro u hu; simp at hu; rcases hu with rfl | rfl | rfl <;> rfl)
            case x3 => first | omega | (unfold maxLen; omega) | (simp [maxLen]; omega)
            case x4 => omega
            case x5 => first | omega | (simp; omega)
            intro v' w2 hown' hgrow _
            have hbw2 : Below w1.heap.size w1 w2 := below_grown hbw hsz hown hgrow
            clear hown hgrow hbw
            go_wp2_with fail
            go_roundw
            case rel => exact ⟨k + 1, _, by go_num, rfl, congrArg _ HT.out, by omega, hown', HS.out, hbw2⟩
            case measure => simp [intOf]; omega
          · have hT0 : T = 0 := by rw [hT]; unfold toV; rw [if_neg hA0]
            have HT := Lib.hid hT
            clear hF hT
            subst hT0
            change 0 ≤ sumI f k + f k at ht1
            change sumI f k + f k ≤ 20000000000000 at ht2
            go_wp2_with (at_builtin; go_loud (refine wpList_append_own _ rfl _ _ 56 rfl (w1.heap.size) 61 ii (.agg #[.int .i64 0, .int .i64 0, .int .i64 0]) 3 24 Try.underlying56 hii hz0 hz1 hz2 rfl (by decide) _ _ _ rfl (hown.alloc _) ⟨wr.heap.size, 0, none⟩ 1 1 [.int .i64 (k : Int), .int .i64 F, .int .i64 0] rfl rfl ?y1 ?y2 ?y3 ?y4 ?y5 ?_))
            case y2 => first | exact ⟨rfl, rfl, rfl⟩ | (intro u hu; simp at hu; rcases hu with rfl | rfl | rfl <;> rfl)
            case y3 => first | omega | (unfold maxLen; omega) | (simp [maxLen]; omega)
            case y4 => omega
            case y5 => first | omega | (simp; omega)
            intro v' w2 hown' hgrow _
            have hbw2 : Below w1.heap.size w1 w2 := below_grown hbw hsz hown hgrow
            clear hown hgrow hbw
            go_wp2_with fail
            go_roundw
            case rel => exact ⟨k + 1, _, by go_num, rfl, congrArg _ HT.out, by omega, hown', HS.out, hbw2⟩
            case measure => simp [intOf]; omega
        · obtain rfl : n = k := by omega
          go_wp2_with fail
          go_ret2
          refine ⟨hbel.trans (hbw.mono (by omega)), _, xs, rfl, ?_, by rw [← HA.out]; exact hsec⟩
          obtain ⟨g1, ⟨rfl, g2⟩ | ⟨g, cap, cur, rfl, hg, g3⟩⟩ := hown
          · exact ⟨g1, .inl ⟨rfl, g2⟩⟩
          · exact ⟨g1, .inr ⟨g, cap, cur, rfl, by omega, g3⟩⟩
end Go.Proofs.Ytpbnkkeplhgepaa.CH
