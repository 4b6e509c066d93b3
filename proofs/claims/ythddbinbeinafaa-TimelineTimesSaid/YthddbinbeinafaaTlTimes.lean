
/-
  times, and the law's bases.
-/
import Derived.Test.YthddbinbeinafaaTlCheck
import Derived.Test.YthddbinbeinafaaBlk
import Derived.WalkKit
import Derived.IntWalk
import Derived.Deep.QuietTactic
import Derived.BigQuiet
import Derived.Deep.CutRange
namespace Go.Law.Tl
open Go.Law Go.RowKit
/-- the cells of the times -/
def TF (L : Nat → Eff) (k : Nat) : Int := if k % 3 = 0 then tmC L (k / 3) else if k % 3 = 1 then tmF L (k / 3) else tmT L (k / 3)
theorem TF_at (L : Nat → Eff) (i : Nat) : TF L (i * 3) = tmC L i ∧ TF L (i * 3 + 1) = tmF L i ∧ TF L (i * 3 + 2) = tmT L i := by
  unfold TF
  refine ⟨?_, ?_, ?_⟩
  · rw [if_pos (by omega), show i * 3 / 3 = i by omega]
  · rw [if_neg (by omega), if_pos (by omega), show (i * 3 + 1) / 3 = i by omega]
  · rw [if_neg (by omega), if_neg (by omega), show (i * 3 + 2) / 3 = i by omega]
theorem row_own {w : World} {base : Nat} {e : TypeId} {s : Nat} {v : Value} {n : Nat} {F : Nat → Int} (h : RowI w base e s v n F) : ∃ xs, w.ownsRow base e s v n xs ∧ xs.length = n * s ∧ ∀ i, i < n * s → xs[i]? = some (.int .i64 (F i)) := by
  obtain ⟨xs, h1, h2⟩ := h
  exact ⟨xs, h1, h1.1, h2⟩
theorem cellNew {w : World} {cs : List Value} {e : TypeId} {j : Nat} {u : Value} (h : cs[j]? = some u) : (w.alloc (Obj.cells cs.toArray e)).cell? ⟨w.heap.size, j, none⟩ = some u := by
  rw [World.cell?_alloc_new]; simpa using h
/-- one time more -/
theorem tm_push {w : World} {base : Nat} {e : TypeId} {v : Value} {n : Nat} {L : Nat → Eff} {xs : List Value} {A B C : Int} (h : w.ownsRow base e 3 v (n + 1) (xs ++ [.int .i64 A, .int .i64 B, .int .i64 C])) (hl : xs.length = n * 3)
    (hx : ∀ i, i < n * 3 → xs[i]? = some (.int .i64 (TF L i))) (hA : tmC L n = A) (hB : tmF L n = B) (hC : tmT L n = C) : RowI w base e 3 v (n + 1) (TF L) :=
  RowI.push h hl hx (fun j hj => by
    have ht := TF_at L n
    match j, hj with
    | 0, _ => show some _ = _; rw [Nat.add_zero, ht.1, hA]
    | 1, _ => show some _ = _; rw [ht.2.1, hB]
    | 2, _ => show some _ = _; rw [ht.2.2, hC]) (fun _ _ => rfl)
end Go.Law.Tl
namespace Go.Proofs.Ythddbinbeinafaa.TL
open Go.RowKit Go.Law Go.Law.Tl Ref
set_option linter.unusedVariables false
set_option linter.unusedSimpArgs false
set_option maxRecDepth 100000
def TmPost (w : World) (n : Nat) (L : Nat → Eff) (e : Ending) (w' : World) : Prop := ∃ v, e = .returned v ∧ RowI w' w.heap.size 44 3 v n (TF L) ∧ Below w.heap.size w w'
set_option maxHeartbeats 8000000 in
theorem times_any (n : Nat) (L : Nat → Eff) (a : Option Addr) (c : Nat) (w : World) (ha : CellsF w a n 7 (fun i => (L i).V)) (hn : n ≤ 200) (hok : ∀ i, i < n → (L i).Ok) :
    Calls Try.prog 15 #[.slice a n c] w (TmPost w n L) := by
  have HA := Lib.hid ha
  have HOK := Lib.hid hok
  have hmax : ∀ x y : Int, (if x < y then y else x) = max x y := fun x y => by omega
  have HI := Lib.hid (info_parts (show (Try.prog.info? 44).map (fun i => (i.zero, i.size, i.bytes)) = some (some (.agg #[.int .i64 0, .int .i64 0, .int .i64 0]), 3, 24) by kernel_rfl))
  clear ha hok
  go_enter Try.func15, Try.ntmps15
  go_wp2_with fail
  go_loopw [3, 4, 5, 6, 12] (fun v cv bv ev iv wr => ∃ i : Nat, iv = .int .i64 i ∧ cv = .int .i64 (clk L i) ∧ bv = .int .i64 (bas L i) ∧ ev = .int .i64 (fin L i) ∧ i ≤ n ∧ RowI wr w.heap.size 44 3 v i (TF L) ∧ Below w.heap.size w wr) (fun _ _ _ _ iv _ => n - (intOf iv).toNat)
  case atStart => exact ⟨0, rfl, by rw [clk], by rw [bas], by rw [fin], by omega, RowI.nil _ _ _ _ _, Below.refl _ _⟩
  case round =>
    obtain ⟨i, rfl, rfl, rfl, rfl, hi, hrow, hbel⟩ := hrel
    have HBEL := Lib.hid hbel
    obtain ⟨av, cv, hv, _, _⟩ := RowI.slice hrow
    subst hv
    have HROW := Lib.hid hrow
    clear hrow hbel
    by_cases hin : i < n
    · have htb := tm_bd HOK.out hn hin
      have hok := HOK.out i hin
      have b1 := hok.start
      have b2 := hok.delay
      have b3 := hok.takes
      have hcb := clk_bd (L := L) i
      have hc1 : clk L (i + 1) = if (L i).start = 0 then clk L i + 1 else clk L i := by rw [clk]
      have hb1 : bas L (i + 1) = if (L i).start = 0 then 0 else if (L i).start = 2 then fin L i else bas L i := by rw [bas]
      obtain ⟨b, off, rfl, hcell⟩ := HA.out.below (Nat.le_refl _) HBEL.out (by omega)
      have d0 : wr.cell? ⟨b, off + i * 7 + 0, none⟩ = some ((L i).V 0) := hcell i (by omega) 0 (by omega)
      have d1 : wr.cell? ⟨b, off + i * 7 + 1, none⟩ = some ((L i).V 1) := hcell i (by omega) 1 (by omega)
      have d2 : wr.cell? ⟨b, off + i * 7 + 2, none⟩ = some ((L i).V 2) := hcell i (by omega) 2 (by omega)
      have d3 : wr.cell? ⟨b, off + i * 7 + 3, none⟩ = some ((L i).V 3) := hcell i (by omega) 3 (by omega)
      have d4 : wr.cell? ⟨b, off + i * 7 + 4, none⟩ = some ((L i).V 4) := hcell i (by omega) 4 (by omega)
      have d5 : wr.cell? ⟨b, off + i * 7 + 5, none⟩ = some ((L i).V 5) := hcell i (by omega) 5 (by omega)
      have d6 : wr.cell? ⟨b, off + i * 7 + 6, none⟩ = some ((L i).V 6) := hcell i (by omega) 6 (by omega)
      have zb := lt_of_cell d0
      simp only at zb
      clear hcell
      obtain ⟨p, hp⟩ : ∃ p, p = L i := ⟨_, rfl⟩
      rw [← hp] at d0 d1 d2 d3 d4 d5 d6 hc1 hb1 b1 b2 b3
      have HP := Lib.hid hp
      clear hp hok
      obtain ⟨I, K, S, D, T, X, Y⟩ := p
      simp only [Eff.V] at d0 d1 d2 d3 d4 d5 d6
      simp only at hc1 hb1 b1 b2 b3
      rw [Nat.add_zero] at d0
      obtain ⟨C, hC⟩ : ∃ y, y = clk L i := ⟨_, rfl⟩
      obtain ⟨B, hB⟩ : ∃ y, y = bas L i := ⟨_, rfl⟩
      obtain ⟨E, hE⟩ : ∃ y, y = fin L i := ⟨_, rfl⟩
      rw [← hC] at hc1 hcb ⊢
      rw [← hB, ← hE] at hb1 htb ⊢
      obtain ⟨_, _, _, _, _, htb1, htb2⟩ := htb
      have hs : S = 0 ∨ S = 1 ∨ S = 2 := by omega
      have HEE := Lib.hid hE
      rcases hs with rfl | rfl | rfl
      · have HC2 := Lib.hid (hc1.trans (if_pos rfl))
        have HB2 := Lib.hid (hb1.trans (if_pos rfl))
        have HE2 := Lib.hid (show (if (L i).start = 0 then (0 : Int) else fin L i) = 0 from if_pos (by rw [← HP.out]))
        clear hc1 hb1
        have H1 := Lib.hid (show tmC L i = C + 1 from HC2.out)
        have H2 := Lib.hid (show tmF L i = D by show bas L (i + 1) + (L i).delay = _; rw [HB2.out, ← HP.out]; (try simp only); (try omega))
        have H3 := Lib.hid (show tmT L i = D + T by show bas L (i + 1) + (L i).delay + (L i).takes = _; rw [HB2.out, ← HP.out]; (try simp only); (try omega))
        have HF2 := Lib.hid (show fin L (i + 1) = max (0) (D + T) by rw [fin_succ, H3.out, HE2.out])
        clear hE hB hC
        go_upto_region 12 with fail
        obtain ⟨wz, hwz⟩ : ∃ wz, wz = (wr.alloc (Obj.cells #[.int .i64 I, .int .i64 K, .int .i64 0, .int .i64 D, .int .i64 T, .int .i64 X, .int .i64 Y] 36)).alloc (Obj.cells #[.int .i64 (C + 1), .int .i64 (D), .int .i64 (D + T)] 44) := ⟨_, rfl⟩
        have qz : Blk wz (wr.heap.size + 1) #[.int .i64 (C + 1), .int .i64 (D), .int .i64 (D + T)] 44 := by
          have h := Blk.new (wr.alloc (Obj.cells #[.int .i64 I, .int .i64 K, .int .i64 0, .int .i64 D, .int .i64 T, .int .i64 X, .int .i64 Y] 36)) #[.int .i64 (C + 1), .int .i64 (D), .int .i64 (D + T)] 44
          rw [World.size_alloc] at h
          rw [hwz]; exact h
        have hb2 : Below wr.heap.size wr wz := by rw [hwz]; exact ((Below.refl _ _).alloc (Nat.le_refl _) _).alloc (by simp) _
        have HBZ := Lib.hid (HBEL.out.trans (hb2.mono HBEL.out.size))
        have hrz := HROW.out.below hb2 (Nat.le_refl _)
        replace HROW := Lib.hid hrz
        rw [← hwz]
        obtain ⟨q, hq⟩ : ∃ q, q = wr.heap.size + 1 := ⟨_, rfl⟩
        rw [← hq] at qz ⊢
        clear hwz hq hb2 hrz d0 d1 d2 d3 d4 d5 d6 zb
        have y0 := qz.cell (i := 0) rfl
        have y1 := qz.cell (i := 1) rfl
        have y2 := qz.cell (i := 2) rfl
        have zq := qz.lt
        clear qz
        go_upto_region 13 with fail
        obtain ⟨xs, hown0, hxl, hxs⟩ := row_own HROW.out
        have HX := Lib.hid hown0
        have HXL := Lib.hid hxl
        have HXS := Lib.hid hxs
        obtain ⟨ii, hii, hz0, hz1, hz2⟩ := HI.out
        clear hown0 hxl hxs
        go_wp2_with (at_builtin; go_loud (refine wpList_append_own _ rfl _ _ 30 rfl (w.heap.size) 44 ii _ 3 24 Try.underlying30 hii hz0 hz1 hz2 rfl (by decide) _ _ _ rfl (RowL.alloc HX.out _) ⟨wz.heap.size, 0, none⟩ 1 1 [.int .i64 (C + 1), .int .i64 (D), .int .i64 (D + T)] rfl rfl ?k1a ?k2a ?k3a ?k4a ?k5a ?_))
        try (case k1a =>
          intro j u hj
          have e : Addr.add ⟨wz.heap.size, 0, none⟩ j = ⟨wz.heap.size, j, none⟩ := by simp [Addr.add]; omega
          rw [e]
          exact cellNew (by simpa using hj))
        try (case k2a => intro u hu; simp at hu; rcases hu with rfl | rfl | rfl <;> rfl)
        try (case k3a => unfold maxLen; (try simp); (try omega))
        try (case k4a => (try simp); (try omega))
        try (case k5a => have := HBZ.out.size; (try simp); (try omega))
        intro v5 w5 hown hgrow _
        have HR5 := Lib.hid (tm_push (L := L) hown HXL.out HXS.out H1.out H2.out H3.out)
        have HB5 := Lib.hid (Below.grown (HBZ.out.alloc HBZ.out.size _) hgrow (by have := HBZ.out.size; simp; omega) (fun k hk => RowL.ge HX.out k hk))
        clear hown hgrow hii hz0 hz1 hz2 HX HXS HXL
        go_wp2_with fail
        go_roundw
        case rel => exact ⟨i + 1, by go_num, by rw [HC2.out], by rw [HB2.out], by rw [HF2.out], by omega, HR5.out, HB5.out⟩
        case measure => simp [intOf]; omega
      · have HC2 := Lib.hid (hc1.trans (if_neg (by decide)))
        have HB2 := Lib.hid ((hb1.trans (if_neg (by decide))).trans (if_neg (by decide)))
        have HE2 := Lib.hid (show (if (L i).start = 0 then (0 : Int) else fin L i) = E by rw [if_neg (by rw [← HP.out]; simp only; omega), hE])
        clear hc1 hb1
        have H1 := Lib.hid (show tmC L i = C from HC2.out)
        have H2 := Lib.hid (show tmF L i = B + D by show bas L (i + 1) + (L i).delay = _; rw [HB2.out, ← HP.out]; (try simp only); (try omega))
        have H3 := Lib.hid (show tmT L i = B + D + T by show bas L (i + 1) + (L i).delay + (L i).takes = _; rw [HB2.out, ← HP.out]; (try simp only); (try omega))
        have HF2 := Lib.hid (show fin L (i + 1) = max (E) (B + D + T) by rw [fin_succ, H3.out, HE2.out])
        clear hE hB hC
        go_upto_region 12 with fail
        obtain ⟨wz, hwz⟩ : ∃ wz, wz = (wr.alloc (Obj.cells #[.int .i64 I, .int .i64 K, .int .i64 1, .int .i64 D, .int .i64 T, .int .i64 X, .int .i64 Y] 36)).alloc (Obj.cells #[.int .i64 (C), .int .i64 (B + D), .int .i64 (B + D + T)] 44) := ⟨_, rfl⟩
        have qz : Blk wz (wr.heap.size + 1) #[.int .i64 (C), .int .i64 (B + D), .int .i64 (B + D + T)] 44 := by
          have h := Blk.new (wr.alloc (Obj.cells #[.int .i64 I, .int .i64 K, .int .i64 1, .int .i64 D, .int .i64 T, .int .i64 X, .int .i64 Y] 36)) #[.int .i64 (C), .int .i64 (B + D), .int .i64 (B + D + T)] 44
          rw [World.size_alloc] at h
          rw [hwz]; exact h
        have hb2 : Below wr.heap.size wr wz := by rw [hwz]; exact ((Below.refl _ _).alloc (Nat.le_refl _) _).alloc (by simp) _
        have HBZ := Lib.hid (HBEL.out.trans (hb2.mono HBEL.out.size))
        have hrz := HROW.out.below hb2 (Nat.le_refl _)
        replace HROW := Lib.hid hrz
        rw [← hwz]
        obtain ⟨q, hq⟩ : ∃ q, q = wr.heap.size + 1 := ⟨_, rfl⟩
        rw [← hq] at qz ⊢
        clear hwz hq hb2 hrz d0 d1 d2 d3 d4 d5 d6 zb
        have y0 := qz.cell (i := 0) rfl
        have y1 := qz.cell (i := 1) rfl
        have y2 := qz.cell (i := 2) rfl
        have zq := qz.lt
        clear qz
        go_upto_region 13 with fail
        obtain ⟨xs, hown0, hxl, hxs⟩ := row_own HROW.out
        have HX := Lib.hid hown0
        have HXL := Lib.hid hxl
        have HXS := Lib.hid hxs
        obtain ⟨ii, hii, hz0, hz1, hz2⟩ := HI.out
        clear hown0 hxl hxs
        go_wp2_with (at_builtin; go_loud (refine wpList_append_own _ rfl _ _ 30 rfl (w.heap.size) 44 ii _ 3 24 Try.underlying30 hii hz0 hz1 hz2 rfl (by decide) _ _ _ rfl (RowL.alloc HX.out _) ⟨wz.heap.size, 0, none⟩ 1 1 [.int .i64 (C), .int .i64 (B + D), .int .i64 (B + D + T)] rfl rfl ?k1b ?k2b ?k3b ?k4b ?k5b ?_))
        try (case k1b =>
          intro j u hj
          have e : Addr.add ⟨wz.heap.size, 0, none⟩ j = ⟨wz.heap.size, j, none⟩ := by simp [Addr.add]; omega
          rw [e]
          exact cellNew (by simpa using hj))
        try (case k2b => intro u hu; simp at hu; rcases hu with rfl | rfl | rfl <;> rfl)
        try (case k3b => unfold maxLen; (try simp); (try omega))
        try (case k4b => (try simp); (try omega))
        try (case k5b => have := HBZ.out.size; (try simp); (try omega))
        intro v5 w5 hown hgrow _
        have HR5 := Lib.hid (tm_push (L := L) hown HXL.out HXS.out H1.out H2.out H3.out)
        have HB5 := Lib.hid (Below.grown (HBZ.out.alloc HBZ.out.size _) hgrow (by have := HBZ.out.size; simp; omega) (fun k hk => RowL.ge HX.out k hk))
        clear hown hgrow hii hz0 hz1 hz2 HX HXS HXL
        go_wp2_with fail
        go_roundw
        case rel => exact ⟨i + 1, by go_num, by rw [HC2.out], by rw [HB2.out], by rw [HF2.out], by omega, HR5.out, HB5.out⟩
        case measure => simp [intOf]; omega
      · have HC2 := Lib.hid (hc1.trans (if_neg (by decide)))
        have HB2 := Lib.hid ((hb1.trans (if_neg (by decide))).trans (if_pos rfl))
        have HE2 := Lib.hid (show (if (L i).start = 0 then (0 : Int) else fin L i) = E by rw [if_neg (by rw [← HP.out]; simp only; omega), hE])
        clear hc1 hb1
        have H1 := Lib.hid (show tmC L i = C from HC2.out)
        have H2 := Lib.hid (show tmF L i = E + D by show bas L (i + 1) + (L i).delay = _; rw [HB2.out, ← HP.out]; (try simp only); (try omega))
        have H3 := Lib.hid (show tmT L i = E + D + T by show bas L (i + 1) + (L i).delay + (L i).takes = _; rw [HB2.out, ← HP.out]; (try simp only); (try omega))
        have HF2 := Lib.hid (show fin L (i + 1) = max (E) (E + D + T) by rw [fin_succ, H3.out, HE2.out])
        clear hE hB hC
        go_upto_region 12 with fail
        obtain ⟨wz, hwz⟩ : ∃ wz, wz = (wr.alloc (Obj.cells #[.int .i64 I, .int .i64 K, .int .i64 2, .int .i64 D, .int .i64 T, .int .i64 X, .int .i64 Y] 36)).alloc (Obj.cells #[.int .i64 (C), .int .i64 (E + D), .int .i64 (E + D + T)] 44) := ⟨_, rfl⟩
        have qz : Blk wz (wr.heap.size + 1) #[.int .i64 (C), .int .i64 (E + D), .int .i64 (E + D + T)] 44 := by
          have h := Blk.new (wr.alloc (Obj.cells #[.int .i64 I, .int .i64 K, .int .i64 2, .int .i64 D, .int .i64 T, .int .i64 X, .int .i64 Y] 36)) #[.int .i64 (C), .int .i64 (E + D), .int .i64 (E + D + T)] 44
          rw [World.size_alloc] at h
          rw [hwz]; exact h
        have hb2 : Below wr.heap.size wr wz := by rw [hwz]; exact ((Below.refl _ _).alloc (Nat.le_refl _) _).alloc (by simp) _
        have HBZ := Lib.hid (HBEL.out.trans (hb2.mono HBEL.out.size))
        have hrz := HROW.out.below hb2 (Nat.le_refl _)
        replace HROW := Lib.hid hrz
        rw [← hwz]
        obtain ⟨q, hq⟩ : ∃ q, q = wr.heap.size + 1 := ⟨_, rfl⟩
        rw [← hq] at qz ⊢
        clear hwz hq hb2 hrz d0 d1 d2 d3 d4 d5 d6 zb
        have y0 := qz.cell (i := 0) rfl
        have y1 := qz.cell (i := 1) rfl
        have y2 := qz.cell (i := 2) rfl
        have zq := qz.lt
        clear qz
        go_upto_region 13 with fail
        obtain ⟨xs, hown0, hxl, hxs⟩ := row_own HROW.out
        have HX := Lib.hid hown0
        have HXL := Lib.hid hxl
        have HXS := Lib.hid hxs
        obtain ⟨ii, hii, hz0, hz1, hz2⟩ := HI.out
        clear hown0 hxl hxs
        go_wp2_with (at_builtin; go_loud (refine wpList_append_own _ rfl _ _ 30 rfl (w.heap.size) 44 ii _ 3 24 Try.underlying30 hii hz0 hz1 hz2 rfl (by decide) _ _ _ rfl (RowL.alloc HX.out _) ⟨wz.heap.size, 0, none⟩ 1 1 [.int .i64 (C), .int .i64 (E + D), .int .i64 (E + D + T)] rfl rfl ?k1c ?k2c ?k3c ?k4c ?k5c ?_))
        try (case k1c =>
          intro j u hj
          have e : Addr.add ⟨wz.heap.size, 0, none⟩ j = ⟨wz.heap.size, j, none⟩ := by simp [Addr.add]; omega
          rw [e]
          exact cellNew (by simpa using hj))
        try (case k2c => intro u hu; simp at hu; rcases hu with rfl | rfl | rfl <;> rfl)
        try (case k3c => unfold maxLen; (try simp); (try omega))
        try (case k4c => (try simp); (try omega))
        try (case k5c => have := HBZ.out.size; (try simp); (try omega))
        intro v5 w5 hown hgrow _
        have HR5 := Lib.hid (tm_push (L := L) hown HXL.out HXS.out H1.out H2.out H3.out)
        have HB5 := Lib.hid (Below.grown (HBZ.out.alloc HBZ.out.size _) hgrow (by have := HBZ.out.size; simp; omega) (fun k hk => RowL.ge HX.out k hk))
        clear hown hgrow hii hz0 hz1 hz2 HX HXS HXL
        go_wp2_with fail
        go_roundw
        case rel => exact ⟨i + 1, by go_num, by rw [HC2.out], by rw [HB2.out], by rw [HF2.out], by omega, HR5.out, HB5.out⟩
        case measure => simp [intOf]; omega
    · obtain rfl : n = i := by omega
      go_wp2_with fail
      go_ret
      exact ⟨_, rfl, HROW.out, HBEL.out⟩
end Go.Proofs.Ythddbinbeinafaa.TL
