

/-
  The law's bases.
-/
import Derived.Test.YthddbinbeinafaaTlTimes
namespace Go.Proofs.Ythddbinbeinafaa.TL
open Go.RowKit Go.Law Go.Law.Tl Ref
set_option linter.unusedVariables false
set_option linter.unusedSimpArgs false
set_option maxRecDepth 100000
set_option maxHeartbeats 8000000 in
theorem bases_any (n : Nat) (L : Nat → Eff) (a : Option Addr) (c : Nat) (w : World) (ha : CellsF w a n 7 (fun i => (L i).V)) (hn : n ≤ 200) (hok : ∀ i, i < n → (L i).Ok) :
    Calls Try.prog 9 #[.slice a n c] w (TmPost w n L) := by
  have HA := Lib.hid ha
  have HOK := Lib.hid hok
  have hmax : ∀ x y : Int, (if x < y then y else x) = max x y := fun x y => by omega
  have HI := Lib.hid (info_parts (show (Try.prog.info? 44).map (fun i => (i.zero, i.size, i.bytes)) = some (some (.agg #[.int .i64 0, .int .i64 0, .int .i64 0]), 3, 24) by kernel_rfl))
  clear ha hok
  go_enter Try.func9, Try.ntmps9
  go_wp2_with fail
  go_loopw [3, 4, 11] (fun v cv iv wr => ∃ i : Nat, iv = .int .i64 i ∧ cv = .int .i64 (clk L i) ∧ i ≤ n ∧ RowI wr w.heap.size 44 3 v i (TF L) ∧ Below w.heap.size w wr) (fun _ _ iv _ => n - (intOf iv).toNat)
  case atStart => exact ⟨0, rfl, by rw [clk], by omega, RowI.nil _ _ _ _ _, Below.refl _ _⟩
  case round =>
    obtain ⟨i, rfl, rfl, hi, hrow, hbel⟩ := hrel
    have HBEL := Lib.hid hbel
    obtain ⟨av, cv, hv, _, _⟩ := RowI.slice hrow
    subst hv
    have HROW := Lib.hid hrow
    clear hrow hbel
    by_cases hin : i < n
    · have htb := tm_bd HOK.out hn hin
      have hok := HOK.out i hin
      have b1 := hok.start
      have b2 := hok.delay
      have b3 := hok.takes
      have hcb := clk_bd (L := L) i
      have hc1 : clk L (i + 1) = if (L i).start = 0 then clk L i + 1 else clk L i := by rw [clk]
      have hb1 : bas L (i + 1) = if (L i).start = 0 then 0 else if (L i).start = 2 then fin L i else bas L i := by rw [bas]
      have HAA := HA
      obtain ⟨b, off, rfl, hcell⟩ := HA.out.below (Nat.le_refl _) HBEL.out (by omega)
      have d0 : wr.cell? ⟨b, off + i * 7 + 0, none⟩ = some ((L i).V 0) := hcell i (by omega) 0 (by omega)
      have d1 : wr.cell? ⟨b, off + i * 7 + 1, none⟩ = some ((L i).V 1) := hcell i (by omega) 1 (by omega)
      have d2 : wr.cell? ⟨b, off + i * 7 + 2, none⟩ = some ((L i).V 2) := hcell i (by omega) 2 (by omega)
      have d3 : wr.cell? ⟨b, off + i * 7 + 3, none⟩ = some ((L i).V 3) := hcell i (by omega) 3 (by omega)
      have d4 : wr.cell? ⟨b, off + i * 7 + 4, none⟩ = some ((L i).V 4) := hcell i (by omega) 4 (by omega)
      have d5 : wr.cell? ⟨b, off + i * 7 + 5, none⟩ = some ((L i).V 5) := hcell i (by omega) 5 (by omega)
      have d6 : wr.cell? ⟨b, off + i * 7 + 6, none⟩ = some ((L i).V 6) := hcell i (by omega) 6 (by omega)
      have zb := lt_of_cell d0
      simp only at zb
      clear hcell
      obtain ⟨p, hp⟩ : ∃ p, p = L i := ⟨_, rfl⟩
      rw [← hp] at d0 d1 d2 d3 d4 d5 d6 hc1 hb1 b1 b2 b3
      have HP := Lib.hid hp
      clear hp hok
      obtain ⟨I, K, S, D, T, X, Y⟩ := p
      simp only [Eff.V] at d0 d1 d2 d3 d4 d5 d6
      simp only at hc1 hb1 b1 b2 b3
      rw [Nat.add_zero] at d0
      obtain ⟨C, hC⟩ : ∃ y, y = clk L i := ⟨_, rfl⟩
      obtain ⟨B, hB⟩ : ∃ y, y = bas L i := ⟨_, rfl⟩
      obtain ⟨E, hE⟩ : ∃ y, y = fin L i := ⟨_, rfl⟩
      rw [← hC] at hc1 hcb ⊢
      rw [← hB, ← hE] at hb1 htb
      obtain ⟨_, _, _, _, _, htb1, htb2⟩ := htb
      have HEE := Lib.hid hE
      have HBB := Lib.hid hB
      have HCC := Lib.hid hC
      have hs : S = 0 ∨ S = 1 ∨ S = 2 := by omega
      clear hC hB hE
      obtain ⟨wz, hwz⟩ : ∃ wz, wz = wr.alloc (Obj.cells #[.int .i64 I, .int .i64 K, .int .i64 S, .int .i64 D, .int .i64 T, .int .i64 X, .int .i64 Y] 36) := ⟨_, rfl⟩
      have qz : Blk wz wr.heap.size #[.int .i64 I, .int .i64 K, .int .i64 S, .int .i64 D, .int .i64 T, .int .i64 X, .int .i64 Y] 36 := by rw [hwz]; exact Blk.new _ _ _
      have hb2 : Below wr.heap.size wr wz := by rw [hwz]; exact (Below.refl _ _).alloc (Nat.le_refl _) _
      have HBZ := Lib.hid (HBEL.out.trans (hb2.mono HBEL.out.size))
      have hrz := HROW.out.below hb2 (Nat.le_refl _)
      replace HROW := Lib.hid hrz
      go_upto_region 6 with fail
      rw [← hwz]
      obtain ⟨q, hq⟩ : ∃ q, q = wr.heap.size := ⟨_, rfl⟩
      rw [← hq] at qz ⊢
      clear hwz hq hb2 hrz d0 d1 d2 d3 d4 d5 d6 zb
      have y2 := qz.cell (i := 2) rfl
      have y3 := qz.cell (i := 3) rfl
      have y4 := qz.cell (i := 4) rfl
      have zq := qz.lt
      clear qz
      rcases hs with rfl | hs
      · have HC2 := Lib.hid (hc1.trans (if_pos rfl))
        have HB2 := Lib.hid (hb1.trans (if_pos rfl))
        clear hc1 hb1
        have H1 := Lib.hid (show tmC L i = C + 1 from HC2.out)
        have H2 := Lib.hid (show tmF L i = D by show bas L (i + 1) + (L i).delay = _; rw [HB2.out, ← HP.out]; (try simp only); (try omega))
        have H3 := Lib.hid (show tmT L i = D + T by show bas L (i + 1) + (L i).delay + (L i).takes = _; rw [HB2.out, ← HP.out]; (try simp only); (try omega))
        go_upto_region 18 with fail
        obtain ⟨xs, hown0, hxl, hxs⟩ := row_own HROW.out
        have HX := Lib.hid hown0
        have HXL := Lib.hid hxl
        have HXS := Lib.hid hxs
        obtain ⟨ii, hii, hz0, hz1, hz2⟩ := HI.out
        clear hown0 hxl hxs
        go_wp2_with (at_builtin; go_loud (refine wpList_append_own _ rfl _ _ 30 rfl (w.heap.size) 44 ii _ 3 24 Try.underlying30 hii hz0 hz1 hz2 rfl (by decide) _ _ _ rfl (RowL.alloc HX.out _) ⟨wz.heap.size, 0, none⟩ 1 1 [.int .i64 (C + 1), .int .i64 (D), .int .i64 (D + T)] rfl rfl ?k1a ?k2a ?k3a ?k4a ?k5a ?_))
        try (case k1a =>
          intro j u hj
          have e : Addr.add ⟨wz.heap.size, 0, none⟩ j = ⟨wz.heap.size, j, none⟩ := by simp [Addr.add]; omega
          rw [e]
          exact cellNew (by simpa using hj))
        try (case k2a => first | exact ⟨rfl, rfl, rfl⟩ | (intro u hu; simp at hu; rcases hu with rfl | rfl | rfl <;> rfl))
        try (case k3a => unfold maxLen; (try simp); (try omega))
        try (case k4a => (try simp); (try omega))
        try (case k5a => have := HBZ.out.size; (try simp); (try omega))
        intro v5 w5 hown hgrow _
        have HR5 := Lib.hid (tm_push (L := L) hown HXL.out HXS.out H1.out H2.out H3.out)
        have HB5 := Lib.hid (Below.grown (HBZ.out.alloc HBZ.out.size _) hgrow (by have := HBZ.out.size; simp; omega) (fun k hk => RowL.ge HX.out k hk))
        clear hown hgrow hii hz0 hz1 hz2 HX HXS HXL
        go_wp2_with fail
        go_roundw
        case rel => exact ⟨i + 1, by go_num, by rw [HC2.out], by omega, HR5.out, HB5.out⟩
        case measure => simp [intOf]; omega
      · have hs0 : (S == 0) = false := by simp; omega
        have HC2 := Lib.hid (hc1.trans (if_neg (by omega)))
        by_cases hi0 : i = 0
        · subst hi0
          have HB2 := Lib.hid (show bas L (0 + 1) = 0 by
            rw [hb1, if_neg (by omega), HEE.out, HBB.out, fin, bas]
            split <;> rfl)
          clear hc1 hb1 hs
          have H1 := Lib.hid (show tmC L 0 = C from HC2.out)
          have H2 := Lib.hid (show tmF L 0 = D by show bas L (0 + 1) + (L 0).delay = _; rw [HB2.out, ← HP.out]; (try simp only); (try omega))
          have H3 := Lib.hid (show tmT L 0 = D + T by show bas L (0 + 1) + (L 0).delay + (L 0).takes = _; rw [HB2.out, ← HP.out]; (try simp only); (try omega))
          go_upto_region 18 with fail
          obtain ⟨xs, hown0, hxl, hxs⟩ := row_own HROW.out
          have HX := Lib.hid hown0
          have HXL := Lib.hid hxl
          have HXS := Lib.hid hxs
          obtain ⟨ii, hii, hz0, hz1, hz2⟩ := HI.out
          clear hown0 hxl hxs
          go_wp2_with (at_builtin; go_loud (refine wpList_append_own _ rfl _ _ 30 rfl (w.heap.size) 44 ii _ 3 24 Try.underlying30 hii hz0 hz1 hz2 rfl (by decide) _ _ _ rfl (RowL.alloc HX.out _) ⟨wz.heap.size, 0, none⟩ 1 1 [.int .i64 (C), .int .i64 (D), .int .i64 (D + T)] rfl rfl ?k1b ?k2b ?k3b ?k4b ?k5b ?_))
          try (case k1b =>
            intro j u hj
            have e : Addr.add ⟨wz.heap.size, 0, none⟩ j = ⟨wz.heap.size, j, none⟩ := by simp [Addr.add]; omega
            rw [e]
            exact cellNew (by simpa using hj))
          try (case k2b => first | exact ⟨rfl, rfl, rfl⟩ | (intro u hu; simp at hu; rcases hu with rfl | rfl | rfl <;> rfl))
          try (case k3b => unfold maxLen; (try simp); (try omega))
          try (case k4b => (try simp); (try omega))
          try (case k5b => have := HBZ.out.size; (try simp); (try omega))
          intro v5 w5 hown hgrow _
          have HR5 := Lib.hid (tm_push (L := L) hown HXL.out HXS.out H1.out H2.out H3.out)
          have HB5 := Lib.hid (Below.grown (HBZ.out.alloc HBZ.out.size _) hgrow (by have := HBZ.out.size; simp; omega) (fun k hk => RowL.ge HX.out k hk))
          clear hown hgrow hii hz0 hz1 hz2 HX HXS HXL
          go_wp2_with fail
          go_roundw
          case rel => exact ⟨0 + 1, by go_num, by rw [HC2.out], by omega, HR5.out, HB5.out⟩
          case measure => simp [intOf]; omega
        · have hi1 : ((i : Int) == 0) = false := by simp; omega
          obtain ⟨g, cap, hv, hg1, hg2, _, _, _, hgc⟩ := RowI.at HROW.out (by omega)
          obtain ⟨rfl, rfl⟩ : av = some ⟨g, 0, none⟩ ∧ cv = cap := by cases hv; exact ⟨rfl, rfl⟩
          clear hv
          rcases hs with rfl | rfl
          · have HB2 := Lib.hid ((hb1.trans (if_neg (by decide))).trans (if_neg (by decide)))
            clear hc1 hb1
            obtain ⟨j, hj⟩ : ∃ j, j = i - 1 := ⟨_, rfl⟩
            obtain ⟨b', off', hbo, hcell⟩ := HA.out.below (Nat.le_refl _) HBZ.out (by omega)
            obtain ⟨rfl, rfl⟩ : b = b' ∧ off = off' := by injection hbo with h; injection h with h1 h2; exact ⟨h1, h2⟩
            have e3 : wz.cell? ⟨b, off + j * 7 + 3, none⟩ = some (.int .i64 (L j).delay) := hcell j (by omega) 3 (by omega)
            have e1 := hgc (j * 3 + 1) (by omega)
            rw [(TF_at L j).2.1] at e1
            have htj := tm_bd HOK.out hn (show j < n by omega)
            have hdj := (HOK.out j (by omega)).delay
            have hfb : tmF L j - (L j).delay = B := by
              show bas L (j + 1) + (L j).delay - (L j).delay = B
              rw [HBB.out, show i = j + 1 by omega]; omega
            obtain ⟨F1, hF1⟩ : ∃ y, y = tmF L j := ⟨_, rfl⟩
            obtain ⟨D1, hD1⟩ : ∃ y, y = (L j).delay := ⟨_, rfl⟩
            rw [← hF1] at e1 hfb htj
            rw [← hD1] at e3 hfb hdj
            have f1 : IntKind.i64.wrap ((i : Int) - 1) = (j : Int) := by rw [show (i : Int) - 1 = (j : Int) by omega]; exact IntWalk.i64_in _ ⟨by omega, by omega⟩
            have f2 : IntKind.i64.wrap (F1 - D1) = B := by rw [hfb]; exact IntWalk.i64_in _ ⟨by omega, by omega⟩
            have zg := lt_of_cell e1
            have zb := lt_of_cell e3
            simp only at zg zb
            have i1 : (j : Int) < (i : Int) := by omega
            have i2 : (j : Int) < (n : Int) := by omega
            have i3 : (0 : Int) ≤ (j : Int) := by omega
            have HF1 := Lib.hid f1
            have HF2 := Lib.hid f2
            clear hj hbo hcell hF1 hD1 hfb f1 f2 hgc htj
            go_upto_region 17 with fail
            have f1 := HF1.out
            have f2 := HF2.out
            go_quiet (fail)
            obtain ⟨wy, hwy⟩ : ∃ wy, wy = wz.drewN nq := ⟨_, rfl⟩
            rw [← hwy]
            have HBY := Lib.hid (show Below w.heap.size w wy by rw [hwy]; exact below_drewN HBZ.out _)
            have HRY := Lib.hid (show RowI wy w.heap.size 44 3 (.slice (some ⟨g, 0, none⟩) i cv) i (TF L) by rw [hwy]; exact HROW.out.drewN _)
            have v3 : wy.cell? ⟨q, 3, none⟩ = some (.int .i64 D) := by rw [hwy]; exact y3
            have v4 : wy.cell? ⟨q, 4, none⟩ = some (.int .i64 T) := by rw [hwy]; exact y4
            have zq2 : q < wy.heap.size := by rw [hwy]; exact zq
            clear hwy f1 f2 e1 e3 y2 y3 y4 zq zg zb HROW HBZ
            have HROW := HRY
            have HBZ := HBY
            clear HRY HBY
            obtain ⟨wz, hwz⟩ : ∃ wz, wz = wy := ⟨_, rfl⟩
            rw [← hwz] at HROW HBZ v3 v4 zq2 ⊢
            clear hwz
            have H1 := Lib.hid (show tmC L i = C from HC2.out)
            have H2 := Lib.hid (show tmF L i = B + D by show bas L (i + 1) + (L i).delay = _; rw [HB2.out, ← HP.out]; (try simp only); (try omega))
            have H3 := Lib.hid (show tmT L i = B + D + T by show bas L (i + 1) + (L i).delay + (L i).takes = _; rw [HB2.out, ← HP.out]; (try simp only); (try omega))
            go_upto_region 18 with fail
            obtain ⟨xs, hown0, hxl, hxs⟩ := row_own HROW.out
            have HX := Lib.hid hown0
            have HXL := Lib.hid hxl
            have HXS := Lib.hid hxs
            obtain ⟨ii, hii, hz0, hz1, hz2⟩ := HI.out
            clear hown0 hxl hxs
            go_wp2_with (at_builtin; go_loud (refine wpList_append_own _ rfl _ _ 30 rfl (w.heap.size) 44 ii _ 3 24 Try.underlying30 hii hz0 hz1 hz2 rfl (by decide) _ _ _ rfl (RowL.alloc HX.out _) ⟨wz.heap.size, 0, none⟩ 1 1 [.int .i64 (C), .int .i64 (B + D), .int .i64 (B + D + T)] rfl rfl ?k1c ?k2c ?k3c ?k4c ?k5c ?_))
            try (case k1c =>
              intro j u hj
              have e : Addr.add ⟨wz.heap.size, 0, none⟩ j = ⟨wz.heap.size, j, none⟩ := by simp [Addr.add]; omega
              rw [e]
              exact cellNew (by simpa using hj))
            try (case k2c => first | exact ⟨rfl, rfl, rfl⟩ | (intro u hu; simp at hu; rcases hu with rfl | rfl | rfl <;> rfl))
            try (case k3c => unfold maxLen; (try simp); (try omega))
            try (case k4c => (try simp); (try omega))
            try (case k5c => have := HBZ.out.size; (try simp); (try omega))
            intro v5 w5 hown hgrow _
            have HR5 := Lib.hid (tm_push (L := L) hown HXL.out HXS.out H1.out H2.out H3.out)
            have HB5 := Lib.hid (Below.grown (HBZ.out.alloc HBZ.out.size _) hgrow (by have := HBZ.out.size; simp; omega) (fun k hk => RowL.ge HX.out k hk))
            clear hown hgrow hii hz0 hz1 hz2 HX HXS HXL
            go_wp2_with fail
            go_roundw
            case rel => exact ⟨i + 1, by go_num, by rw [HC2.out], by omega, HR5.out, HB5.out⟩
            case measure => simp [intOf]; omega
          · have HB2 := Lib.hid ((hb1.trans (if_neg (by decide))).trans (if_pos rfl))
            clear hc1 hb1
            have hMX := Lib.hid (show E = mxE L C i by rw [HEE.out, HCC.out]; exact fin_mx i)
            go_wp2_with fail
            go_loopw [7, 18] (fun bv kv wy => ∃ k : Nat, kv = .int .i64 k ∧ bv = .int .i64 (mxE L C k) ∧ k ≤ i ∧ wy = wz) (fun _ kv _ => i - (intOf kv).toNat)
            case atStart => exact ⟨0, rfl, by rw [mxE], Nat.zero_le _, rfl⟩
            case round =>
              obtain ⟨k, rfl, rfl, hk, hw⟩ := hrel
              obtain rfl : wz = wr := hw.symm
              by_cases hki : k < i
              · have e0 := hgc (k * 3) (by omega)
                have e2 := hgc (k * 3 + 2) (by omega)
                rw [(TF_at L k).1] at e0
                rw [(TF_at L k).2.2] at e2
                have zg := lt_of_cell e0
                simp only at zg
                have hst : mxE L C (k + 1) = if tmC L k = C then max (mxE L C k) (tmT L k) else mxE L C k := by rw [mxE]
                obtain ⟨CK, hCK⟩ : ∃ y, y = tmC L k := ⟨_, rfl⟩
                obtain ⟨TK, hTK⟩ : ∃ y, y = tmT L k := ⟨_, rfl⟩
                obtain ⟨MK, hMK⟩ : ∃ y, y = mxE L C k := ⟨_, rfl⟩
                rw [← hCK] at e0 hst
                rw [← hTK] at e2 hst
                rw [← hMK] at hst ⊢
                have HST := Lib.hid hst
                clear hst hCK hTK hMK hgc
                by_cases hc : CK = C
                · have HST2 := Lib.hid (HST.out.trans (if_pos hc))
                  have hcb2 : (CK == C) = true := by simpa using hc
                  clear HST hc
                  go_wp2_with fail
                  go_roundw
                  case rel => exact ⟨k + 1, by go_num, by rw [HST2.out], by omega, trivial⟩
                  case measure => simp [intOf]; omega
                · have HST2 := Lib.hid (HST.out.trans (if_neg hc))
                  have hcb2 : (CK == C) = false := by simpa using hc
                  clear HST hc
                  go_wp2_with fail
                  go_roundw
                  case rel => exact ⟨k + 1, by go_num, by rw [HST2.out], by omega, trivial⟩
                  case measure => simp [intOf]; omega
              · obtain rfl : i = k := by omega
                rw [← hMX.out]
                clear hgc hki hk
                have H1 := Lib.hid (show tmC L i = C from HC2.out)
                have H2 := Lib.hid (show tmF L i = E + D by show bas L (i + 1) + (L i).delay = _; rw [HB2.out, ← HP.out]; (try simp only); (try omega))
                have H3 := Lib.hid (show tmT L i = E + D + T by show bas L (i + 1) + (L i).delay + (L i).takes = _; rw [HB2.out, ← HP.out]; (try simp only); (try omega))
                go_upto_region 18 with fail
                obtain ⟨xs, hown0, hxl, hxs⟩ := row_own HROW.out
                have HX := Lib.hid hown0
                have HXL := Lib.hid hxl
                have HXS := Lib.hid hxs
                obtain ⟨ii, hii, hz0, hz1, hz2⟩ := HI.out
                clear hown0 hxl hxs
                go_wp2_with (at_builtin; go_loud (refine wpList_append_own _ rfl _ _ 30 rfl (w.heap.size) 44 ii _ 3 24 Try.underlying30 hii hz0 hz1 hz2 rfl (by decide) _ _ _ rfl (RowL.alloc HX.out _) ⟨wz.heap.size, 0, none⟩ 1 1 [.int .i64 (C), .int .i64 (E + D), .int .i64 (E + D + T)] rfl rfl ?k1d ?k2d ?k3d ?k4d ?k5d ?_))
                try (case k1d =>
                  intro j u hj
                  have e : Addr.add ⟨wz.heap.size, 0, none⟩ j = ⟨wz.heap.size, j, none⟩ := by simp [Addr.add]; omega
                  rw [e]
                  exact cellNew (by simpa using hj))
                try (case k2d => first | exact ⟨rfl, rfl, rfl⟩ | (intro u hu; simp at hu; rcases hu with rfl | rfl | rfl <;> rfl))
                try (case k3d => unfold maxLen; (try simp); (try omega))
                try (case k4d => (try simp); (try omega))
                try (case k5d => have := HBZ.out.size; (try simp); (try omega))
                intro v5 w5 hown hgrow _
                have HR5 := Lib.hid (tm_push (L := L) hown HXL.out HXS.out H1.out H2.out H3.out)
                have HB5 := Lib.hid (Below.grown (HBZ.out.alloc HBZ.out.size _) hgrow (by have := HBZ.out.size; simp; omega) (fun k hk => RowL.ge HX.out k hk))
                clear hown hgrow hii hz0 hz1 hz2 HX HXS HXL
                go_wp2_with fail
                go_roundw
                case rel => exact ⟨i + 1, by go_num, by rw [HC2.out], by omega, HR5.out, HB5.out⟩
                case measure => simp [intOf]; omega
    · obtain rfl : n = i := by omega
      go_wp2_with fail
      go_ret
      exact ⟨_, rfl, HROW.out, HBEL.out⟩
end Go.Proofs.Ythddbinbeinafaa.TL
