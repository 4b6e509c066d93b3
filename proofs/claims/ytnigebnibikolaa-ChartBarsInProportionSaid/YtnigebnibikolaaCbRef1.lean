


/-
  The law's bars of a stacked chart.
-/
import Derived.Test.YtnigebnibikolaaCbRef
namespace Go.Proofs.Ytnigebnibikolaa.CB
open Go.RowKit Go.Law Go.Law.Cb Ref CH
set_option linter.unusedVariables false
set_option linter.unusedSimpArgs false
set_option maxRecDepth 100000
set_option maxHeartbeats 8000000 in
theorem rb_1 (a1 a2 : Option Addr) (p cp s cs : Nat) (sa : Nat → Option Addr) (sn sc : Nat → Nat) (sf : Nat → Nat → Int) (lo hi st width height : Int) (w : World) (hrows : RowsF w a2 s sa sn sc sf) (he : chErr 1 p s sn sf = 0) (hk : SP.chk lo hi st = 0)
    (hin : InB width height lo hi (lowL (x0 1 sf) (extL 1 sf s p)) (highL (x0 1 sf) (extL 1 sf s p))) :
    Calls Try.prog 17 #[.agg #[.int .i64 1, .slice a1 p cp, .slice a2 s cs], .agg #[.int .i64 lo, .int .i64 hi, .int .i64 st], .int .i64 width, .int .i64 height] w (RefPost 1 lo hi width height sf p s w) := by
  obtain ⟨ii, hii, hz0, hz1, hz2⟩ := info_parts (show (Try.prog.info? 42).map (fun i => (i.zero, i.size, i.bytes)) = some (some (.agg #[.int .i64 0, .int .i64 0, .int .i64 0, .int .i64 0, .int .i64 0, .int .i64 0]), 6, 48) by kernel_rfl)
  obtain ⟨⟨hw1, hw2⟩, ⟨hh1, hh2⟩, hlow, hhigh⟩ := hin
  obtain ⟨_, hp0, hs0, hp2, hs2, _, hrow⟩ := chErr_zero he
  have ho := okV_of he
  have hfit : Fits 1 sf p s lo hi := ⟨hlow, hhigh⟩
  have HN := Lib.hid (fun q hq => (hrow q hq).1)
  have HCK := Lib.hid hk
  have hinr := (SP.chk_zero hk).1
  unfold SP.InR at hinr
  have HXB := Lib.hid (fun i (hi : i < p) => xF_bd (width := width) (p := p) (i := i) ⟨by omega, hw2⟩ hi)
  have hB0 := Bx.start (w := w) (kind := 1) (a1 := a1) (a2 := a2) (p := p) (cp := cp) (s := s) (cs := cs) (lo := lo) (hi := hi) (st := st) (height := height) 25 27 3
  have HR := Lib.hid (fun w1 (hb : Below w.heap.size w w1) => hrows.below (Nat.le_refl _) hb)
  have hmax : ∀ x y : Int, (if x < y then y else x) = max x y := fun x y => by omega
  have hmin : ∀ x y : Int, (if y < x then y else x) = min x y := fun x y => by omega
  have HVL := Lib.hid (hfit.vals1 ho)
  have HSM := Lib.hid (hfit.sums ho)
  have hz := hfit.zero (by decide)
  have hc1 : max 0 lo = 0 := by omega
  have hc2 : min 0 hi = 0 := by omega
  clear hlow hhigh hrow ho hfit he hk hrows
  have hp0i : ¬ (p : Int) = 0 := by omega
  obtain ⟨⟨hbel0, hlt0, ⟨p0, p1, p2⟩, q0, q1, q2⟩, hlt0', qh⟩ := id hB0
  go_enter Try.func17, Try.ntmps17
  go_wp2_with fail
  go_quiet (fail)
  obtain ⟨wz, hwz⟩ : ∃ wz, wz = (((w.alloc (.cells #[.int .i64 1, .slice a1 p cp, .slice a2 s cs] 25)).alloc (.cells #[.int .i64 lo, .int .i64 hi, .int .i64 st] 27)).alloc (.cells #[.int .i64 height] 3)).drewN nq := ⟨_, rfl⟩
  rw [← hwz]
  have hB1 : Bx w 1 a1 a2 p cp s cs lo hi st height wz := hB0.keep (by rw [hwz]; exact below_drewN (Below.refl _ _) nq)
  clear hwz hB0 p0 p1 p2 q0 q1 q2 qh hbel0 hlt0 hlt0'
  obtain ⟨⟨hbel0, hlt0, ⟨p0, p1, p2⟩, q0, q1, q2⟩, hlt0', qh⟩ := id hB1
  go_wp2_with fail
  go_loopw [10, 34] (fun ov iv wr => ∃ i : Nat, iv = .int .i64 i ∧ i ≤ p ∧ RowL wr (w.heap.size + 3) 42 6 ov (i * s) ((barsL 1 lo hi width height sf p s i).map (Value.int .i64)) ∧ Bx w 1 a1 a2 p cp s cs lo hi st height wr) (fun _ iv _ => p - (intOf iv).toNat)
  case atStart => exact ⟨0, rfl, by omega, by rw [Nat.zero_mul]; exact RowL.nil _ _ _ _, hB1⟩
  case round =>
    clear hB1 p0 p1 p2 q0 q1 q2 qh hbel0 hlt0 hlt0'
    obtain ⟨i, rfl, hi', hR, hB⟩ := hrel
    obtain ⟨⟨hbel, hlt, ⟨p0, p1, p2⟩, q0, q1, q2⟩, hlt', qh⟩ := id hB
    by_cases hip : i < p
    · have hx := HXB.out i hip
      have hm0 : 0 ≤ width * (i : Int) := Int.mul_nonneg (by omega) (by omega)
      have hm1 : width * (i : Int) ≤ 100000 * 200 := Int.mul_le_mul (by omega) (by omega) (by omega) (by omega)
      have hm2 : 0 ≤ width * ((i : Int) + 1) := Int.mul_nonneg (by omega) (by omega)
      have hm3 : width * ((i : Int) + 1) ≤ 100000 * 201 := Int.mul_le_mul (by omega) (by omega) (by omega) (by omega)
      have hx0 : width * (i : Int) / (p : Int) = xF width p i := rfl
      have hx1 : width * ((i : Int) + 1) / (p : Int) = xF width p (i + 1) := by unfold xF; rw [show (((i + 1 : Nat)) : Int) = (i : Int) + 1 by omega]
      have r1 : IntKind.i64.wrap (width * (i : Int)) = width * (i : Int) := IntWalk.i64_in _ ⟨by omega, by omega⟩
      have r2 : IntKind.i64.wrap ((i : Int) + 1) = (i : Int) + 1 := IntWalk.i64_in _ ⟨by omega, by omega⟩
      have r3 : IntKind.i64.wrap (width * ((i : Int) + 1)) = width * ((i : Int) + 1) := IntWalk.i64_in _ ⟨by omega, by omega⟩
      have r4 : (width * (i : Int)).tdiv (p : Int) = xF width p i := by rw [Int.tdiv_eq_ediv_of_nonneg hm0, hx0]
      have r5 : (width * ((i : Int) + 1)).tdiv (p : Int) = xF width p (i + 1) := by rw [Int.tdiv_eq_ediv_of_nonneg hm2, hx1]
      obtain ⟨X, hX⟩ : ∃ X, X = xF width p i := ⟨_, rfl⟩
      obtain ⟨X1, hX1⟩ : ∃ X1, X1 = xF width p (i + 1) := ⟨_, rfl⟩
      rw [← hX, ← hX1] at hx
      rw [← hX] at r4 hx0
      rw [← hX1] at r5 hx1
      have r6 : IntKind.i64.wrap X = X := IntWalk.i64_in _ ⟨by omega, by omega⟩
      have r7 : IntKind.i64.wrap X1 = X1 := IntWalk.i64_in _ ⟨by omega, by omega⟩
      have r8 : IntKind.i64.wrap (X1 - X) = X1 - X := IntWalk.i64_in _ ⟨by omega, by omega⟩
      have HX := Lib.hid hX
      have HX1 := Lib.hid hX1
      have HB := Lib.hid hB
      have HR2 := Lib.hid hR
      clear hX hX1 hB hR
      go_wp2_with fail
      go_quiet (fail)
      clear hx0 hx1 r1 r3 r4 r5 r6 r7 r8 hm0 hm1 hm2 hm3
      obtain ⟨wo, hwo⟩ : ∃ wo, wo = wr.drewN nq := ⟨_, rfl⟩
      rw [← hwo]
      have hB : Bx w 1 a1 a2 p cp s cs lo hi st height wo := HB.out.keep (by rw [hwo]; exact below_drewN (Below.refl _ _) nq)
      have hR := HR2.out.drewN nq
      rw [← hwo] at hR
      clear hwo HB HR2 p0 p1 p2 q0 q1 q2 qh hbel hlt hlt'
      obtain ⟨⟨hbel, hlt, ⟨p0, p1, p2⟩, q0, q1, q2⟩, hlt', qh⟩ := id hB
      have hn24 := mul_le_2400 (show i ≤ 200 by omega) hs2
      obtain ⟨n, hnn⟩ : ∃ n, n = i * s := ⟨_, rfl⟩
      have HNN := Lib.hid (show (i + 1) * s = n + s by rw [hnn, Nat.succ_mul])
      rw [← hnn] at hR hn24
      have HL := Lib.hid (show barsL 1 lo hi width height sf p s (i + 1) = barsL 1 lo hi width height sf p s i ++ barsP 1 lo hi width height sf p s i s from rfl)
      obtain ⟨xs, hxs⟩ : ∃ xs, xs = barsL 1 lo hi width height sf p s i := ⟨_, rfl⟩
      rw [← hxs] at hR HL
      clear hnn hxs
      go_wp2_with fail
      go_loopw [10, 16, 63] (fun ov fv kv wr => ∃ k : Nat, kv = .int .i64 k ∧ k ≤ s ∧ fv = .int .i64 (sumQ sf i k) ∧ RowL wr (w.heap.size + 3) 42 6 ov (n + k) ((xs ++ barsP 1 lo hi width height sf p s i k).map (Value.int .i64)) ∧ Bx w 1 a1 a2 p cp s cs lo hi st height wr) (fun _ _ kv _ => s - (intOf kv).toNat)
      case atStart => exact ⟨0, rfl, by omega, rfl, by rw [show barsP 1 lo hi width height sf p s i 0 = [] from rfl, List.append_nil]; exact hR, hB⟩
      case round =>
        clear hB hR p0 p1 p2 q0 q1 q2 qh hbel hlt hlt'
        obtain ⟨k, rfl, hks, rfl, hR, hB⟩ := hrel
        obtain ⟨⟨hbel, hlt, ⟨p0, p1, p2⟩, q0, q1, q2⟩, hlt', qh⟩ := id hB
        by_cases hk2 : k < s
        · obtain ⟨b, off, rfl, hqq⟩ := HR.out wr hbel hs0
          obtain ⟨d1, _, hi3⟩ := hqq k hk2
          have hsn := HN.out k hk2
          rw [hsn] at d1 hi3
          obtain ⟨b3, off3, hsa, hc3⟩ := hi3 (by omega)
          have d3 := hc3 i hip
          rw [hsa] at d1
          have hvk := HVL.out k hk2 i hip
          have hlen : n + k ≤ 3000 := by omega
          have z0 : w.heap.size < wr.heap.size := by omega
          have z1 : w.heap.size + 1 < wr.heap.size := by omega
          have z2 : w.heap.size + 1 + 1 < wr.heap.size := by omega
          have hYV := fun v (hv : lo ≤ v ∧ v ≤ hi) w1 (hb : Below (w.heap.size + 3) wr w1) => yb_any (w.heap.size + 1 + 1) (w.heap.size + 1) lo hi st height v w1 ((hb.cell (by simp)).trans qh) ((hb.cell (by simp)).trans q0) ((hb.cell (by simp)).trans q1) HCK.out hv ⟨hh1, hh2⟩
          have HYV := Lib.hid hYV
          have HBX := Lib.hid hB
          obtain ⟨v, hv⟩ : ∃ v, v = sf k i := ⟨_, rfl⟩
          have HV := Lib.hid hv
          rw [← hv] at d3 hvk
          clear hYV hB hv
          clear hqq hi3 hc3 hsn hsa
          have HL6 := Lib.hid (show xs ++ barsP 1 lo hi width height sf p s i (k + 1) = (xs ++ barsP 1 lo hi width height sf p s i k) ++ bar6 1 lo hi width height sf p s i k by rw [List.append_assoc]; rfl)
          have h6 : bar6 1 lo hi width height sf p s i k = [(k : Int), (i : Int), X + (X1 - X) / 4, yF lo hi height (sumQ sf i k + v), (X1 - X) * 3 / 4 - (X1 - X) / 4, yF lo hi height (sumQ sf i k) - yF lo hi height (sumQ sf i k + v)] := by
            unfold bar6; rw [if_neg (by decide), if_neg (by decide), HX.out, HX1.out, HV.out]
          obtain ⟨hx1, hx2⟩ := hx
          have hs1 := HSM.out i hip k hks
          have hs2' := HSM.out i hip (k + 1) (by omega)
          have hsq : sumQ sf i (k + 1) = sumQ sf i k + v := by rw [HV.out]; rfl
          rw [hsq] at hs2'
          have HSQ := Lib.hid hsq
          obtain ⟨S, hS⟩ : ∃ S, S = sumQ sf i k := ⟨_, rfl⟩
          rw [← hS] at hs1 hs2' h6 HSQ ⊢
          have hYS := HYV.out (S + v) (by omega)
          have hYF := HYV.out S (by omega)
          have hbs := y_bd (v := S + v) HCK.out (show lo ≤ S + v ∧ S + v ≤ hi by omega) ⟨hh1, hh2⟩
          have hbf := y_bd (v := S) HCK.out (show lo ≤ S ∧ S ≤ hi by omega) ⟨hh1, hh2⟩
          obtain ⟨Ys, hYs⟩ : ∃ Ys, Ys = yF lo hi height (S + v) := ⟨_, rfl⟩
          obtain ⟨Yf, hYf⟩ : ∃ Yf, Yf = yF lo hi height S := ⟨_, rfl⟩
          rw [← hYs] at hYS h6 hbs
          rw [← hYf] at hYF h6 hbf
          have HYS := Lib.hid hYS
          have HYF := Lib.hid hYF
          have H6 := Lib.hid h6
          have HHH := Lib.hid (show True from trivial)
          clear hYS hYF hYs hYf h6 HYV hsq hS r2
          go_wp2_with fail
          refine ((HYS).out _ ?k1).mono ?_
          case k1 =>
            (repeat' (with_reducible first | exact Below.refl _ _ | assumption | refine Below.setCell ?_ ?_ _ | refine Below.alloc ?_ ?_ _ | refine below_drewN ?_ _ | refine Below.drew ?_)) <;> first | omega | (simp; done) | (simp; omega)
          rintro e w5 ⟨rfl, m5, rfl⟩
          go_wp2_with fail
          refine ((HYF).out _ ?k2).mono ?_
          case k2 =>
            (repeat' (with_reducible first | exact Below.refl _ _ | assumption | refine Below.setCell ?_ ?_ _ | refine Below.alloc ?_ ?_ _ | refine below_drewN ?_ _ | refine Below.drew ?_)) <;> first | omega | (simp; done) | (simp; omega)
          rintro e w6 ⟨rfl, m6, rfl⟩
          go_wp2_with fail
          refine ((HYS).out _ ?k3).mono ?_
          case k3 =>
            (repeat' (with_reducible first | exact Below.refl _ _ | assumption | refine Below.setCell ?_ ?_ _ | refine Below.alloc ?_ ?_ _ | refine below_drewN ?_ _ | refine Below.drew ?_)) <;> first | omega | (simp; done) | (simp; omega)
          rintro e w7 ⟨rfl, m7, rfl⟩
          clear HYS HYF p0 p1 p2 q0 q1 q2 qh d1 d3
          go_wp2_with (at_builtin; go_loud (refine wpList_append_own _ rfl _ _ 32 rfl (w.heap.size + 3) 42 ii (.agg #[.int .i64 0, .int .i64 0, .int .i64 0, .int .i64 0, .int .i64 0, .int .i64 0]) 6 48 Try.underlying32 hii hz0 hz1 hz2 rfl (by decide) _ _ _ rfl (RowL.alloc (hR.below (show Below wr.heap.size wr _ by
              (repeat' (with_reducible first | exact Below.refl _ _ | refine Below.setCell ?_ ?_ _ | refine Below.alloc ?_ ?_ _ | refine below_drewN ?_ _ | refine Below.drew ?_)) <;> first | omega | (simp; done) | (simp; omega)) (Nat.le_refl _)) _) ⟨wr.heap.size + 1, 0, none⟩ 1 1 [.int .i64 (k : Int), .int .i64 (i : Int), .int .i64 (X + (X1 - X) / 4), .int .i64 (Ys), .int .i64 ((X1 - X) * 3 / 4 - (X1 - X) / 4), .int .i64 (Yf - Ys)] rfl rfl ?a1 ?a2 ?a3 ?a4 ?a5 ?_))
          case a1 =>
            intro j u hj
            have e : Addr.add ⟨wr.heap.size + 1, 0, none⟩ j = ⟨wr.heap.size + 1, j, none⟩ := by simp [Addr.add]; try omega
            rw [e]
            exact cell_new (by simp) (by simpa using hj)
          case a2 => first | exact ⟨rfl, rfl, rfl, rfl, rfl, rfl⟩ | (intro u hu; simp at hu; rcases hu with rfl | rfl | rfl | rfl | rfl | rfl <;> rfl)
          case a3 => unfold maxLen; omega
          case a4 => omega
          case a5 => simp; omega
          intro v' w5 hown hgrow _
          have hb5 : Below (w.heap.size + 3) wr w5 := by
            refine Below.grown (B := w.heap.size + 3) (a := wr) ?_ hgrow ?_ (fun k hk => (RowL.ge hR k hk))
            · (repeat' (with_reducible first | exact Below.refl _ _ | assumption | refine Below.setCell ?_ ?_ _ | refine Below.alloc ?_ ?_ _ | refine below_drewN ?_ _ | refine Below.drew ?_)) <;> first | omega | (simp; done) | (simp; omega)
            · simp; omega
          have HO5 := Lib.hid hown
          have HB5 := Lib.hid (HBX.out.keep hb5)
          clear hown hgrow hb5 hR
          go_wp2_with fail
          go_roundw
          case rel => exact ⟨k + 1, by go_num, by omega, by first | rfl | (rw [HSQ.out]), by rw [HL6.out, H6.out, ← Nat.add_assoc]; simpa [HHH.out] using HO5.out, HB5.out⟩
          case measure => simp [intOf]; omega
        · obtain rfl : k = s := by omega
          go_wp2_with fail
          go_roundw
          case rel => exact ⟨i + 1, by go_num, by omega, by rw [HL.out, HNN.out]; exact hR, hB⟩
          case measure => simp [intOf]; omega
    · obtain rfl : i = p := by omega
      go_wp2_with fail
      go_ret
      exact ⟨_, rfl, hR.mono (by omega), hbel⟩
end Go.Proofs.Ytnigebnibikolaa.CB
