


/-
  The law's bars.
-/
import Derived.Test.YtnigebnibikolaaCbBars2
namespace Go.Proofs.Ytnigebnibikolaa.CB
open Go.RowKit Go.Law Go.Law.Cb Ref CH
set_option linter.unusedVariables false
set_option linter.unusedSimpArgs false
set_option maxRecDepth 100000
theorem yb_any (h sb : Nat) (lo hi st height v : Int) (w : World) (c0 : w.cell? ⟨h, 0, none⟩ = some (.int .i64 height)) (c1 : w.cell? ⟨sb, 0, none⟩ = some (.int .i64 lo)) (c2 : w.cell? ⟨sb, 1, none⟩ = some (.int .i64 hi))
    (hc : SP.chk lo hi st = 0) (hv : lo ≤ v ∧ v ≤ hi) (hh : 1 ≤ height ∧ height ≤ 100000) :
    Calls Try.prog 50 #[.int .i64 v, .pointer (some ⟨h, 0, none⟩), .pointer (some ⟨sb, 0, none⟩)] w fun e w' => e = .returned (.int .i64 (yF lo hi height v)) ∧ ∃ k, w' = w.drewN k := by
  obtain ⟨h1, h2, _⟩ := SP.chk_zero hc
  unfold SP.InR at h1
  have hnb : 0 ≤ SP.near ((v - lo) * height) (hi - lo) ∧ SP.near ((v - lo) * height) (hi - lo) ≤ height := near_bd (by omega) (by omega) (by omega)
  have hm1 : 0 ≤ (v - lo) * height := Int.mul_nonneg (by omega) (by omega)
  have hm2 : (v - lo) * height ≤ 8000000000000 * 100000 := Int.mul_le_mul (by omega) (by omega) (by omega) (by omega)
  have hna := fun w1 => SP.near_any ((v - lo) * height) (hi - lo) w1 (by omega) (by omega)
  have HY := Lib.hid (show yF lo hi height v = height - SP.near ((v - lo) * height) (hi - lo) from rfl)
  obtain ⟨Y, hY⟩ : ∃ Y, Y = yF lo hi height v := ⟨_, rfl⟩
  obtain ⟨N, hN⟩ : ∃ N, N = SP.near ((v - lo) * height) (hi - lo) := ⟨_, rfl⟩
  rw [← hY] at HY ⊢
  rw [← hN] at HY hna hnb
  have HNA := Lib.hid hna
  have w1 : IntKind.i64.wrap (v - lo) = v - lo := IntWalk.i64_in _ ⟨by omega, by omega⟩
  have w2 : IntKind.i64.wrap ((v - lo) * height) = (v - lo) * height := IntWalk.i64_in _ ⟨by omega, by omega⟩
  have w3 : IntKind.i64.wrap (hi - lo) = hi - lo := IntWalk.i64_in _ ⟨by omega, by omega⟩
  have w4 : IntKind.i64.wrap (height - N) = height - N := IntWalk.i64_in _ ⟨by omega, by omega⟩
  clear hna hY hN h1
  go_enter Try.func50, Try.ntmps50
  go_wp2_with fail
  go_quiet ((go_at_call 51; exact quiet_call (HNA.out _)))
  go_wp2_with fail
  go_ret
  exact ⟨by rw [HY.out]; rfl, _, rfl⟩
/-- in a later world of a call that has boxed a chart, a scale and a height first -/
structure Bx (w : World) (kind : Int) (a1 a2 : Option Addr) (p cp s cs : Nat) (lo hi st height : Int) (wr : World) : Prop where
  cs : CS w kind a1 a2 p cp s cs lo hi st wr
  lt : w.heap.size + 2 < wr.heap.size
  h : wr.cell? ⟨w.heap.size + 2, 0, none⟩ = some (.int .i64 height)
section
variable {w : World} {kind : Int} {a1 a2 : Option Addr} {p cp s cs : Nat} {lo hi st height : Int} {wr w' : World}
theorem Bx.start (t1 t2 t3 : TypeId) : Bx w kind a1 a2 p cp s cs lo hi st height (((w.alloc (.cells #[.int .i64 kind, .slice a1 p cp, .slice a2 s cs] t1)).alloc (.cells #[.int .i64 lo, .int .i64 hi, .int .i64 st] t2)).alloc (.cells #[.int .i64 height] t3)) := by
  refine ⟨(CS.start t1 t2).alloc _, by simp, ?_⟩
  rw [show w.heap.size + 2 = ((w.alloc (.cells #[.int .i64 kind, .slice a1 p cp, .slice a2 s cs] t1)).alloc (.cells #[.int .i64 lo, .int .i64 hi, .int .i64 st] t2)).heap.size by simp, World.cell?_alloc_new]
  rfl
theorem Bx.keep (h : Bx w kind a1 a2 p cp s cs lo hi st height wr) (hb : Below (w.heap.size + 3) wr w') : Bx w kind a1 a2 p cp s cs lo hi st height w' :=
  ⟨⟨h.cs.bel.trans (hb.mono (by omega)), Nat.lt_of_lt_of_le h.cs.lt hb.size, h.cs.cel.below hb (by omega), (hb.cell (by simp)).trans h.cs.lo, (hb.cell (by simp)).trans h.cs.hi, (hb.cell (by simp)).trans h.cs.st⟩, Nat.lt_of_lt_of_le h.lt hb.size, (hb.cell (by simp)).trans h.h⟩
end
theorem cell_new {W : World} {cs : List Value} {t : TypeId} {b j : Nat} {u : Value} (hb : b = W.heap.size) (hj : cs[j]? = some u) : (W.alloc (.cells cs.toArray t)).cell? ⟨b, j, none⟩ = some u := by
  subst hb
  rw [World.cell?_alloc_new]
  simpa using hj
def RefPost (kind lo hi width height : Int) (sf : Nat → Nat → Int) (p s : Nat) (w : World) (e : Ending) (w' : World) : Prop :=
  ∃ v, e = .returned v ∧ RowL w' w.heap.size 42 6 v (p * s) ((barsL kind lo hi width height sf p s p).map (Value.int .i64)) ∧ Below w.heap.size w w'
set_option maxHeartbeats 8000000 in
theorem rb_0 (a1 a2 : Option Addr) (p cp s cs : Nat) (sa : Nat → Option Addr) (sn sc : Nat → Nat) (sf : Nat → Nat → Int) (lo hi st width height : Int) (w : World) (hrows : RowsF w a2 s sa sn sc sf) (he : chErr 0 p s sn sf = 0) (hk : SP.chk lo hi st = 0)
    (hin : InB width height lo hi (lowL (x0 0 sf) (extL 0 sf s p)) (highL (x0 0 sf) (extL 0 sf s p))) :
    Calls Try.prog 17 #[.agg #[.int .i64 0, .slice a1 p cp, .slice a2 s cs], .agg #[.int .i64 lo, .int .i64 hi, .int .i64 st], .int .i64 width, .int .i64 height] w (RefPost 0 lo hi width height sf p s w) := by
  obtain ⟨ii, hii, hz0, hz1, hz2⟩ := info_parts (show (Try.prog.info? 42).map (fun i => (i.zero, i.size, i.bytes)) = some (some (.agg #[.int .i64 0, .int .i64 0, .int .i64 0, .int .i64 0, .int .i64 0, .int .i64 0]), 6, 48) by kernel_rfl)
  obtain ⟨⟨hw1, hw2⟩, ⟨hh1, hh2⟩, hlow, hhigh⟩ := hin
  obtain ⟨_, hp0, hs0, hp2, hs2, _, hrow⟩ := chErr_zero he
  have ho := okV_of he
  have hfit : Fits 0 sf p s lo hi := ⟨hlow, hhigh⟩
  have HN := Lib.hid (fun q hq => (hrow q hq).1)
  have HCK := Lib.hid hk
  have hinr := (SP.chk_zero hk).1
  unfold SP.InR at hinr
  have HXB := Lib.hid (fun i (hi : i < p) => xF_bd (width := width) (p := p) (i := i) ⟨by omega, hw2⟩ hi)
  have hB0 := Bx.start (w := w) (kind := 0) (a1 := a1) (a2 := a2) (p := p) (cp := cp) (s := s) (cs := cs) (lo := lo) (hi := hi) (st := st) (height := height) 25 27 3
  have HR := Lib.hid (fun w1 (hb : Below w.heap.size w w1) => hrows.below (Nat.le_refl _) hb)
  have hmax : ∀ x y : Int, (if x < y then y else x) = max x y := fun x y => by omega
  have hmin : ∀ x y : Int, (if y < x then y else x) = min x y := fun x y => by omega
  have HVL := Lib.hid (hfit.vals (by decide))
  have hz := hfit.zero (by decide)
  have hc1 : max 0 lo = 0 := by omega
  have hc2 : min 0 hi = 0 := by omega
  clear hlow hhigh hrow ho hfit he hk hrows
  have hp0i : ¬ (p : Int) = 0 := by omega
  obtain ⟨⟨hbel0, hlt0, ⟨p0, p1, p2⟩, q0, q1, q2⟩, hlt0', qh⟩ := id hB0
  go_enter Try.func17, Try.ntmps17
  go_wp2_with fail
  go_quiet (fail)
  obtain ⟨wz, hwz⟩ : ∃ wz, wz = (((w.alloc (.cells #[.int .i64 0, .slice a1 p cp, .slice a2 s cs] 25)).alloc (.cells #[.int .i64 lo, .int .i64 hi, .int .i64 st] 27)).alloc (.cells #[.int .i64 height] 3)).drewN nq := ⟨_, rfl⟩
  rw [← hwz]
  have hB1 : Bx w 0 a1 a2 p cp s cs lo hi st height wz := hB0.keep (by rw [hwz]; exact below_drewN (Below.refl _ _) nq)
  clear hwz hB0 p0 p1 p2 q0 q1 q2 qh hbel0 hlt0 hlt0'
  obtain ⟨⟨hbel0, hlt0, ⟨p0, p1, p2⟩, q0, q1, q2⟩, hlt0', qh⟩ := id hB1
  go_wp2_with fail
  go_loopw [10, 34] (fun ov iv wr => ∃ i : Nat, iv = .int .i64 i ∧ i ≤ p ∧ RowL wr (w.heap.size + 3) 42 6 ov (i * s) ((barsL 0 lo hi width height sf p s i).map (Value.int .i64)) ∧ Bx w 0 a1 a2 p cp s cs lo hi st height wr) (fun _ iv _ => p - (intOf iv).toNat)
  case atStart => exact ⟨0, rfl, by omega, by rw [Nat.zero_mul]; exact RowL.nil _ _ _ _, hB1⟩
  case round =>
    clear hB1 p0 p1 p2 q0 q1 q2 qh hbel0 hlt0 hlt0'
    obtain ⟨i, rfl, hi', hR, hB⟩ := hrel
    obtain ⟨⟨hbel, hlt, ⟨p0, p1, p2⟩, q0, q1, q2⟩, hlt', qh⟩ := id hB
    by_cases hip : i < p
    · have hx := HXB.out i hip
      have hm0 : 0 ≤ width * (i : Int) := Int.mul_nonneg (by omega) (by omega)
      have hm1 : width * (i : Int) ≤ 100000 * 200 := Int.mul_le_mul (by omega) (by omega) (by omega) (by omega)
      have hm2 : 0 ≤ width * ((i : Int) + 1) := Int.mul_nonneg (by omega) (by omega)
      have hm3 : width * ((i : Int) + 1) ≤ 100000 * 201 := Int.mul_le_mul (by omega) (by omega) (by omega) (by omega)
      have hx0 : width * (i : Int) / (p : Int) = xF width p i := rfl
      have hx1 : width * ((i : Int) + 1) / (p : Int) = xF width p (i + 1) := by unfold xF; rw [show (((i + 1 : Nat)) : Int) = (i : Int) + 1 by omega]
      have r1 : IntKind.i64.wrap (width * (i : Int)) = width * (i : Int) := IntWalk.i64_in _ ⟨by omega, by omega⟩
      have r2 : IntKind.i64.wrap ((i : Int) + 1) = (i : Int) + 1 := IntWalk.i64_in _ ⟨by omega, by omega⟩
      have r3 : IntKind.i64.wrap (width * ((i : Int) + 1)) = width * ((i : Int) + 1) := IntWalk.i64_in _ ⟨by omega, by omega⟩
      have r4 : (width * (i : Int)).tdiv (p : Int) = xF width p i := by rw [Int.tdiv_eq_ediv_of_nonneg hm0, hx0]
      have r5 : (width * ((i : Int) + 1)).tdiv (p : Int) = xF width p (i + 1) := by rw [Int.tdiv_eq_ediv_of_nonneg hm2, hx1]
      obtain ⟨X, hX⟩ : ∃ X, X = xF width p i := ⟨_, rfl⟩
      obtain ⟨X1, hX1⟩ : ∃ X1, X1 = xF width p (i + 1) := ⟨_, rfl⟩
      rw [← hX, ← hX1] at hx
      rw [← hX] at r4 hx0
      rw [← hX1] at r5 hx1
      have r6 : IntKind.i64.wrap X = X := IntWalk.i64_in _ ⟨by omega, by omega⟩
      have r7 : IntKind.i64.wrap X1 = X1 := IntWalk.i64_in _ ⟨by omega, by omega⟩
      have r8 : IntKind.i64.wrap (X1 - X) = X1 - X := IntWalk.i64_in _ ⟨by omega, by omega⟩
      have HX := Lib.hid hX
      have HX1 := Lib.hid hX1
      have HB := Lib.hid hB
      have HR2 := Lib.hid hR
      clear hX hX1 hB hR
      go_wp2_with fail
      go_quiet (fail)
      clear hx0 hx1 r1 r3 r4 r5 r6 r7 r8 hm0 hm1 hm2 hm3
      obtain ⟨wo, hwo⟩ : ∃ wo, wo = wr.drewN nq := ⟨_, rfl⟩
      rw [← hwo]
      have hB : Bx w 0 a1 a2 p cp s cs lo hi st height wo := HB.out.keep (by rw [hwo]; exact below_drewN (Below.refl _ _) nq)
      have hR := HR2.out.drewN nq
      rw [← hwo] at hR
      clear hwo HB HR2 p0 p1 p2 q0 q1 q2 qh hbel hlt hlt'
      obtain ⟨⟨hbel, hlt, ⟨p0, p1, p2⟩, q0, q1, q2⟩, hlt', qh⟩ := id hB
      have hn24 := mul_le_2400 (show i ≤ 200 by omega) hs2
      obtain ⟨n, hnn⟩ : ∃ n, n = i * s := ⟨_, rfl⟩
      have HNN := Lib.hid (show (i + 1) * s = n + s by rw [hnn, Nat.succ_mul])
      rw [← hnn] at hR hn24
      have HL := Lib.hid (show barsL 0 lo hi width height sf p s (i + 1) = barsL 0 lo hi width height sf p s i ++ barsP 0 lo hi width height sf p s i s from rfl)
      obtain ⟨xs, hxs⟩ : ∃ xs, xs = barsL 0 lo hi width height sf p s i := ⟨_, rfl⟩
      rw [← hxs] at hR HL
      clear hnn hxs
      go_wp2_with fail
      go_loopw [10, 16, 63] (fun ov fv kv wr => ∃ k : Nat, kv = .int .i64 k ∧ k ≤ s ∧ fv = .int .i64 (0) ∧ RowL wr (w.heap.size + 3) 42 6 ov (n + k) ((xs ++ barsP 0 lo hi width height sf p s i k).map (Value.int .i64)) ∧ Bx w 0 a1 a2 p cp s cs lo hi st height wr) (fun _ _ kv _ => s - (intOf kv).toNat)
      case atStart => exact ⟨0, rfl, by omega, rfl, by rw [show barsP 0 lo hi width height sf p s i 0 = [] from rfl, List.append_nil]; exact hR, hB⟩
      case round =>
        clear hB hR p0 p1 p2 q0 q1 q2 qh hbel hlt hlt'
        obtain ⟨k, rfl, hks, rfl, hR, hB⟩ := hrel
        obtain ⟨⟨hbel, hlt, ⟨p0, p1, p2⟩, q0, q1, q2⟩, hlt', qh⟩ := id hB
        by_cases hk2 : k < s
        · obtain ⟨b, off, rfl, hqq⟩ := HR.out wr hbel hs0
          obtain ⟨d1, _, hi3⟩ := hqq k hk2
          have hsn := HN.out k hk2
          rw [hsn] at d1 hi3
          obtain ⟨b3, off3, hsa, hc3⟩ := hi3 (by omega)
          have d3 := hc3 i hip
          rw [hsa] at d1
          have hvk := HVL.out k hk2 i hip
          have hlen : n + k ≤ 3000 := by omega
          have z0 : w.heap.size < wr.heap.size := by omega
          have z1 : w.heap.size + 1 < wr.heap.size := by omega
          have z2 : w.heap.size + 1 + 1 < wr.heap.size := by omega
          have hYV := fun v (hv : lo ≤ v ∧ v ≤ hi) w1 (hb : Below (w.heap.size + 3) wr w1) => yb_any (w.heap.size + 1 + 1) (w.heap.size + 1) lo hi st height v w1 ((hb.cell (by simp)).trans qh) ((hb.cell (by simp)).trans q0) ((hb.cell (by simp)).trans q1) HCK.out hv ⟨hh1, hh2⟩
          have HYV := Lib.hid hYV
          have HBX := Lib.hid hB
          obtain ⟨v, hv⟩ : ∃ v, v = sf k i := ⟨_, rfl⟩
          have HV := Lib.hid hv
          rw [← hv] at d3 hvk
          clear hYV hB hv
          clear hqq hi3 hc3 hsn hsa
          have HL6 := Lib.hid (show xs ++ barsP 0 lo hi width height sf p s i (k + 1) = (xs ++ barsP 0 lo hi width height sf p s i k) ++ bar6 0 lo hi width height sf p s i k by rw [List.append_assoc]; rfl)
          have h6 : bar6 0 lo hi width height sf p s i k = [(k : Int), (i : Int), X + (X1 - X) * (2 * (k : Int) + 1) / (2 * (s : Int) + 2), min (yF lo hi height 0) (yF lo hi height v), (X1 - X) * (2 * (k : Int) + 3) / (2 * (s : Int) + 2) - (X1 - X) * (2 * (k : Int) + 1) / (2 * (s : Int) + 2), max (yF lo hi height 0) (yF lo hi height v) - min (yF lo hi height 0) (yF lo hi height v)] := by
            unfold bar6; rw [if_neg (by decide), if_pos rfl, HX.out, HX1.out, HV.out]
          have hA := ed_bd (long := X1 - X) (parts := 2 * s + 2) (i := 2 * k + 1) hx.2 (by omega) (by omega)
          have hC := ed_bd (long := X1 - X) (parts := 2 * s + 2) (i := 2 * k + 3) hx.2 (by omega) (by omega)
          rw [show edF (X1 - X) (2 * s + 2) (2 * k + 1) = (X1 - X) * (2 * (k : Int) + 1) / (2 * (s : Int) + 2) by unfold edF; rw [show ((2 * s + 2 : Nat) : Int) = 2 * (s : Int) + 2 by omega, show ((2 * k + 1 : Nat) : Int) = 2 * (k : Int) + 1 by omega]] at hA
          rw [show edF (X1 - X) (2 * s + 2) (2 * k + 3) = (X1 - X) * (2 * (k : Int) + 3) / (2 * (s : Int) + 2) by unfold edF; rw [show ((2 * s + 2 : Nat) : Int) = 2 * (s : Int) + 2 by omega, show ((2 * k + 3 : Nat) : Int) = 2 * (k : Int) + 3 by omega]] at hC
          obtain ⟨hx1, hx2⟩ := hx
          have m1 : 0 ≤ (X1 - X) * (2 * (k : Int) + 1) := Int.mul_nonneg hx2.1 (by omega)
          have m2 : (X1 - X) * (2 * (k : Int) + 1) ≤ 100000 * 30 := Int.mul_le_mul hx2.2 (by omega) (by omega) (by omega)
          have m3 : 0 ≤ (X1 - X) * (2 * (k : Int) + 3) := Int.mul_nonneg hx2.1 (by omega)
          have m4 : (X1 - X) * (2 * (k : Int) + 3) ≤ 100000 * 30 := Int.mul_le_mul hx2.2 (by omega) (by omega) (by omega)
          have g1 := Int.tdiv_eq_ediv_of_nonneg (b := 2 * (s : Int) + 2) m1
          have g2 := Int.tdiv_eq_ediv_of_nonneg (b := 2 * (s : Int) + 2) m3
          have g3 : IntKind.i64.wrap ((X1 - X) * (2 * (k : Int) + 1)) = (X1 - X) * (2 * (k : Int) + 1) := IntWalk.i64_in _ ⟨by omega, by omega⟩
          have g4 : IntKind.i64.wrap ((X1 - X) * (2 * (k : Int) + 3)) = (X1 - X) * (2 * (k : Int) + 3) := IntWalk.i64_in _ ⟨by omega, by omega⟩
          obtain ⟨A, hAA⟩ : ∃ A, A = (X1 - X) * (2 * (k : Int) + 1) / (2 * (s : Int) + 2) := ⟨_, rfl⟩
          obtain ⟨C, hCC⟩ : ∃ C, C = (X1 - X) * (2 * (k : Int) + 3) / (2 * (s : Int) + 2) := ⟨_, rfl⟩
          rw [← hAA] at hA g1 h6
          rw [← hCC] at hC g2 h6
          have hY0 := HYV.out 0 hz
          have hYv := HYV.out v hvk
          have hb0 := y_bd (v := 0) HCK.out hz ⟨hh1, hh2⟩
          have hbv := y_bd (v := v) HCK.out hvk ⟨hh1, hh2⟩
          obtain ⟨Y0, hY0'⟩ : ∃ Y0, Y0 = yF lo hi height 0 := ⟨_, rfl⟩
          obtain ⟨Yv, hYv'⟩ : ∃ Yv, Yv = yF lo hi height v := ⟨_, rfl⟩
          rw [← hY0'] at hY0 h6 hb0
          rw [← hYv'] at hYv h6 hbv
          have HY0 := Lib.hid hY0
          have HYv := Lib.hid hYv
          have H6 := Lib.hid h6
          have HHH := Lib.hid (show max Y0 Yv - min Y0 Yv = max (Y0 - Yv) (Yv - Y0) by omega)
          have g5 : IntKind.i64.wrap (2 * (k : Int)) = 2 * (k : Int) := IntWalk.i64_in _ ⟨by omega, by omega⟩
          have g6 : IntKind.i64.wrap (2 * (k : Int) + 1) = 2 * (k : Int) + 1 := IntWalk.i64_in _ ⟨by omega, by omega⟩
          have g7 : IntKind.i64.wrap (2 * (k : Int) + 3) = 2 * (k : Int) + 3 := IntWalk.i64_in _ ⟨by omega, by omega⟩
          have g8 : IntKind.i64.wrap (2 * (s : Int)) = 2 * (s : Int) := IntWalk.i64_in _ ⟨by omega, by omega⟩
          have g9 : IntKind.i64.wrap (2 * (s : Int) + 2) = 2 * (s : Int) + 2 := IntWalk.i64_in _ ⟨by omega, by omega⟩
          have ga : IntKind.i64.wrap A = A := IntWalk.i64_in _ ⟨by omega, by omega⟩
          have gc : IntKind.i64.wrap C = C := IntWalk.i64_in _ ⟨by omega, by omega⟩
          have gz : ¬ 2 * (s : Int) + 2 = 0 := by omega
          clear hY0 hYv hY0' hYv' h6 HYV hAA hCC
          go_wp2_with fail
          go_quiet (fail)
          clear g1 g2 g3 g4 g5 g6 g7 g8 g9 ga gc gz m1 m2 m3 m4 r2
          go_wp2_with fail
          refine ((HY0).out _ ?k1).mono ?_
          case k1 =>
            (repeat' (with_reducible first | exact Below.refl _ _ | assumption | refine Below.setCell ?_ ?_ _ | refine Below.alloc ?_ ?_ _ | refine below_drewN ?_ _ | refine Below.drew ?_)) <;> first | omega | (simp; done) | (simp; omega)
          rintro e w5 ⟨rfl, m5, rfl⟩
          go_wp2_with fail
          refine ((HYv).out _ ?k2).mono ?_
          case k2 =>
            (repeat' (with_reducible first | exact Below.refl _ _ | assumption | refine Below.setCell ?_ ?_ _ | refine Below.alloc ?_ ?_ _ | refine below_drewN ?_ _ | refine Below.drew ?_)) <;> first | omega | (simp; done) | (simp; omega)
          rintro e w6 ⟨rfl, m6, rfl⟩
          go_wp2_with fail
          refine ((HY0).out _ ?k3).mono ?_
          case k3 =>
            (repeat' (with_reducible first | exact Below.refl _ _ | assumption | refine Below.setCell ?_ ?_ _ | refine Below.alloc ?_ ?_ _ | refine below_drewN ?_ _ | refine Below.drew ?_)) <;> first | omega | (simp; done) | (simp; omega)
          rintro e w7 ⟨rfl, m7, rfl⟩
          go_wp2_with fail
          refine ((HYv).out _ ?k4).mono ?_
          case k4 =>
            (repeat' (with_reducible first | exact Below.refl _ _ | assumption | refine Below.setCell ?_ ?_ _ | refine Below.alloc ?_ ?_ _ | refine below_drewN ?_ _ | refine Below.drew ?_)) <;> first | omega | (simp; done) | (simp; omega)
          rintro e w8 ⟨rfl, m8, rfl⟩
          go_wp2_with fail
          refine ((HYv).out _ ?k5).mono ?_
          case k5 =>
            (repeat' (with_reducible first | exact Below.refl _ _ | assumption | refine Below.setCell ?_ ?_ _ | refine Below.alloc ?_ ?_ _ | refine below_drewN ?_ _ | refine Below.drew ?_)) <;> first | omega | (simp; done) | (simp; omega)
          rintro e w9 ⟨rfl, m9, rfl⟩
          go_wp2_with fail
          refine ((HY0).out _ ?k6).mono ?_
          case k6 =>
            (repeat' (with_reducible first | exact Below.refl _ _ | assumption | refine Below.setCell ?_ ?_ _ | refine Below.alloc ?_ ?_ _ | refine below_drewN ?_ _ | refine Below.drew ?_)) <;> first | omega | (simp; done) | (simp; omega)
          rintro e w10 ⟨rfl, m10, rfl⟩
          clear HY0 HYv p0 p1 p2 q0 q1 q2 qh d1 d3
          go_wp2_with (at_builtin; go_loud (refine wpList_append_own _ rfl _ _ 32 rfl (w.heap.size + 3) 42 ii (.agg #[.int .i64 0, .int .i64 0, .int .i64 0, .int .i64 0, .int .i64 0, .int .i64 0]) 6 48 Try.underlying32 hii hz0 hz1 hz2 rfl (by decide) _ _ _ rfl (RowL.alloc (hR.below (show Below wr.heap.size wr _ by
              (repeat' (with_reducible first | exact Below.refl _ _ | refine Below.setCell ?_ ?_ _ | refine Below.alloc ?_ ?_ _ | refine below_drewN ?_ _ | refine Below.drew ?_)) <;> first | omega | (simp; done) | (simp; omega)) (Nat.le_refl _)) _) ⟨wr.heap.size + 1, 0, none⟩ 1 1 [.int .i64 (k : Int), .int .i64 (i : Int), .int .i64 (X + A), .int .i64 (min Y0 Yv), .int .i64 (C - A), .int .i64 (max (Y0 - Yv) (Yv - Y0))] rfl rfl ?a1 ?a2 ?a3 ?a4 ?a5 ?_))
          case a1 =>
            intro j u hj
            have e : Addr.add ⟨wr.heap.size + 1, 0, none⟩ j = ⟨wr.heap.size + 1, j, none⟩ := by simp [Addr.add]; try omega
            rw [e]
            exact cell_new (by simp) (by simpa using hj)
          case a2 => first | exact ⟨rfl, rfl, rfl, rfl, rfl, rfl⟩ | (intro u hu; simp at hu; rcases hu with rfl | rfl | rfl | rfl | rfl | rfl <;> rfl)
          case a3 => unfold maxLen; omega
          case a4 => omega
          case a5 => simp; omega
          intro v' w5 hown hgrow _
          have hb5 : Below (w.heap.size + 3) wr w5 := by
            refine Below.grown (B := w.heap.size + 3) (a := wr) ?_ hgrow ?_ (fun k hk => (RowL.ge hR k hk))
            · (repeat' (with_reducible first | exact Below.refl _ _ | assumption | refine Below.setCell ?_ ?_ _ | refine Below.alloc ?_ ?_ _ | refine below_drewN ?_ _ | refine Below.drew ?_)) <;> first | omega | (simp; done) | (simp; omega)
            · simp; omega
          have HO5 := Lib.hid hown
          have HB5 := Lib.hid (HBX.out.keep hb5)
          clear hown hgrow hb5 hR
          go_wp2_with fail
          go_roundw
          case rel => exact ⟨k + 1, by go_num, by omega, by first | rfl | (rw [HSQ.out]), by rw [HL6.out, H6.out, ← Nat.add_assoc]; simpa [HHH.out] using HO5.out, HB5.out⟩
          case measure => simp [intOf]; omega
        · obtain rfl : k = s := by omega
          go_wp2_with fail
          go_roundw
          case rel => exact ⟨i + 1, by go_num, by omega, by rw [HL.out, HNN.out]; exact hR, hB⟩
          case measure => simp [intOf]; omega
    · obtain rfl : i = p := by omega
      go_wp2_with fail
      go_ret
      exact ⟨_, rfl, hR.mono (by omega), hbel⟩
end Go.Proofs.Ytnigebnibikolaa.CB
