


/-
  The law's bars of a chart of lines.
-/
import Derived.Test.YtnigebnibikolaaCbRef
namespace Go.Proofs.Ytnigebnibikolaa.CB
open Go.RowKit Go.Law Go.Law.Cb Ref CH
set_option linter.unusedVariables false
set_option linter.unusedSimpArgs false
set_option maxRecDepth 100000
set_option maxHeartbeats 8000000 in
theorem rb_2 (a1 a2 : Option Addr) (p cp s cs : Nat) (sa : Nat → Option Addr) (sn sc : Nat → Nat) (sf : Nat → Nat → Int) (lo hi st width height : Int) (w : World) (hrows : RowsF w a2 s sa sn sc sf) (he : chErr 2 p s sn sf = 0) (hk : SP.chk lo hi st = 0)
    (hin : InB width height lo hi (lowL (x0 2 sf) (extL 2 sf s p)) (highL (x0 2 sf) (extL 2 sf s p))) :
    Calls Try.prog 17 #[.agg #[.int .i64 2, .slice a1 p cp, .slice a2 s cs], .agg #[.int .i64 lo, .int .i64 hi, .int .i64 st], .int .i64 width, .int .i64 height] w (RefPost 2 lo hi width height sf p s w) := by
  obtain ⟨ii, hii, hz0, hz1, hz2⟩ := info_parts (show (Try.prog.info? 42).map (fun i => (i.zero, i.size, i.bytes)) = some (some (.agg #[.int .i64 0, .int .i64 0, .int .i64 0, .int .i64 0, .int .i64 0, .int .i64 0]), 6, 48) by kernel_rfl)
  obtain ⟨⟨hw1, hw2⟩, ⟨hh1, hh2⟩, hlow, hhigh⟩ := hin
  obtain ⟨_, hp0, hs0, hp2, hs2, _, hrow⟩ := chErr_zero he
  have ho := okV_of he
  have hfit : Fits 2 sf p s lo hi := ⟨hlow, hhigh⟩
  have HN := Lib.hid (fun q hq => (hrow q hq).1)
  have HCK := Lib.hid hk
  have hinr := (SP.chk_zero hk).1
  unfold SP.InR at hinr
  have HXB := Lib.hid (fun i (hi : i < p) => xF_bd (width := width) (p := p) (i := i) ⟨by omega, hw2⟩ hi)
  have hB0 := Bx.start (w := w) (kind := 2) (a1 := a1) (a2 := a2) (p := p) (cp := cp) (s := s) (cs := cs) (lo := lo) (hi := hi) (st := st) (height := height) 25 27 3
  have HR := Lib.hid (fun w1 (hb : Below w.heap.size w w1) => hrows.below (Nat.le_refl _) hb)
  have hmax : ∀ x y : Int, (if x < y then y else x) = max x y := fun x y => by omega
  have hmin : ∀ x y : Int, (if y < x then y else x) = min x y := fun x y => by omega
  have HVL := Lib.hid (hfit.vals (by decide))
  clear hlow hhigh hrow ho hfit he hk hrows
  have hp0i : ¬ (p : Int) = 0 := by omega
  obtain ⟨⟨hbel0, hlt0, ⟨p0, p1, p2⟩, q0, q1, q2⟩, hlt0', qh⟩ := id hB0
  go_enter Try.func17, Try.ntmps17
  go_wp2_with fail
  go_quiet (fail)
  obtain ⟨wz, hwz⟩ : ∃ wz, wz = (((w.alloc (.cells #[.int .i64 2, .slice a1 p cp, .slice a2 s cs] 25)).alloc (.cells #[.int .i64 lo, .int .i64 hi, .int .i64 st] 27)).alloc (.cells #[.int .i64 height] 3)).drewN nq := ⟨_, rfl⟩
  rw [← hwz]
  have hB1 : Bx w 2 a1 a2 p cp s cs lo hi st height wz := hB0.keep (by rw [hwz]; exact below_drewN (Below.refl _ _) nq)
  clear hwz hB0 p0 p1 p2 q0 q1 q2 qh hbel0 hlt0 hlt0'
  obtain ⟨⟨hbel0, hlt0, ⟨p0, p1, p2⟩, q0, q1, q2⟩, hlt0', qh⟩ := id hB1
  go_wp2_with fail
  go_loopw [10, 34] (fun ov iv wr => ∃ i : Nat, iv = .int .i64 i ∧ i ≤ p ∧ RowL wr (w.heap.size + 3) 42 6 ov (i * s) ((barsL 2 lo hi width height sf p s i).map (Value.int .i64)) ∧ Bx w 2 a1 a2 p cp s cs lo hi st height wr) (fun _ iv _ => p - (intOf iv).toNat)
  case atStart => exact ⟨0, rfl, by omega, by rw [Nat.zero_mul]; exact RowL.nil _ _ _ _, hB1⟩
  case round =>
    clear hB1 p0 p1 p2 q0 q1 q2 qh hbel0 hlt0 hlt0'
    obtain ⟨i, rfl, hi', hR, hB⟩ := hrel
    obtain ⟨⟨hbel, hlt, ⟨p0, p1, p2⟩, q0, q1, q2⟩, hlt', qh⟩ := id hB
    by_cases hip : i < p
    · have hx := HXB.out i hip
      have hm0 : 0 ≤ width * (i : Int) := Int.mul_nonneg (by omega) (by omega)
      have hm1 : width * (i : Int) ≤ 100000 * 200 := Int.mul_le_mul (by omega) (by omega) (by omega) (by omega)
      have hm2 : 0 ≤ width * ((i : Int) + 1) := Int.mul_nonneg (by omega) (by omega)
      have hm3 : width * ((i : Int) + 1) ≤ 100000 * 201 := Int.mul_le_mul (by omega) (by omega) (by omega) (by omega)
      have hx0 : width * (i : Int) / (p : Int) = xF width p i := rfl
      have hx1 : width * ((i : Int) + 1) / (p : Int) = xF width p (i + 1) := by unfold xF; rw [show (((i + 1 : Nat)) : Int) = (i : Int) + 1 by omega]
      have r1 : IntKind.i64.wrap (width * (i : Int)) = width * (i : Int) := IntWalk.i64_in _ ⟨by omega, by omega⟩
      have r2 : IntKind.i64.wrap ((i : Int) + 1) = (i : Int) + 1 := IntWalk.i64_in _ ⟨by omega, by omega⟩
      have r3 : IntKind.i64.wrap (width * ((i : Int) + 1)) = width * ((i : Int) + 1) := IntWalk.i64_in _ ⟨by omega, by omega⟩
      have r4 : (width * (i : Int)).tdiv (p : Int) = xF width p i := by rw [Int.tdiv_eq_ediv_of_nonneg hm0, hx0]
      have r5 : (width * ((i : Int) + 1)).tdiv (p : Int) = xF width p (i + 1) := by rw [Int.tdiv_eq_ediv_of_nonneg hm2, hx1]
      obtain ⟨X, hX⟩ : ∃ X, X = xF width p i := ⟨_, rfl⟩
      obtain ⟨X1, hX1⟩ : ∃ X1, X1 = xF width p (i + 1) := ⟨_, rfl⟩
      rw [← hX, ← hX1] at hx
      rw [← hX] at r4 hx0
      rw [← hX1] at r5 hx1
      have r6 : IntKind.i64.wrap X = X := IntWalk.i64_in _ ⟨by omega, by omega⟩
      have r7 : IntKind.i64.wrap X1 = X1 := IntWalk.i64_in _ ⟨by omega, by omega⟩
      have r8 : IntKind.i64.wrap (X1 - X) = X1 - X := IntWalk.i64_in _ ⟨by omega, by omega⟩
      have HX := Lib.hid hX
      have HX1 := Lib.hid hX1
      have HB := Lib.hid hB
      have HR2 := Lib.hid hR
      clear hX hX1 hB hR
      go_wp2_with fail
      go_quiet (fail)
      clear hx0 hx1 r1 r3 r4 r5 r6 r7 r8 hm0 hm1 hm2 hm3
      obtain ⟨wo, hwo⟩ : ∃ wo, wo = wr.drewN nq := ⟨_, rfl⟩
      rw [← hwo]
      have hB : Bx w 2 a1 a2 p cp s cs lo hi st height wo := HB.out.keep (by rw [hwo]; exact below_drewN (Below.refl _ _) nq)
      have hR := HR2.out.drewN nq
      rw [← hwo] at hR
      clear hwo HB HR2 p0 p1 p2 q0 q1 q2 qh hbel hlt hlt'
      obtain ⟨⟨hbel, hlt, ⟨p0, p1, p2⟩, q0, q1, q2⟩, hlt', qh⟩ := id hB
      have hn24 := mul_le_2400 (show i ≤ 200 by omega) hs2
      obtain ⟨n, hnn⟩ : ∃ n, n = i * s := ⟨_, rfl⟩
      have HNN := Lib.hid (show (i + 1) * s = n + s by rw [hnn, Nat.succ_mul])
      rw [← hnn] at hR hn24
      have HL := Lib.hid (show barsL 2 lo hi width height sf p s (i + 1) = barsL 2 lo hi width height sf p s i ++ barsP 2 lo hi width height sf p s i s from rfl)
      obtain ⟨xs, hxs⟩ : ∃ xs, xs = barsL 2 lo hi width height sf p s i := ⟨_, rfl⟩
      rw [← hxs] at hR HL
      clear hnn hxs
      go_wp2_with fail
      go_loopw [10, 16, 63] (fun ov fv kv wr => ∃ k : Nat, kv = .int .i64 k ∧ k ≤ s ∧ fv = .int .i64 (min (max 0 lo) hi) ∧ RowL wr (w.heap.size + 3) 42 6 ov (n + k) ((xs ++ barsP 2 lo hi width height sf p s i k).map (Value.int .i64)) ∧ Bx w 2 a1 a2 p cp s cs lo hi st height wr) (fun _ _ kv _ => s - (intOf kv).toNat)
      case atStart => exact ⟨0, rfl, by omega, rfl, by rw [show barsP 2 lo hi width height sf p s i 0 = [] from rfl, List.append_nil]; exact hR, hB⟩
      case round =>
        clear hB hR p0 p1 p2 q0 q1 q2 qh hbel hlt hlt'
        obtain ⟨k, rfl, hks, rfl, hR, hB⟩ := hrel
        obtain ⟨⟨hbel, hlt, ⟨p0, p1, p2⟩, q0, q1, q2⟩, hlt', qh⟩ := id hB
        by_cases hk2 : k < s
        · obtain ⟨b, off, rfl, hqq⟩ := HR.out wr hbel hs0
          obtain ⟨d1, _, hi3⟩ := hqq k hk2
          have hsn := HN.out k hk2
          rw [hsn] at d1 hi3
          obtain ⟨b3, off3, hsa, hc3⟩ := hi3 (by omega)
          have d3 := hc3 i hip
          rw [hsa] at d1
          have hvk := HVL.out k hk2 i hip
          have hlen : n + k ≤ 3000 := by omega
          have z0 : w.heap.size < wr.heap.size := by omega
          have z1 : w.heap.size + 1 < wr.heap.size := by omega
          have z2 : w.heap.size + 1 + 1 < wr.heap.size := by omega
          have hYV := fun v (hv : lo ≤ v ∧ v ≤ hi) w1 (hb : Below (w.heap.size + 3) wr w1) => yb_any (w.heap.size + 1 + 1) (w.heap.size + 1) lo hi st height v w1 ((hb.cell (by simp)).trans qh) ((hb.cell (by simp)).trans q0) ((hb.cell (by simp)).trans q1) HCK.out hv ⟨hh1, hh2⟩
          have HYV := Lib.hid hYV
          have HBX := Lib.hid hB
          obtain ⟨v, hv⟩ : ∃ v, v = sf k i := ⟨_, rfl⟩
          have HV := Lib.hid hv
          rw [← hv] at d3 hvk
          clear hYV hB hv
          clear hqq hi3 hc3 hsn hsa
          have HL6 := Lib.hid (show xs ++ barsP 2 lo hi width height sf p s i (k + 1) = (xs ++ barsP 2 lo hi width height sf p s i k) ++ bar6 2 lo hi width height sf p s i k by rw [List.append_assoc]; rfl)
          have h6 : bar6 2 lo hi width height sf p s i k = [(k : Int), (i : Int), (X + X1) / 2, yF lo hi height v, 0, 0] := by
            unfold bar6; rw [if_pos rfl, HX.out, HX1.out, HV.out]
          have HSQ := Lib.hid (show True from trivial)
          have HHH := Lib.hid (show True from trivial)
          obtain ⟨hx1, hx2⟩ := hx
          have hYv := HYV.out v hvk
          have hbv := y_bd (v := v) HCK.out hvk ⟨hh1, hh2⟩
          obtain ⟨Yv, hYv'⟩ : ∃ Yv, Yv = yF lo hi height v := ⟨_, rfl⟩
          rw [← hYv'] at hYv h6 hbv
          have HYv := Lib.hid hYv
          have H6 := Lib.hid h6
          have hm2 : 0 ≤ width * ((i : Int) + 1) := Int.mul_nonneg (by omega) (by omega)
          have hm3 : width * ((i : Int) + 1) ≤ 100000 * 201 := Int.mul_le_mul (by omega) (by omega) (by omega) (by omega)
          have r3 : IntKind.i64.wrap (width * ((i : Int) + 1)) = width * ((i : Int) + 1) := IntWalk.i64_in _ ⟨by omega, by omega⟩
          have r5 : (width * ((i : Int) + 1)).tdiv (p : Int) = X1 := by rw [Int.tdiv_eq_ediv_of_nonneg hm2, HX1.out]; unfold xF; rw [show (((i + 1 : Nat)) : Int) = (i : Int) + 1 by omega]
          have r7 : IntKind.i64.wrap X1 = X1 := IntWalk.i64_in _ ⟨by omega, by omega⟩
          have r8 : IntKind.i64.wrap (X + X1) = X + X1 := IntWalk.i64_in _ ⟨by omega, by omega⟩
          have r9 : (X + X1).tdiv 2 = (X + X1) / 2 := Int.tdiv_eq_ediv_of_nonneg (by omega)
          have ra : IntKind.i64.wrap ((X + X1) / 2) = (X + X1) / 2 := IntWalk.i64_in _ ⟨by omega, by omega⟩
          have hpn : ¬ p = 0 := by omega
          clear hYv hYv' h6 HYV
          go_wp2_with fail
          refine wp_region_held_drew (S := fun _ => True) (by kernel_rfl) trivial ?_
          intro hHeld
          refine takeD (i := 0) (oi := { dst := some 113, op := _, type := _, pos := _, after := _, guard := _ }) (d := some 113) (v := ?vva113) rfl rfl (by kernel_rfl) (by kernel_rfl) (by kernel_rfl) ?dda113 (by rfl) ?yya113 hHeld ?rra113
          case dda113 => exact fun _ _ _ h => h
          case yya113 => (intro wx hSw; obtain y0 := hSw; go_simp; try (with_reducible rfl))
          try simp only [Act.put, List.setIfInBounds_toArray, List.set_cons_zero, List.set_cons_succ]
          refine takeD (i := 1) (oi := { dst := some 114, op := _, type := _, pos := _, after := _, guard := _ }) (d := some 114) (v := ?vva114) rfl rfl (by kernel_rfl) (by kernel_rfl) (by kernel_rfl) ?dda114 (by rfl) ?yya114 hHeld ?rra114
          case dda114 => exact fun _ _ _ h => h
          case yya114 => (intro wx hSw; obtain y0 := hSw; go_simp; try (with_reducible rfl))
          try simp only [Act.put, List.setIfInBounds_toArray, List.set_cons_zero, List.set_cons_succ]
          refine takeD (i := 2) (oi := { dst := some 115, op := _, type := _, pos := _, after := _, guard := _ }) (d := some 115) (v := ?vva115) rfl rfl (by kernel_rfl) (by kernel_rfl) (by kernel_rfl) ?dda115 (by rfl) ?yya115 hHeld ?rra115
          case dda115 => exact fun _ _ _ h => h
          case yya115 => (intro wx hSw; obtain y0 := hSw; go_simp; try (with_reducible rfl))
          try simp only [Act.put, List.setIfInBounds_toArray, List.set_cons_zero, List.set_cons_succ]
          refine takeD (i := 3) (oi := { dst := some 116, op := _, type := _, pos := _, after := _, guard := _ }) (d := some 116) (v := ?vva116) rfl rfl (by kernel_rfl) (by kernel_rfl) (by kernel_rfl) ?dda116 (by rfl) ?yya116 hHeld ?rra116
          case dda116 => exact fun _ _ _ h => h
          case yya116 => (intro wx hSw; obtain y0 := hSw; go_simp; try (with_reducible rfl))
          try simp only [Act.put, List.setIfInBounds_toArray, List.set_cons_zero, List.set_cons_succ]
          refine takeD (i := 4) (oi := { dst := some 117, op := _, type := _, pos := _, after := _, guard := _ }) (d := some 117) (v := ?vva117) rfl rfl (by kernel_rfl) (by kernel_rfl) (by kernel_rfl) ?dda117 (by rfl) ?yya117 hHeld ?rra117
          case dda117 => exact fun _ _ _ h => h
          case yya117 => (intro wx hSw; obtain y0 := hSw; go_simp; try (with_reducible rfl))
          try simp only [Act.put, List.setIfInBounds_toArray, List.set_cons_zero, List.set_cons_succ]
          refine takeD (i := 5) (oi := { dst := some 118, op := _, type := _, pos := _, after := _, guard := _ }) (d := some 118) (v := ?vva118) rfl rfl (by kernel_rfl) (by kernel_rfl) (by kernel_rfl) ?dda118 (by rfl) ?yya118 hHeld ?rra118
          case dda118 => exact fun _ _ _ h => h
          case yya118 => (intro wx hSw; obtain y0 := hSw; go_simp; try (with_reducible rfl))
          try simp only [Act.put, List.setIfInBounds_toArray, List.set_cons_zero, List.set_cons_succ]
          refine takeD (i := 6) (oi := { dst := some 119, op := _, type := _, pos := _, after := _, guard := _ }) (d := some 119) (v := ?vva119) rfl rfl (by kernel_rfl) (by kernel_rfl) (by kernel_rfl) ?dda119 (by rfl) ?yya119 hHeld ?rra119
          case dda119 => exact fun _ _ _ h => h
          case yya119 => (intro wx hSw; obtain y0 := hSw; go_simp; try (with_reducible rfl))
          try simp only [Act.put, List.setIfInBounds_toArray, List.set_cons_zero, List.set_cons_succ]
          refine takeD (i := 7) (oi := { dst := some 120, op := _, type := _, pos := _, after := _, guard := _ }) (d := some 120) (v := ?vva120) rfl rfl (by kernel_rfl) (by kernel_rfl) (by kernel_rfl) ?dda120 (by rfl) ?yya120 hHeld ?rra120
          case dda120 => exact fun _ _ _ h => h
          case yya120 => (intro wx hSw; obtain y0 := hSw; go_simp; try (with_reducible rfl))
          try simp only [Act.put, List.setIfInBounds_toArray, List.set_cons_zero, List.set_cons_succ]
          refine takeD (i := 8) (oi := { dst := some 121, op := _, type := _, pos := _, after := _, guard := _ }) (d := some 121) (v := ?vva121) rfl rfl (by kernel_rfl) (by kernel_rfl) (by kernel_rfl) ?dda121 (by rfl) ?yya121 hHeld ?rra121
          case dda121 => exact fun _ _ _ h => h
          case yya121 => (intro wx hSw; obtain y0 := hSw; go_simp; try (with_reducible rfl))
          try simp only [Act.put, List.setIfInBounds_toArray, List.set_cons_zero, List.set_cons_succ]
          refine takeD (i := 9) (oi := { dst := some 122, op := _, type := _, pos := _, after := _, guard := _ }) (d := some 122) (v := ?vva122) rfl rfl (by kernel_rfl) (by kernel_rfl) (by kernel_rfl) ?dda122 (by rfl) ?yya122 hHeld ?rra122
          case dda122 => exact fun _ _ _ h => h
          case yya122 => (intro wx hSw; obtain y0 := hSw; go_simp; try (with_reducible rfl))
          try simp only [Act.put, List.setIfInBounds_toArray, List.set_cons_zero, List.set_cons_succ]
          refine takeD (i := 10) (oi := { dst := some 123, op := _, type := _, pos := _, after := _, guard := _ }) (d := some 123) (v := ?vva123) rfl rfl (by kernel_rfl) (by kernel_rfl) (by kernel_rfl) ?dda123 (by rfl) ?yya123 hHeld ?rra123
          case dda123 => exact fun _ _ _ h => h
          case yya123 => (intro wx hSw; obtain y0 := hSw; go_simp; try (with_reducible rfl))
          try simp only [Act.put, List.setIfInBounds_toArray, List.set_cons_zero, List.set_cons_succ]
          refine takeD (i := 12) (oi := { dst := some 125, op := _, type := _, pos := _, after := _, guard := _ }) (d := some 125) (v := ?vva125) rfl rfl (by kernel_rfl) (by kernel_rfl) (by kernel_rfl) ?dda125 (by rfl) ?yya125 hHeld ?rra125
          case dda125 => exact fun _ _ _ h => h
          case yya125 => (intro wx hSw; obtain y0 := hSw; go_simp; try (with_reducible rfl))
          try simp only [Act.put, List.setIfInBounds_toArray, List.set_cons_zero, List.set_cons_succ]
          refine wpAnyH_ready (rs := [11]) (by kernel_rfl) (by simp) ?_
          refine AllReadyH.cons (o := { dst := some 124, op := _, type := _, pos := _, after := _, guard := _ }) rfl (fun K hK => ?_) AllReadyH.nil
          go_simp
          refine (HYv.out _ ?k1).mono ?_
          case k1 =>
            (repeat' (with_reducible first | exact Below.refl _ _ | assumption | refine Below.setCell ?_ ?_ _ | refine Below.alloc ?_ ?_ _ | refine below_drewN ?_ _ | refine Below.drew ?_)) <;> first | omega | (simp; done) | (simp; omega)
          rintro e w5 ⟨rfl, m5, rfl⟩
          refine hK.out _ _ trivial (fun hHy => ?_)
          clear hK K
          try simp only [Act.put, List.setIfInBounds_toArray, List.set_cons_zero, List.set_cons_succ]
          refine wpAnyH_ready (rs := [13]) (by kernel_rfl) (by simp) ?_
          refine AllReadyH.cons (o := { dst := none, op := _, type := _, pos := _, after := _, guard := _ }) rfl (fun K hK => ?_) AllReadyH.nil
          go_simp
          refine hK.out _ _ trivial (fun hHt => ?_)
          clear hK K
          try simp only [Act.put, List.setIfInBounds_toArray, List.set_cons_zero, List.set_cons_succ]
          refine takeD (i := 14) (oi := { dst := some 126, op := _, type := _, pos := _, after := _, guard := _ }) (d := some 126) (v := ?vvb126) rfl rfl (by kernel_rfl) (by kernel_rfl) (by kernel_rfl) ?ddb126 (by rfl) ?yyb126 hHt ?rrb126
          case ddb126 => exact fun _ _ _ h => h
          case yyb126 => (intro wx hSw; obtain y0 := hSw; go_simp; try (with_reducible rfl))
          try simp only [Act.put, List.setIfInBounds_toArray, List.set_cons_zero, List.set_cons_succ]
          refine wpAnyH_ready (rs := [15]) (by kernel_rfl) (by simp) ?_
          refine AllReadyH.cons (o := { dst := none, op := _, type := _, pos := _, after := _, guard := _ }) rfl (fun K hK => ?_) AllReadyH.nil
          go_simp
          refine hK.out _ _ trivial (fun hHt => ?_)
          clear hK K
          try simp only [Act.put, List.setIfInBounds_toArray, List.set_cons_zero, List.set_cons_succ]
          refine wpAnyH_done (by kernel_rfl) ?_ _
          clear HYv p0 p1 p2 q0 q1 q2 qh d1 d3 hm2 hm3 r2 r3 r5 r7 r8 r9 ra
          go_wp2_with (at_builtin; go_loud (refine wpList_append_own _ rfl _ _ 32 rfl (w.heap.size + 3) 42 ii (.agg #[.int .i64 0, .int .i64 0, .int .i64 0, .int .i64 0, .int .i64 0, .int .i64 0]) 6 48 Try.underlying32 hii hz0 hz1 hz2 rfl (by decide) _ _ _ rfl (RowL.alloc (hR.below (show Below wr.heap.size wr _ by
              (repeat' (with_reducible first | exact Below.refl _ _ | refine Below.setCell ?_ ?_ _ | refine Below.alloc ?_ ?_ _ | refine below_drewN ?_ _ | refine Below.drew ?_)) <;> first | omega | (simp; done) | (simp; omega)) (Nat.le_refl _)) _) ⟨wr.heap.size + 1, 0, none⟩ 1 1 [.int .i64 (k : Int), .int .i64 (i : Int), .int .i64 ((X + X1) / 2), .int .i64 (Yv), .int .i64 (0), .int .i64 (0)] rfl rfl ?a1 ?a2 ?a3 ?a4 ?a5 ?_))
          case a1 =>
            intro j u hj
            have e : Addr.add ⟨wr.heap.size + 1, 0, none⟩ j = ⟨wr.heap.size + 1, j, none⟩ := by simp [Addr.add]; try omega
            rw [e]
            exact cell_new (by simp) (by simpa using hj)
          case a2 => first | exact ⟨rfl, rfl, rfl, rfl, rfl, rfl⟩ | (intro u hu; simp at hu; rcases hu with rfl | rfl | rfl | rfl | rfl | rfl <;> rfl)
          case a3 => unfold maxLen; omega
          case a4 => omega
          case a5 => simp; omega
          intro v' w5 hown hgrow _
          have hb5 : Below (w.heap.size + 3) wr w5 := by
            refine Below.grown (B := w.heap.size + 3) (a := wr) ?_ hgrow ?_ (fun k hk => (RowL.ge hR k hk))
            · (repeat' (with_reducible first | exact Below.refl _ _ | assumption | refine Below.setCell ?_ ?_ _ | refine Below.alloc ?_ ?_ _ | refine below_drewN ?_ _ | refine Below.drew ?_)) <;> first | omega | (simp; done) | (simp; omega)
            · simp; omega
          have HO5 := Lib.hid hown
          have HB5 := Lib.hid (HBX.out.keep hb5)
          clear hown hgrow hb5 hR
          go_wp2_with fail
          go_roundw
          case rel => exact ⟨k + 1, by go_num, by omega, by first | rfl | (rw [HSQ.out]), by rw [HL6.out, H6.out, ← Nat.add_assoc]; simpa [HHH.out] using HO5.out, HB5.out⟩
          case measure => simp [intOf]; omega
        · obtain rfl : k = s := by omega
          go_wp2_with fail
          go_roundw
          case rel => exact ⟨i + 1, by go_num, by omega, by rw [HL.out, HNN.out]; exact hR, hB⟩
          case measure => simp [intOf]; omega
    · obtain rfl : i = p := by omega
      go_wp2_with fail
      go_ret
      exact ⟨_, rfl, hR.mono (by omega), hbel⟩
end Go.Proofs.Ytnigebnibikolaa.CB
