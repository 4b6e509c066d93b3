


/-
  chart.Bars of a chart that its scale holds.
-/
import Derived.Test.YtnigebnibikolaaCbBars
namespace Go.Proofs.Ytnigebnibikolaa.CB
open Go.RowKit Go.Law Go.Law.Cb Ref CH
set_option linter.unusedVariables false
set_option linter.unusedSimpArgs false
set_option maxRecDepth 100000
def BarsPost (kind lo hi width height : Int) (sf : Nat → Nat → Int) (p s : Nat) (w : World) (e : Ending) (w' : World) : Prop :=
  ∃ v, e = .returned (.tuple #[v, .int .i64 0]) ∧ RowL w' w.heap.size 42 6 v (p * s) ((barsL kind lo hi width height sf p s p).map (Value.int .i64)) ∧ Below w.heap.size w w'
theorem mul_le_2400 {i s : Nat} (hi : i ≤ 200) (hs : s ≤ 12) : i * s ≤ 2400 := Nat.mul_le_mul hi hs
set_option maxHeartbeats 8000000 in
theorem bars_0 (a1 a2 : Option Addr) (p cp s cs : Nat) (sa : Nat → Option Addr) (sn sc : Nat → Nat) (sf : Nat → Nat → Int) (lo hi st width height : Int) (w : World) (hrows : RowsF w a2 s sa sn sc sf) (he : chErr 0 p s sn sf = 0) (hk : SP.chk lo hi st = 0)
    (hin : InB width height lo hi (lowL (x0 0 sf) (extL 0 sf s p)) (highL (x0 0 sf) (extL 0 sf s p))) :
    Calls Try.prog 11 #[.agg #[.int .i64 0, .slice a1 p cp, .slice a2 s cs], .agg #[.int .i64 lo, .int .i64 hi, .int .i64 st], .int .i64 width, .int .i64 height] w (BarsPost 0 lo hi width height sf p s w) := by
  obtain ⟨⟨hw1, hw2⟩, ⟨hh1, hh2⟩, hlow, hhigh⟩ := hin
  obtain ⟨_, hp0, hs0, hp2, hs2, _, hrow⟩ := chErr_zero he
  have ho := okV_of he
  have hfit : Fits 0 sf p s lo hi := ⟨hlow, hhigh⟩
  have hck := fun w1 (hb : Below w.heap.size w w1) => range_ok 0 a1 a2 p cp s cs sa sn sc sf w1 (hrows.below (Nat.le_refl _) hb) he
  unfold RangeOk at hck
  have HC := Lib.hid hck
  have HSC := Lib.hid (fun w1 => SP.check_any lo hi st w1)
  rw [hk] at HSC
  have hC0 := CS.start (w := w) (kind := 0) (a1 := a1) (a2 := a2) (p := p) (cp := cp) (s := s) (cs := cs) (lo := lo) (hi := hi) (st := st) 25 27
  have hxb := fun i (hi : i < p) => xF_bd (width := width) (p := p) (i := i) ⟨by omega, hw2⟩ hi
  have HXB := Lib.hid hxb
  have hed := fun w1 => edges_any width p w1 ⟨by omega, hw2⟩ hp0 (by omega)
  have HED := Lib.hid hed
  have HN := Lib.hid (fun q hq => (hrow q hq).1)
  have HCK := Lib.hid hk
  have HVL := Lib.hid (hfit.vals (by decide))
  have HZ := Lib.hid (hfit.zero (by decide))
  obtain ⟨L, hL⟩ : ∃ L, L = lowL (x0 0 sf) (extL 0 sf s p) := ⟨_, rfl⟩
  obtain ⟨H, hH⟩ : ∃ H, H = highL (x0 0 sf) (extL 0 sf s p) := ⟨_, rfl⟩
  rw [← hL] at HC hlow
  rw [← hH] at HC hhigh
  clear hck hk he hrow hL hH hxb hed ho hfit
  go_enter Try.func11, Try.ntmps11
  go_wp2_with fail
  refine (HC.out _ hC0.bel).mono ?_
  rintro e w1 ⟨rfl, hb1⟩
  have hC1 := hC0.more hb1
  obtain ⟨hbel1, hlt1, ⟨p0, p1, p2⟩, q0, q1, q2⟩ := id hC1
  clear hb1 hC0 HC
  go_wp2_with fail
  refine (HSC.out _).mono ?_
  rintro e w2 ⟨rfl, hb2⟩
  have hC2 := hC1.more hb2
  clear hb2 hC1 HSC hbel1 hlt1 p0 p1 p2 q0 q1 q2
  obtain ⟨hbel2, hlt2, ⟨p0, p1, p2⟩, q0, q1, q2⟩ := id hC2
  have z1 : w.heap.size < w2.heap.size := by omega
  go_wp2_with fail
  refine (HED.out _).mono ?_
  rintro e w4 ⟨rfl, hO4, hb4⟩
  simp only [World.size_alloc] at hO4 ⊢
  have hM4 : MkAt w4 w2.heap.size 0 a1 a2 p cp s cs lo hi st height (.slice none 0 0) := Blk.below (Blk.new w2 (mkCells 0 a1 a2 p cp s cs lo hi st height (.slice none 0 0)) 95) hb4 (by simp)
  have hC4 := (hC2.alloc _).more hb4
  have hs4 := hb4.size
  simp at hs4
  have hbel4 := hC4.bel
  obtain ⟨g, hg⟩ : ∃ g, g = w2.heap.size := ⟨_, rfl⟩
  rw [← hg] at hM4 hO4 hs4 hlt2 ⊢
  have hO4l := hO4.lt
  clear hg
  have E : Env w 0 a1 a2 p cp s cs sa sn sc sf lo hi st height g w4.heap.size := ⟨hrows, by omega, by omega, HN.out, ⟨hs0, hs2, hp2⟩, HCK.out, HVL.out, ⟨hh1, hh2⟩⟩
  have HE := Lib.hid E
  obtain ⟨F, hF⟩ : ∃ F, F = edF width p := ⟨_, rfl⟩
  have HF := Lib.hid (show F = xF width p by rw [hF]; rfl)
  rw [← hF] at hO4
  obtain ⟨base, hbs⟩ : ∃ base, base = w4.heap.size := ⟨_, rfl⟩
  rw [← hbs] at HE
  have hbs1 : base ≤ w4.heap.size := by omega
  have hbs2 : w4.heap.size ≤ base := by omega
  have HC4 := Lib.hid hC4
  have HO4 := Lib.hid hO4
  clear hb4 hbel2 p0 p1 p2 q0 q1 q2 hC2 HED hF hrows hbs hC4 E
  obtain ⟨hbel4', hlt4, ⟨p0, p1, p2⟩, q0, q1, q2⟩ := id HC4.out
  clear hbel4'
  go_wp2_with fail
  go_loopw [75] (fun iv wr => ∃ (i : Nat) (o : Value), iv = .int .i64 i ∧ i ≤ p ∧ MkAt wr g 0 a1 a2 p cp s cs lo hi st height o ∧ RowL wr base 42 6 o (i * s) ((barsL 0 lo hi width height sf p s i).map (Value.int .i64)) ∧ Under base g w4 wr) (fun iv _ => p - (intOf iv).toNat)
  case atStart => exact ⟨0, _, rfl, by omega, hM4, by rw [Nat.zero_mul]; exact RowL.nil _ _ _ _, Under.refl _ _ _⟩
  case round =>
    clear hM4 hO4 p0 p1 p2 q0 q1 q2
    obtain ⟨i, o, rfl, hi', hM, hR, hU⟩ := hrel
    have hC := HC4.out.under hU (by omega) (by omega)
    obtain ⟨hbel, hlt, ⟨p0, p1, p2⟩, q0, q1, q2⟩ := id hC
    have hsU := hU.size
    by_cases hip : i < p
    · have hO : OwnF wr 3 (g + 1) (p + 1) F := HO4.out.block (hU.block _ (by omega) (by omega))
      have e1 := hO.cell (show i < p + 1 by omega)
      have e2 := hO.cell (show i + 1 < p + 1 by omega)
      have hx := HXB.out i hip
      have hHF := HF.out
      rw [← hHF] at hx
      have hn24 := mul_le_2400 (show i ≤ 200 by omega) hs2
      obtain ⟨n, hnn⟩ : ∃ n, n = i * s := ⟨_, rfl⟩
      have HNN := Lib.hid (show (i + 1) * s = n + s by rw [hnn, Nat.succ_mul])
      rw [← hnn] at hR hn24
      have HL := Lib.hid (show barsL 0 lo hi width height sf p s (i + 1) = barsL 0 lo hi width height sf p s i ++ barsP 0 lo hi width height sf p s i s from rfl)
      obtain ⟨xs, hxs⟩ : ∃ xs, xs = barsL 0 lo hi width height sf p s i := ⟨_, rfl⟩
      rw [← hxs] at hR HL
      have j1 : (0 : Int) ≤ (i : Int) := by omega
      have j2 : (i : Int) < (p : Int) + 1 := by omega
      have j3 : (0 : Int) ≤ (i : Int) + 1 := by omega
      have j4 : (i : Int) + 1 < (p : Int) + 1 := by omega
      have t1 : ((i : Int) + 1).toNat = i + 1 := by omega
      have u1 : IntKind.i64.wrap ((i : Int) + 1) = (i : Int) + 1 := IntWalk.i64_in _ ⟨by omega, by omega⟩
      have u2 : IntKind.i64.wrap (F (i + 1) - F i) = F (i + 1) - F i := IntWalk.i64_in _ ⟨by omega, by omega⟩
      have HM := Lib.hid hM
      have HR2 := Lib.hid hR
      have HU := Lib.hid hU
      have HO := Lib.hid hO
      have HX := Lib.hid hx
      have HBW := Lib.hid hbel
      clear hM hR hU hO hx hHF hnn hxs hC hbel
      go_wp2_with fail
      refine wp_region_held_drew (S := fun w' => w'.cell? ⟨g + 1, i, none⟩ = some (.int .i64 (F i)) ∧ w'.cell? ⟨g + 1, i + 1, none⟩ = some (.int .i64 (F (i + 1)))) (by kernel_rfl) (by exact ⟨by simpa using e1, by simpa using e2⟩) ?_
      intro hHeld
      refine takeD (i := 0) (oi := { dst := some 120, op := _, type := _, pos := _, after := _, guard := _ }) (d := some 120) (v := ?vva120) rfl rfl (by kernel_rfl) (by kernel_rfl) (by kernel_rfl) ?dda120 (by rfl) ?yya120 hHeld ?rra120
      case dda120 => exact fun _ _ _ h => h
      case yya120 => (intro wx hSw; obtain ⟨y0, y1⟩ := hSw; go_simp; try (with_reducible rfl))
      try simp only [Act.put, List.setIfInBounds_toArray, List.set_cons_zero, List.set_cons_succ]
      refine takeD (i := 1) (oi := { dst := some 121, op := _, type := _, pos := _, after := _, guard := _ }) (d := some 121) (v := ?vva121) rfl rfl (by kernel_rfl) (by kernel_rfl) (by kernel_rfl) ?dda121 (by rfl) ?yya121 hHeld ?rra121
      case dda121 => exact fun _ _ _ h => h
      case yya121 => (intro wx hSw; obtain ⟨y0, y1⟩ := hSw; go_simp; try (with_reducible rfl))
      try simp only [Act.put, List.setIfInBounds_toArray, List.set_cons_zero, List.set_cons_succ]
      refine takeD (i := 2) (oi := { dst := some 122, op := _, type := _, pos := _, after := _, guard := _ }) (d := some 122) (v := ?vva122) rfl rfl (by kernel_rfl) (by kernel_rfl) (by kernel_rfl) ?dda122 (by rfl) ?yya122 hHeld ?rra122
      case dda122 => exact fun _ _ _ h => h
      case yya122 => (intro wx hSw; obtain ⟨y0, y1⟩ := hSw; go_simp; try (with_reducible rfl))
      try simp only [Act.put, List.setIfInBounds_toArray, List.set_cons_zero, List.set_cons_succ]
      refine takeD (i := 3) (oi := { dst := some 123, op := _, type := _, pos := _, after := _, guard := _ }) (d := some 123) (v := ?vva123) rfl rfl (by kernel_rfl) (by kernel_rfl) (by kernel_rfl) ?dda123 (by rfl) ?yya123 hHeld ?rra123
      case dda123 => exact fun _ _ _ h => h
      case yya123 => (intro wx hSw; obtain ⟨y0, y1⟩ := hSw; go_simp; try (with_reducible rfl))
      try simp only [Act.put, List.setIfInBounds_toArray, List.set_cons_zero, List.set_cons_succ]
      refine takeD (i := 4) (oi := { dst := some 124, op := _, type := _, pos := _, after := _, guard := _ }) (d := some 124) (v := ?vva124) rfl rfl (by kernel_rfl) (by kernel_rfl) (by kernel_rfl) ?dda124 (by rfl) ?yya124 hHeld ?rra124
      case dda124 => exact fun _ _ _ h => h
      case yya124 => (intro wx hSw; obtain ⟨y0, y1⟩ := hSw; go_simp; try (with_reducible rfl))
      try simp only [Act.put, List.setIfInBounds_toArray, List.set_cons_zero, List.set_cons_succ]
      refine takeD (i := 5) (oi := { dst := some 125, op := _, type := _, pos := _, after := _, guard := _ }) (d := some 125) (v := ?vva125) rfl rfl (by kernel_rfl) (by kernel_rfl) (by kernel_rfl) ?dda125 (by rfl) ?yya125 hHeld ?rra125
      case dda125 => exact fun _ _ _ h => h
      case yya125 => (intro wx hSw; obtain ⟨y0, y1⟩ := hSw; go_simp; try (with_reducible rfl))
      try simp only [Act.put, List.setIfInBounds_toArray, List.set_cons_zero, List.set_cons_succ]
      refine takeD (i := 6) (oi := { dst := some 126, op := _, type := _, pos := _, after := _, guard := _ }) (d := some 126) (v := ?vva126) rfl rfl (by kernel_rfl) (by kernel_rfl) (by kernel_rfl) ?dda126 (by rfl) ?yya126 hHeld ?rra126
      case dda126 => exact fun _ _ _ h => h
      case yya126 => (intro wx hSw; obtain ⟨y0, y1⟩ := hSw; go_simp; try (with_reducible rfl))
      try simp only [Act.put, List.setIfInBounds_toArray, List.set_cons_zero, List.set_cons_succ]
      refine takeD (i := 7) (oi := { dst := some 127, op := _, type := _, pos := _, after := _, guard := _ }) (d := some 127) (v := ?vva127) rfl rfl (by kernel_rfl) (by kernel_rfl) (by kernel_rfl) ?dda127 (by rfl) ?yya127 hHeld ?rra127
      case dda127 => exact fun _ _ _ h => h
      case yya127 => (intro wx hSw; obtain ⟨y0, y1⟩ := hSw; go_simp; try (with_reducible rfl))
      try simp only [Act.put, List.setIfInBounds_toArray, List.set_cons_zero, List.set_cons_succ]
      refine takeD (i := 8) (oi := { dst := some 128, op := _, type := _, pos := _, after := _, guard := _ }) (d := some 128) (v := ?vva128) rfl rfl (by kernel_rfl) (by kernel_rfl) (by kernel_rfl) ?dda128 (by rfl) ?yya128 hHeld ?rra128
      case dda128 => exact fun _ _ _ h => h
      case yya128 => (intro wx hSw; obtain ⟨y0, y1⟩ := hSw; go_simp; try (with_reducible rfl))
      try simp only [Act.put, List.setIfInBounds_toArray, List.set_cons_zero, List.set_cons_succ]
      refine takeD (i := 9) (oi := { dst := some 129, op := _, type := _, pos := _, after := _, guard := _ }) (d := some 129) (v := ?vva129) rfl rfl (by kernel_rfl) (by kernel_rfl) (by kernel_rfl) ?dda129 (by rfl) ?yya129 hHeld ?rra129
      case dda129 => exact fun _ _ _ h => h
      case yya129 => (intro wx hSw; obtain ⟨y0, y1⟩ := hSw; go_simp; try (with_reducible rfl))
      try simp only [Act.put, List.setIfInBounds_toArray, List.set_cons_zero, List.set_cons_succ]
      refine takeD (i := 10) (oi := { dst := some 130, op := _, type := _, pos := _, after := _, guard := _ }) (d := some 130) (v := ?vva130) rfl rfl (by kernel_rfl) (by kernel_rfl) (by kernel_rfl) ?dda130 (by rfl) ?yya130 hHeld ?rra130
      case dda130 => exact fun _ _ _ h => h
      case yya130 => (intro wx hSw; obtain ⟨y0, y1⟩ := hSw; go_simp; try (with_reducible rfl))
      try simp only [Act.put, List.setIfInBounds_toArray, List.set_cons_zero, List.set_cons_succ]
      refine takeD (i := 11) (oi := { dst := some 131, op := _, type := _, pos := _, after := _, guard := _ }) (d := some 131) (v := ?vva131) rfl rfl (by kernel_rfl) (by kernel_rfl) (by kernel_rfl) ?dda131 (by rfl) ?yya131 hHeld ?rra131
      case dda131 => exact fun _ _ _ h => h
      case yya131 => (intro wx hSw; obtain ⟨y0, y1⟩ := hSw; go_simp; try (with_reducible rfl))
      try simp only [Act.put, List.setIfInBounds_toArray, List.set_cons_zero, List.set_cons_succ]
      refine takeD (i := 12) (oi := { dst := some 132, op := _, type := _, pos := _, after := _, guard := _ }) (d := some 132) (v := ?vva132) rfl rfl (by kernel_rfl) (by kernel_rfl) (by kernel_rfl) ?dda132 (by rfl) ?yya132 hHeld ?rra132
      case dda132 => exact fun _ _ _ h => h
      case yya132 => (intro wx hSw; obtain ⟨y0, y1⟩ := hSw; go_simp; try (with_reducible rfl))
      try simp only [Act.put, List.setIfInBounds_toArray, List.set_cons_zero, List.set_cons_succ]
      refine takeD (i := 13) (oi := { dst := some 133, op := _, type := _, pos := _, after := _, guard := _ }) (d := some 133) (v := ?vva133) rfl rfl (by kernel_rfl) (by kernel_rfl) (by kernel_rfl) ?dda133 (by rfl) ?yya133 hHeld ?rra133
      case dda133 => exact fun _ _ _ h => h
      case yya133 => (intro wx hSw; obtain ⟨y0, y1⟩ := hSw; go_simp; try (with_reducible rfl))
      try simp only [Act.put, List.setIfInBounds_toArray, List.set_cons_zero, List.set_cons_succ]
      refine takeD (i := 14) (oi := { dst := some 134, op := _, type := _, pos := _, after := _, guard := _ }) (d := some 134) (v := ?vva134) rfl rfl (by kernel_rfl) (by kernel_rfl) (by kernel_rfl) ?dda134 (by rfl) ?yya134 hHeld ?rra134
      case dda134 => exact fun _ _ _ h => h
      case yya134 => (intro wx hSw; obtain ⟨y0, y1⟩ := hSw; go_simp; try (with_reducible rfl))
      try simp only [Act.put, List.setIfInBounds_toArray, List.set_cons_zero, List.set_cons_succ]
      refine takeD (i := 15) (oi := { dst := some 135, op := _, type := _, pos := _, after := _, guard := _ }) (d := some 135) (v := ?vva135) rfl rfl (by kernel_rfl) (by kernel_rfl) (by kernel_rfl) ?dda135 (by rfl) ?yya135 hHeld ?rra135
      case dda135 => exact fun _ _ _ h => h
      case yya135 => (intro wx hSw; obtain ⟨y0, y1⟩ := hSw; go_simp; try (with_reducible rfl))
      try simp only [Act.put, List.setIfInBounds_toArray, List.set_cons_zero, List.set_cons_succ]
      refine wpAnyH_ready (rs := [16]) (by kernel_rfl) (by simp) ?_
      refine AllReadyH.cons (o := { dst := some 136, op := _, type := _, pos := _, after := _, guard := _ }) rfl (fun K hK => ?_) AllReadyH.nil
      go_simp
      go_at_call 46
      have hcall := (beside_any HE.out HZ.out) o n xs i width wr.drew HBW.out.drew (Blk.drew HM.out) HR2.out.drew (by simp; omega) (by omega) hip (by rw [← HF.out]; exact HX.out.1) (by rw [← HF.out]; exact HX.out.2)
      rw [← HF.out] at hcall
      refine hcall.mono ?_
      clear hcall
      rintro e w7 ⟨o7, rfl, hM7, hR7, hU7⟩
      have hU8 : Under base g wr w7 := (show Under base g wr wr.drew from ((Under.refl base g wr).drewN 1)).trans hU7
      have hO8 : OwnF w7 3 (g + 1) (p + 1) F := HO.out.block (hU8.block _ (by omega) (by omega))
      refine hK.out _ _ ?_ (fun hHeld3 => ?_)
      · exact ⟨hO8.cell (by omega), hO8.cell (by omega)⟩
      clear hK K
      try simp only [Act.put, List.setIfInBounds_toArray, List.set_cons_zero, List.set_cons_succ]
      refine wpAnyH_done (by kernel_rfl) ?_ _
      have hU9 := HU.out.trans hU8
      clear hHeld hHeld3 hU7 hU8 hO8 HM HR2 HU HO e1 e2 p0 p1 p2 q0 q1 q2
      go_wp2_with fail
      go_roundw
      case rel => exact ⟨i + 1, o7, by go_num, by omega, hM7, by rw [HL.out, HNN.out]; exact hR7, hU9⟩
      case measure => simp [intOf]; omega
    · obtain rfl : i = p := by omega
      have c7 : wr.cell? ⟨g, 7, none⟩ = some o := Blk.cell hM (i := 7) rfl
      obtain ⟨ao, co, rfl, _, _⟩ := RowL.slice hR
      go_wp2_with fail
      go_ret2
      exact ⟨_, rfl, hR.mono (by omega), hbel⟩
set_option maxHeartbeats 8000000 in
theorem bars_1 (a1 a2 : Option Addr) (p cp s cs : Nat) (sa : Nat → Option Addr) (sn sc : Nat → Nat) (sf : Nat → Nat → Int) (lo hi st width height : Int) (w : World) (hrows : RowsF w a2 s sa sn sc sf) (he : chErr 1 p s sn sf = 0) (hk : SP.chk lo hi st = 0)
    (hin : InB width height lo hi (lowL (x0 1 sf) (extL 1 sf s p)) (highL (x0 1 sf) (extL 1 sf s p))) :
    Calls Try.prog 11 #[.agg #[.int .i64 1, .slice a1 p cp, .slice a2 s cs], .agg #[.int .i64 lo, .int .i64 hi, .int .i64 st], .int .i64 width, .int .i64 height] w (BarsPost 1 lo hi width height sf p s w) := by
  obtain ⟨⟨hw1, hw2⟩, ⟨hh1, hh2⟩, hlow, hhigh⟩ := hin
  obtain ⟨_, hp0, hs0, hp2, hs2, _, hrow⟩ := chErr_zero he
  have ho := okV_of he
  have hfit : Fits 1 sf p s lo hi := ⟨hlow, hhigh⟩
  have hck := fun w1 (hb : Below w.heap.size w w1) => range_ok 1 a1 a2 p cp s cs sa sn sc sf w1 (hrows.below (Nat.le_refl _) hb) he
  unfold RangeOk at hck
  have HC := Lib.hid hck
  have HSC := Lib.hid (fun w1 => SP.check_any lo hi st w1)
  rw [hk] at HSC
  have hC0 := CS.start (w := w) (kind := 1) (a1 := a1) (a2 := a2) (p := p) (cp := cp) (s := s) (cs := cs) (lo := lo) (hi := hi) (st := st) 25 27
  have hxb := fun i (hi : i < p) => xF_bd (width := width) (p := p) (i := i) ⟨by omega, hw2⟩ hi
  have HXB := Lib.hid hxb
  have hed := fun w1 => edges_any width p w1 ⟨by omega, hw2⟩ hp0 (by omega)
  have HED := Lib.hid hed
  have HN := Lib.hid (fun q hq => (hrow q hq).1)
  have HCK := Lib.hid hk
  have HVL := Lib.hid (hfit.vals1 ho)
  have HV0 := Lib.hid (show ∀ q, q < s → ∀ i, i < p → 0 ≤ sf q i from fun q hq i hi => by have := (ho q hq i hi).1; have h2 : lowK 1 = 0 := rfl; omega)
  have HSM := Lib.hid (hfit.sums ho)
  have HZ := Lib.hid (hfit.zero (by decide))
  obtain ⟨L, hL⟩ : ∃ L, L = lowL (x0 1 sf) (extL 1 sf s p) := ⟨_, rfl⟩
  obtain ⟨H, hH⟩ : ∃ H, H = highL (x0 1 sf) (extL 1 sf s p) := ⟨_, rfl⟩
  rw [← hL] at HC hlow
  rw [← hH] at HC hhigh
  clear hck hk he hrow hL hH hxb hed ho hfit
  go_enter Try.func11, Try.ntmps11
  go_wp2_with fail
  refine (HC.out _ hC0.bel).mono ?_
  rintro e w1 ⟨rfl, hb1⟩
  have hC1 := hC0.more hb1
  obtain ⟨hbel1, hlt1, ⟨p0, p1, p2⟩, q0, q1, q2⟩ := id hC1
  clear hb1 hC0 HC
  go_wp2_with fail
  refine (HSC.out _).mono ?_
  rintro e w2 ⟨rfl, hb2⟩
  have hC2 := hC1.more hb2
  clear hb2 hC1 HSC hbel1 hlt1 p0 p1 p2 q0 q1 q2
  obtain ⟨hbel2, hlt2, ⟨p0, p1, p2⟩, q0, q1, q2⟩ := id hC2
  have z1 : w.heap.size < w2.heap.size := by omega
  go_wp2_with fail
  refine (HED.out _).mono ?_
  rintro e w4 ⟨rfl, hO4, hb4⟩
  simp only [World.size_alloc] at hO4 ⊢
  have hM4 : MkAt w4 w2.heap.size 1 a1 a2 p cp s cs lo hi st height (.slice none 0 0) := Blk.below (Blk.new w2 (mkCells 1 a1 a2 p cp s cs lo hi st height (.slice none 0 0)) 95) hb4 (by simp)
  have hC4 := (hC2.alloc _).more hb4
  have hs4 := hb4.size
  simp at hs4
  have hbel4 := hC4.bel
  obtain ⟨g, hg⟩ : ∃ g, g = w2.heap.size := ⟨_, rfl⟩
  rw [← hg] at hM4 hO4 hs4 hlt2 ⊢
  have hO4l := hO4.lt
  clear hg
  have E : Env w 1 a1 a2 p cp s cs sa sn sc sf lo hi st height g w4.heap.size := ⟨hrows, by omega, by omega, HN.out, ⟨hs0, hs2, hp2⟩, HCK.out, HVL.out, ⟨hh1, hh2⟩⟩
  have HE := Lib.hid E
  obtain ⟨F, hF⟩ : ∃ F, F = edF width p := ⟨_, rfl⟩
  have HF := Lib.hid (show F = xF width p by rw [hF]; rfl)
  rw [← hF] at hO4
  obtain ⟨base, hbs⟩ : ∃ base, base = w4.heap.size := ⟨_, rfl⟩
  rw [← hbs] at HE
  have hbs1 : base ≤ w4.heap.size := by omega
  have hbs2 : w4.heap.size ≤ base := by omega
  have HC4 := Lib.hid hC4
  have HO4 := Lib.hid hO4
  clear hb4 hbel2 p0 p1 p2 q0 q1 q2 hC2 HED hF hrows hbs hC4 E
  obtain ⟨hbel4', hlt4, ⟨p0, p1, p2⟩, q0, q1, q2⟩ := id HC4.out
  clear hbel4'
  go_wp2_with fail
  go_loopw [75] (fun iv wr => ∃ (i : Nat) (o : Value), iv = .int .i64 i ∧ i ≤ p ∧ MkAt wr g 1 a1 a2 p cp s cs lo hi st height o ∧ RowL wr base 42 6 o (i * s) ((barsL 1 lo hi width height sf p s i).map (Value.int .i64)) ∧ Under base g w4 wr) (fun iv _ => p - (intOf iv).toNat)
  case atStart => exact ⟨0, _, rfl, by omega, hM4, by rw [Nat.zero_mul]; exact RowL.nil _ _ _ _, Under.refl _ _ _⟩
  case round =>
    clear hM4 hO4 p0 p1 p2 q0 q1 q2
    obtain ⟨i, o, rfl, hi', hM, hR, hU⟩ := hrel
    have hC := HC4.out.under hU (by omega) (by omega)
    obtain ⟨hbel, hlt, ⟨p0, p1, p2⟩, q0, q1, q2⟩ := id hC
    have hsU := hU.size
    by_cases hip : i < p
    · have hO : OwnF wr 3 (g + 1) (p + 1) F := HO4.out.block (hU.block _ (by omega) (by omega))
      have e1 := hO.cell (show i < p + 1 by omega)
      have e2 := hO.cell (show i + 1 < p + 1 by omega)
      have hx := HXB.out i hip
      have hHF := HF.out
      rw [← hHF] at hx
      have hn24 := mul_le_2400 (show i ≤ 200 by omega) hs2
      obtain ⟨n, hnn⟩ : ∃ n, n = i * s := ⟨_, rfl⟩
      have HNN := Lib.hid (show (i + 1) * s = n + s by rw [hnn, Nat.succ_mul])
      rw [← hnn] at hR hn24
      have HL := Lib.hid (show barsL 1 lo hi width height sf p s (i + 1) = barsL 1 lo hi width height sf p s i ++ barsP 1 lo hi width height sf p s i s from rfl)
      obtain ⟨xs, hxs⟩ : ∃ xs, xs = barsL 1 lo hi width height sf p s i := ⟨_, rfl⟩
      rw [← hxs] at hR HL
      have j1 : (0 : Int) ≤ (i : Int) := by omega
      have j2 : (i : Int) < (p : Int) + 1 := by omega
      have j3 : (0 : Int) ≤ (i : Int) + 1 := by omega
      have j4 : (i : Int) + 1 < (p : Int) + 1 := by omega
      have t1 : ((i : Int) + 1).toNat = i + 1 := by omega
      have u1 : IntKind.i64.wrap ((i : Int) + 1) = (i : Int) + 1 := IntWalk.i64_in _ ⟨by omega, by omega⟩
      have u2 : IntKind.i64.wrap (F (i + 1) - F i) = F (i + 1) - F i := IntWalk.i64_in _ ⟨by omega, by omega⟩
      have HM := Lib.hid hM
      have HR2 := Lib.hid hR
      have HU := Lib.hid hU
      have HO := Lib.hid hO
      have HX := Lib.hid hx
      have HBW := Lib.hid hbel
      clear hM hR hU hO hx hHF hnn hxs hC hbel
      go_wp2_with fail
      refine wp_region_held_drew (S := fun w' => w'.cell? ⟨g + 1, i, none⟩ = some (.int .i64 (F i)) ∧ w'.cell? ⟨g + 1, i + 1, none⟩ = some (.int .i64 (F (i + 1)))) (by kernel_rfl) (by exact ⟨by simpa using e1, by simpa using e2⟩) ?_
      intro hHeld
      refine takeD (i := 0) (oi := { dst := some 139, op := _, type := _, pos := _, after := _, guard := _ }) (d := some 139) (v := ?vva139) rfl rfl (by kernel_rfl) (by kernel_rfl) (by kernel_rfl) ?dda139 (by rfl) ?yya139 hHeld ?rra139
      case dda139 => exact fun _ _ _ h => h
      case yya139 => (intro wx hSw; obtain ⟨y0, y1⟩ := hSw; go_simp; try (with_reducible rfl))
      try simp only [Act.put, List.setIfInBounds_toArray, List.set_cons_zero, List.set_cons_succ]
      refine takeD (i := 1) (oi := { dst := some 140, op := _, type := _, pos := _, after := _, guard := _ }) (d := some 140) (v := ?vva140) rfl rfl (by kernel_rfl) (by kernel_rfl) (by kernel_rfl) ?dda140 (by rfl) ?yya140 hHeld ?rra140
      case dda140 => exact fun _ _ _ h => h
      case yya140 => (intro wx hSw; obtain ⟨y0, y1⟩ := hSw; go_simp; try (with_reducible rfl))
      try simp only [Act.put, List.setIfInBounds_toArray, List.set_cons_zero, List.set_cons_succ]
      refine takeD (i := 2) (oi := { dst := some 141, op := _, type := _, pos := _, after := _, guard := _ }) (d := some 141) (v := ?vva141) rfl rfl (by kernel_rfl) (by kernel_rfl) (by kernel_rfl) ?dda141 (by rfl) ?yya141 hHeld ?rra141
      case dda141 => exact fun _ _ _ h => h
      case yya141 => (intro wx hSw; obtain ⟨y0, y1⟩ := hSw; go_simp; try (with_reducible rfl))
      try simp only [Act.put, List.setIfInBounds_toArray, List.set_cons_zero, List.set_cons_succ]
      refine takeD (i := 3) (oi := { dst := some 142, op := _, type := _, pos := _, after := _, guard := _ }) (d := some 142) (v := ?vva142) rfl rfl (by kernel_rfl) (by kernel_rfl) (by kernel_rfl) ?dda142 (by rfl) ?yya142 hHeld ?rra142
      case dda142 => exact fun _ _ _ h => h
      case yya142 => (intro wx hSw; obtain ⟨y0, y1⟩ := hSw; go_simp; try (with_reducible rfl))
      try simp only [Act.put, List.setIfInBounds_toArray, List.set_cons_zero, List.set_cons_succ]
      refine takeD (i := 4) (oi := { dst := some 143, op := _, type := _, pos := _, after := _, guard := _ }) (d := some 143) (v := ?vva143) rfl rfl (by kernel_rfl) (by kernel_rfl) (by kernel_rfl) ?dda143 (by rfl) ?yya143 hHeld ?rra143
      case dda143 => exact fun _ _ _ h => h
      case yya143 => (intro wx hSw; obtain ⟨y0, y1⟩ := hSw; go_simp; try (with_reducible rfl))
      try simp only [Act.put, List.setIfInBounds_toArray, List.set_cons_zero, List.set_cons_succ]
      refine takeD (i := 5) (oi := { dst := some 144, op := _, type := _, pos := _, after := _, guard := _ }) (d := some 144) (v := ?vva144) rfl rfl (by kernel_rfl) (by kernel_rfl) (by kernel_rfl) ?dda144 (by rfl) ?yya144 hHeld ?rra144
      case dda144 => exact fun _ _ _ h => h
      case yya144 => (intro wx hSw; obtain ⟨y0, y1⟩ := hSw; go_simp; try (with_reducible rfl))
      try simp only [Act.put, List.setIfInBounds_toArray, List.set_cons_zero, List.set_cons_succ]
      refine takeD (i := 6) (oi := { dst := some 145, op := _, type := _, pos := _, after := _, guard := _ }) (d := some 145) (v := ?vva145) rfl rfl (by kernel_rfl) (by kernel_rfl) (by kernel_rfl) ?dda145 (by rfl) ?yya145 hHeld ?rra145
      case dda145 => exact fun _ _ _ h => h
      case yya145 => (intro wx hSw; obtain ⟨y0, y1⟩ := hSw; go_simp; try (with_reducible rfl))
      try simp only [Act.put, List.setIfInBounds_toArray, List.set_cons_zero, List.set_cons_succ]
      refine takeD (i := 7) (oi := { dst := some 146, op := _, type := _, pos := _, after := _, guard := _ }) (d := some 146) (v := ?vva146) rfl rfl (by kernel_rfl) (by kernel_rfl) (by kernel_rfl) ?dda146 (by rfl) ?yya146 hHeld ?rra146
      case dda146 => exact fun _ _ _ h => h
      case yya146 => (intro wx hSw; obtain ⟨y0, y1⟩ := hSw; go_simp; try (with_reducible rfl))
      try simp only [Act.put, List.setIfInBounds_toArray, List.set_cons_zero, List.set_cons_succ]
      refine takeD (i := 8) (oi := { dst := some 147, op := _, type := _, pos := _, after := _, guard := _ }) (d := some 147) (v := ?vva147) rfl rfl (by kernel_rfl) (by kernel_rfl) (by kernel_rfl) ?dda147 (by rfl) ?yya147 hHeld ?rra147
      case dda147 => exact fun _ _ _ h => h
      case yya147 => (intro wx hSw; obtain ⟨y0, y1⟩ := hSw; go_simp; try (with_reducible rfl))
      try simp only [Act.put, List.setIfInBounds_toArray, List.set_cons_zero, List.set_cons_succ]
      refine takeD (i := 9) (oi := { dst := some 148, op := _, type := _, pos := _, after := _, guard := _ }) (d := some 148) (v := ?vva148) rfl rfl (by kernel_rfl) (by kernel_rfl) (by kernel_rfl) ?dda148 (by rfl) ?yya148 hHeld ?rra148
      case dda148 => exact fun _ _ _ h => h
      case yya148 => (intro wx hSw; obtain ⟨y0, y1⟩ := hSw; go_simp; try (with_reducible rfl))
      try simp only [Act.put, List.setIfInBounds_toArray, List.set_cons_zero, List.set_cons_succ]
      refine takeD (i := 10) (oi := { dst := some 149, op := _, type := _, pos := _, after := _, guard := _ }) (d := some 149) (v := ?vva149) rfl rfl (by kernel_rfl) (by kernel_rfl) (by kernel_rfl) ?dda149 (by rfl) ?yya149 hHeld ?rra149
      case dda149 => exact fun _ _ _ h => h
      case yya149 => (intro wx hSw; obtain ⟨y0, y1⟩ := hSw; go_simp; try (with_reducible rfl))
      try simp only [Act.put, List.setIfInBounds_toArray, List.set_cons_zero, List.set_cons_succ]
      refine takeD (i := 11) (oi := { dst := some 150, op := _, type := _, pos := _, after := _, guard := _ }) (d := some 150) (v := ?vva150) rfl rfl (by kernel_rfl) (by kernel_rfl) (by kernel_rfl) ?dda150 (by rfl) ?yya150 hHeld ?rra150
      case dda150 => exact fun _ _ _ h => h
      case yya150 => (intro wx hSw; obtain ⟨y0, y1⟩ := hSw; go_simp; try (with_reducible rfl))
      try simp only [Act.put, List.setIfInBounds_toArray, List.set_cons_zero, List.set_cons_succ]
      refine takeD (i := 12) (oi := { dst := some 151, op := _, type := _, pos := _, after := _, guard := _ }) (d := some 151) (v := ?vva151) rfl rfl (by kernel_rfl) (by kernel_rfl) (by kernel_rfl) ?dda151 (by rfl) ?yya151 hHeld ?rra151
      case dda151 => exact fun _ _ _ h => h
      case yya151 => (intro wx hSw; obtain ⟨y0, y1⟩ := hSw; go_simp; try (with_reducible rfl))
      try simp only [Act.put, List.setIfInBounds_toArray, List.set_cons_zero, List.set_cons_succ]
      refine takeD (i := 13) (oi := { dst := some 152, op := _, type := _, pos := _, after := _, guard := _ }) (d := some 152) (v := ?vva152) rfl rfl (by kernel_rfl) (by kernel_rfl) (by kernel_rfl) ?dda152 (by rfl) ?yya152 hHeld ?rra152
      case dda152 => exact fun _ _ _ h => h
      case yya152 => (intro wx hSw; obtain ⟨y0, y1⟩ := hSw; go_simp; try (with_reducible rfl))
      try simp only [Act.put, List.setIfInBounds_toArray, List.set_cons_zero, List.set_cons_succ]
      refine takeD (i := 14) (oi := { dst := some 153, op := _, type := _, pos := _, after := _, guard := _ }) (d := some 153) (v := ?vva153) rfl rfl (by kernel_rfl) (by kernel_rfl) (by kernel_rfl) ?dda153 (by rfl) ?yya153 hHeld ?rra153
      case dda153 => exact fun _ _ _ h => h
      case yya153 => (intro wx hSw; obtain ⟨y0, y1⟩ := hSw; go_simp; try (with_reducible rfl))
      try simp only [Act.put, List.setIfInBounds_toArray, List.set_cons_zero, List.set_cons_succ]
      refine takeD (i := 15) (oi := { dst := some 154, op := _, type := _, pos := _, after := _, guard := _ }) (d := some 154) (v := ?vva154) rfl rfl (by kernel_rfl) (by kernel_rfl) (by kernel_rfl) ?dda154 (by rfl) ?yya154 hHeld ?rra154
      case dda154 => exact fun _ _ _ h => h
      case yya154 => (intro wx hSw; obtain ⟨y0, y1⟩ := hSw; go_simp; try (with_reducible rfl))
      try simp only [Act.put, List.setIfInBounds_toArray, List.set_cons_zero, List.set_cons_succ]
      refine wpAnyH_ready (rs := [16]) (by kernel_rfl) (by simp) ?_
      refine AllReadyH.cons (o := { dst := some 155, op := _, type := _, pos := _, after := _, guard := _ }) rfl (fun K hK => ?_) AllReadyH.nil
      go_simp
      go_at_call 47
      have hcall := (stacked_any HE.out HZ.out HV0.out HSM.out) o n xs i width wr.drew HBW.out.drew (Blk.drew HM.out) HR2.out.drew (by simp; omega) (by omega) hip (by rw [← HF.out]; exact HX.out.1) (by rw [← HF.out]; exact HX.out.2)
      rw [← HF.out] at hcall
      refine hcall.mono ?_
      clear hcall
      rintro e w7 ⟨o7, rfl, hM7, hR7, hU7⟩
      have hU8 : Under base g wr w7 := (show Under base g wr wr.drew from ((Under.refl base g wr).drewN 1)).trans hU7
      have hO8 : OwnF w7 3 (g + 1) (p + 1) F := HO.out.block (hU8.block _ (by omega) (by omega))
      refine hK.out _ _ ?_ (fun hHeld3 => ?_)
      · exact ⟨hO8.cell (by omega), hO8.cell (by omega)⟩
      clear hK K
      try simp only [Act.put, List.setIfInBounds_toArray, List.set_cons_zero, List.set_cons_succ]
      refine wpAnyH_done (by kernel_rfl) ?_ _
      have hU9 := HU.out.trans hU8
      clear hHeld hHeld3 hU7 hU8 hO8 HM HR2 HU HO e1 e2 p0 p1 p2 q0 q1 q2
      go_wp2_with fail
      go_roundw
      case rel => exact ⟨i + 1, o7, by go_num, by omega, hM7, by rw [HL.out, HNN.out]; exact hR7, hU9⟩
      case measure => simp [intOf]; omega
    · obtain rfl : i = p := by omega
      have c7 : wr.cell? ⟨g, 7, none⟩ = some o := Blk.cell hM (i := 7) rfl
      obtain ⟨ao, co, rfl, _, _⟩ := RowL.slice hR
      go_wp2_with fail
      go_ret2
      exact ⟨_, rfl, hR.mono (by omega), hbel⟩
end Go.Proofs.Ytnigebnibikolaa.CB
