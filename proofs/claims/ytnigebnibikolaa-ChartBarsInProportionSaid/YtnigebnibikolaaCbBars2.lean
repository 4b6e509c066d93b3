


/-
  chart.Bars of a chart of lines.
-/
import Derived.Test.YtnigebnibikolaaCbBarsOk
import Derived.Deep.AppendLies
namespace Go.Proofs.Ytnigebnibikolaa.CB
open Go.RowKit Go.Law Go.Law.Cb Ref CH
set_option linter.unusedVariables false
set_option linter.unusedSimpArgs false
set_option maxRecDepth 100000
set_option maxHeartbeats 8000000 in
theorem bars_2 (a1 a2 : Option Addr) (p cp s cs : Nat) (sa : Nat → Option Addr) (sn sc : Nat → Nat) (sf : Nat → Nat → Int) (lo hi st width height : Int) (w : World) (hrows : RowsF w a2 s sa sn sc sf) (he : chErr 2 p s sn sf = 0) (hk : SP.chk lo hi st = 0)
    (hin : InB width height lo hi (lowL (x0 2 sf) (extL 2 sf s p)) (highL (x0 2 sf) (extL 2 sf s p))) :
    Calls Try.prog 11 #[.agg #[.int .i64 2, .slice a1 p cp, .slice a2 s cs], .agg #[.int .i64 lo, .int .i64 hi, .int .i64 st], .int .i64 width, .int .i64 height] w (BarsPost 2 lo hi width height sf p s w) := by
  obtain ⟨ii, hii, hz0, hz1, hz2⟩ := info_parts (show (Try.prog.info? 42).map (fun i => (i.zero, i.size, i.bytes)) = some (some (.agg #[.int .i64 0, .int .i64 0, .int .i64 0, .int .i64 0, .int .i64 0, .int .i64 0]), 6, 48) by kernel_rfl)
  obtain ⟨⟨hw1, hw2⟩, ⟨hh1, hh2⟩, hlow, hhigh⟩ := hin
  obtain ⟨_, hp0, hs0, hp2, hs2, _, hrow⟩ := chErr_zero he
  have ho := okV_of he
  have hfit : Fits 2 sf p s lo hi := ⟨hlow, hhigh⟩
  have hck := fun w1 (hb : Below w.heap.size w w1) => range_ok 2 a1 a2 p cp s cs sa sn sc sf w1 (hrows.below (Nat.le_refl _) hb) he
  unfold RangeOk at hck
  have HC := Lib.hid hck
  have HSC := Lib.hid (fun w1 => SP.check_any lo hi st w1)
  rw [hk] at HSC
  have hC0 := CS.start (w := w) (kind := 2) (a1 := a1) (a2 := a2) (p := p) (cp := cp) (s := s) (cs := cs) (lo := lo) (hi := hi) (st := st) 25 27
  have hxb := fun i (hi : i < p) => xF_bd (width := width) (p := p) (i := i) ⟨by omega, hw2⟩ hi
  have HXB := Lib.hid hxb
  have hed := fun w1 => edges_any width p w1 ⟨by omega, hw2⟩ hp0 (by omega)
  have HED := Lib.hid hed
  have HN := Lib.hid (fun q hq => (hrow q hq).1)
  have HCK := Lib.hid hk
  have HVL := Lib.hid (hfit.vals (by decide))
  obtain ⟨L, hL⟩ : ∃ L, L = lowL (x0 2 sf) (extL 2 sf s p) := ⟨_, rfl⟩
  obtain ⟨H, hH⟩ : ∃ H, H = highL (x0 2 sf) (extL 2 sf s p) := ⟨_, rfl⟩
  rw [← hL] at HC hlow
  rw [← hH] at HC hhigh
  clear hck hk he hrow hL hH hxb hed ho hfit
  go_enter Try.func11, Try.ntmps11
  go_wp2_with fail
  refine (HC.out _ hC0.bel).mono ?_
  rintro e w1 ⟨rfl, hb1⟩
  have hC1 := hC0.more hb1
  obtain ⟨hbel1, hlt1, ⟨p0, p1, p2⟩, q0, q1, q2⟩ := id hC1
  clear hb1 hC0 HC
  go_wp2_with fail
  refine (HSC.out _).mono ?_
  rintro e w2 ⟨rfl, hb2⟩
  have hC2 := hC1.more hb2
  clear hb2 hC1 HSC hbel1 hlt1 p0 p1 p2 q0 q1 q2
  obtain ⟨hbel2, hlt2, ⟨p0, p1, p2⟩, q0, q1, q2⟩ := id hC2
  have z1 : w.heap.size < w2.heap.size := by omega
  go_wp2_with fail
  refine (HED.out _).mono ?_
  rintro e w4 ⟨rfl, hO4, hb4⟩
  simp only [World.size_alloc] at hO4 ⊢
  have hM4 : MkAt w4 w2.heap.size 2 a1 a2 p cp s cs lo hi st height (.slice none 0 0) := Blk.below (Blk.new w2 (mkCells 2 a1 a2 p cp s cs lo hi st height (.slice none 0 0)) 95) hb4 (by simp)
  have hC4 := (hC2.alloc _).more hb4
  have hs4 := hb4.size
  simp at hs4
  have hbel4 := hC4.bel
  obtain ⟨g, hg⟩ : ∃ g, g = w2.heap.size := ⟨_, rfl⟩
  rw [← hg] at hM4 hO4 hs4 hlt2 ⊢
  have hO4l := hO4.lt
  clear hg
  have E : Env w 2 a1 a2 p cp s cs sa sn sc sf lo hi st height g w4.heap.size := ⟨hrows, by omega, by omega, HN.out, ⟨hs0, hs2, hp2⟩, HCK.out, HVL.out, ⟨hh1, hh2⟩⟩
  have HE := Lib.hid E
  obtain ⟨F, hF⟩ : ∃ F, F = edF width p := ⟨_, rfl⟩
  have HF := Lib.hid (show F = xF width p by rw [hF]; rfl)
  rw [← hF] at hO4
  obtain ⟨base, hbs⟩ : ∃ base, base = w4.heap.size := ⟨_, rfl⟩
  rw [← hbs] at HE
  have hbs1 : base ≤ w4.heap.size := by omega
  have hbs2 : w4.heap.size ≤ base := by omega
  have HC4 := Lib.hid hC4
  have HO4 := Lib.hid hO4
  clear hb4 hbel2 p0 p1 p2 q0 q1 q2 hC2 HED hF hrows hbs hC4 E
  obtain ⟨hbel4', hlt4, ⟨p0, p1, p2⟩, q0, q1, q2⟩ := id HC4.out
  clear hbel4'
  go_wp2_with fail
  go_loopw [75] (fun iv wr => ∃ (i : Nat) (o : Value), iv = .int .i64 i ∧ i ≤ p ∧ MkAt wr g 2 a1 a2 p cp s cs lo hi st height o ∧ RowL wr base 42 6 o (i * s) ((barsL 2 lo hi width height sf p s i).map (Value.int .i64)) ∧ Under base g w4 wr) (fun iv _ => p - (intOf iv).toNat)
  case atStart => exact ⟨0, _, rfl, by omega, hM4, by rw [Nat.zero_mul]; exact RowL.nil _ _ _ _, Under.refl _ _ _⟩
  case round =>
    clear hM4 hO4 p0 p1 p2 q0 q1 q2
    obtain ⟨i, o, rfl, hi', hM, hR, hU⟩ := hrel
    have hC := HC4.out.under hU (by omega) (by omega)
    obtain ⟨hbel, hlt, ⟨p0, p1, p2⟩, q0, q1, q2⟩ := id hC
    have hsU := hU.size
    by_cases hip : i < p
    · have hO : OwnF wr 3 (g + 1) (p + 1) F := HO4.out.block (hU.block _ (by omega) (by omega))
      have e1 := hO.cell (show i < p + 1 by omega)
      have e2 := hO.cell (show i + 1 < p + 1 by omega)
      have hx := HXB.out i hip
      have hHF := HF.out
      rw [← hHF] at hx
      have hn24 := mul_le_2400 (show i ≤ 200 by omega) hs2
      obtain ⟨n, hnn⟩ : ∃ n, n = i * s := ⟨_, rfl⟩
      have HNN := Lib.hid (show (i + 1) * s = n + s by rw [hnn, Nat.succ_mul])
      rw [← hnn] at hR hn24
      have HL := Lib.hid (show barsL 2 lo hi width height sf p s (i + 1) = barsL 2 lo hi width height sf p s i ++ barsP 2 lo hi width height sf p s i s from rfl)
      obtain ⟨xs, hxs⟩ : ∃ xs, xs = barsL 2 lo hi width height sf p s i := ⟨_, rfl⟩
      rw [← hxs] at hR HL
      have j1 : (0 : Int) ≤ (i : Int) := by omega
      have j2 : (i : Int) < (p : Int) + 1 := by omega
      have j3 : (0 : Int) ≤ (i : Int) + 1 := by omega
      have j4 : (i : Int) + 1 < (p : Int) + 1 := by omega
      have t1 : ((i : Int) + 1).toNat = i + 1 := by omega
      have u1 : IntKind.i64.wrap ((i : Int) + 1) = (i : Int) + 1 := IntWalk.i64_in _ ⟨by omega, by omega⟩
      have u2 : IntKind.i64.wrap (F (i + 1) - F i) = F (i + 1) - F i := IntWalk.i64_in _ ⟨by omega, by omega⟩
      have HM := Lib.hid hM
      have HR2 := Lib.hid hR
      have HU := Lib.hid hU
      have HO := Lib.hid hO
      have HX := Lib.hid hx
      have HBW := Lib.hid hbel
      clear hM hR hU hO hx hHF hnn hxs hC hbel
      have hxo : xF width p i = F i := by rw [← HF.out]
      go_wp2_with fail
      obtain ⟨wo, rfl⟩ : ∃ wo : World, wo = wr := ⟨_, rfl⟩
      go_loopw [83] (fun qv wr => ∃ (k : Nat) (o : Value), qv = .int .i64 k ∧ k ≤ s ∧ MkAt wr g 2 a1 a2 p cp s cs lo hi st height o ∧ RowL wr base 42 6 o (n + k) ((xs ++ barsP 2 lo hi width height sf p s i k).map (Value.int .i64)) ∧ Under base g w4 wr) (fun qv _ => s - (intOf qv).toNat)
      case atStart => exact ⟨0, o, rfl, by omega, HM.out, by rw [show barsP 2 lo hi width height sf p s i 0 = [] from rfl, List.append_nil]; exact HR2.out, HU.out⟩
      case round =>
        clear HM HR2 HU HO p0 p1 p2 q0 q1 q2 hsU hlt HBW e1 e2
        obtain ⟨k, o, rfl, hks, hM, hR, hU⟩ := hrel
        have hC := HC4.out.under hU (by omega) (by omega)
        obtain ⟨hbel, hlt, ⟨p0, p1, p2⟩, q0, q1, q2⟩ := id hC
        have hsU := hU.size
        by_cases hk2 : k < s
        · have hO : OwnF wr 3 (g + 1) (p + 1) F := HO4.out.block (hU.block _ (by omega) (by omega))
          have hrw := HE.out.rows.below (Nat.le_refl _) hbel
          obtain ⟨b, off, rfl, hqq⟩ := hrw hs0
          obtain ⟨d1, _, hi3⟩ := hqq k hk2
          have hsn := HN.out k hk2
          rw [hsn] at d1 hi3
          obtain ⟨b3, off3, hsa, hc3⟩ := hi3 (by omega)
          have d3 := hc3 i hip
          rw [hsa] at d1
          have hb3 : b3 < w.heap.size := by
            obtain ⟨b4, off4, h4, hq4⟩ := HE.out.rows hs0
            cases h4
            obtain ⟨_, _, hi4⟩ := hq4 k hk2
            rw [hsn] at hi4
            obtain ⟨b5, off5, h5, hc5⟩ := hi4 (by omega)
            rw [hsa] at h5
            cases h5
            exact lt_of_cell (hc5 i hip)
          have hvk := HVL.out k hk2 i hip
          have e1 := hO.cell (show i < p + 1 by omega)
          have e2 := hO.cell (show i + 1 < p + 1 by omega)
          have hx1 := HX.out
          have HL := Lib.hid (show xs ++ barsP 2 lo hi width height sf p s i (k + 1) = (xs ++ barsP 2 lo hi width height sf p s i k) ++ [(k : Int), (i : Int), (F i + F (i + 1)) / 2, yF lo hi height (sf k i), 0, 0] by
            rw [HF.out, List.append_assoc]; rfl)
          obtain ⟨v, hv⟩ : ∃ v, v = sf k i := ⟨_, rfl⟩
          rw [← hv] at d3 hvk HL
          obtain ⟨Y, hY⟩ : ∃ Y, Y = yF lo hi height v := ⟨_, rfl⟩
          rw [← hY] at HL
          have HYQ := Lib.hid hY
          obtain ⟨ys, hys⟩ : ∃ ys, ys = xs ++ barsP 2 lo hi width height sf p s i k := ⟨_, rfl⟩
          rw [← hys] at hR HL
          have j5 : (i : Int) < (p : Int) := by omega
          have u3 : IntKind.i64.wrap (F i + F (i + 1)) = F i + F (i + 1) := IntWalk.i64_in _ ⟨by omega, by omega⟩
          have u4 : (F i + F (i + 1)).tdiv 2 = (F i + F (i + 1)) / 2 := Int.tdiv_eq_ediv_of_nonneg (by omega)
          have u5 : IntKind.i64.wrap ((F i + F (i + 1)) / 2) = (F i + F (i + 1)) / 2 := IntWalk.i64_in _ ⟨by omega, by omega⟩
          have c7 : wr.cell? ⟨g, 7, none⟩ = some o := Blk.cell hM (i := 7) rfl
          have HM := Lib.hid hM
          have HR2 := Lib.hid hR
          have HU := Lib.hid hU
          have HO := Lib.hid hO
          clear hqq hi3 hc3 hsn hsa hrw hv hY hys hM hR hU hO hC hbel hx1
          go_wp2_with fail
          refine wp_region_held_drew (S := fun w' => w'.cell? ⟨g + 1, i, none⟩ = some (.int .i64 (F i)) ∧ w'.cell? ⟨g + 1, i + 1, none⟩ = some (.int .i64 (F (i + 1))) ∧ w'.cell? ⟨b3, off3 + i, none⟩ = some (.int .i64 v)) (by kernel_rfl) (by exact ⟨by simpa using e1, by simpa using e2, by simpa using d3⟩) ?_
          intro hHeld
          have c7d : wr.drew.cell? ⟨g, 7, none⟩ = some o := by simpa using c7
          clear c7 e1 e2 d1 d3 p0 p1 p2 q0 q1 q2
          refine takeD (i := 0) (oi := { dst := some 88, op := _, type := _, pos := _, after := _, guard := _ }) (d := some 88) (v := ?vva88) rfl rfl (by kernel_rfl) (by kernel_rfl) (by kernel_rfl) ?dda88 (by rfl) ?yya88 hHeld ?rra88
          case dda88 => exact fun _ _ _ h => h
          case yya88 => (intro wx hSw; obtain ⟨y0, y1, y2⟩ := hSw; go_simp; try (with_reducible rfl))
          try simp only [Act.put, List.setIfInBounds_toArray, List.set_cons_zero, List.set_cons_succ]
          refine takeD (i := 1) (oi := { dst := some 89, op := _, type := _, pos := _, after := _, guard := _ }) (d := some 89) (v := ?vva89) rfl rfl (by kernel_rfl) (by kernel_rfl) (by kernel_rfl) ?dda89 (by rfl) ?yya89 hHeld ?rra89
          case dda89 => exact fun _ _ _ h => h
          case yya89 => (intro wx hSw; obtain ⟨y0, y1, y2⟩ := hSw; go_simp; try (with_reducible rfl))
          try simp only [Act.put, List.setIfInBounds_toArray, List.set_cons_zero, List.set_cons_succ]
          refine takeD (i := 2) (oi := { dst := some 90, op := _, type := _, pos := _, after := _, guard := _ }) (d := some 90) (v := ?vva90) rfl rfl (by kernel_rfl) (by kernel_rfl) (by kernel_rfl) ?dda90 (by rfl) ?yya90 hHeld ?rra90
          case dda90 => exact fun _ _ _ h => h
          case yya90 => (intro wx hSw; obtain ⟨y0, y1, y2⟩ := hSw; go_simp; try (with_reducible rfl))
          try simp only [Act.put, List.setIfInBounds_toArray, List.set_cons_zero, List.set_cons_succ]
          refine takeD (i := 3) (oi := { dst := some 91, op := _, type := _, pos := _, after := _, guard := _ }) (d := some 91) (v := ?vva91) rfl rfl (by kernel_rfl) (by kernel_rfl) (by kernel_rfl) ?dda91 (by rfl) ?yya91 hHeld ?rra91
          case dda91 => exact fun _ _ _ h => h
          case yya91 => (intro wx hSw; obtain ⟨y0, y1, y2⟩ := hSw; go_simp; try (with_reducible rfl))
          try simp only [Act.put, List.setIfInBounds_toArray, List.set_cons_zero, List.set_cons_succ]
          refine takeD (i := 5) (oi := { dst := some 93, op := _, type := _, pos := _, after := _, guard := _ }) (d := some 93) (v := ?vva93) rfl rfl (by kernel_rfl) (by kernel_rfl) (by kernel_rfl) ?dda93 (by rfl) ?yya93 hHeld ?rra93
          case dda93 => exact fun _ _ _ h => h
          case yya93 => (intro wx hSw; obtain ⟨y0, y1, y2⟩ := hSw; go_simp; try (with_reducible rfl))
          try simp only [Act.put, List.setIfInBounds_toArray, List.set_cons_zero, List.set_cons_succ]
          refine takeD (i := 6) (oi := { dst := some 94, op := _, type := _, pos := _, after := _, guard := _ }) (d := some 94) (v := ?vva94) rfl rfl (by kernel_rfl) (by kernel_rfl) (by kernel_rfl) ?dda94 (by rfl) ?yya94 hHeld ?rra94
          case dda94 => exact fun _ _ _ h => h
          case yya94 => (intro wx hSw; obtain ⟨y0, y1, y2⟩ := hSw; go_simp; try (with_reducible rfl))
          try simp only [Act.put, List.setIfInBounds_toArray, List.set_cons_zero, List.set_cons_succ]
          refine takeD (i := 7) (oi := { dst := some 95, op := _, type := _, pos := _, after := _, guard := _ }) (d := some 95) (v := ?vva95) rfl rfl (by kernel_rfl) (by kernel_rfl) (by kernel_rfl) ?dda95 (by rfl) ?yya95 hHeld ?rra95
          case dda95 => exact fun _ _ _ h => h
          case yya95 => (intro wx hSw; obtain ⟨y0, y1, y2⟩ := hSw; go_simp; try (with_reducible rfl))
          try simp only [Act.put, List.setIfInBounds_toArray, List.set_cons_zero, List.set_cons_succ]
          refine takeD (i := 8) (oi := { dst := some 96, op := _, type := _, pos := _, after := _, guard := _ }) (d := some 96) (v := ?vva96) rfl rfl (by kernel_rfl) (by kernel_rfl) (by kernel_rfl) ?dda96 (by rfl) ?yya96 hHeld ?rra96
          case dda96 => exact fun _ _ _ h => h
          case yya96 => (intro wx hSw; obtain ⟨y0, y1, y2⟩ := hSw; go_simp; try (with_reducible rfl))
          try simp only [Act.put, List.setIfInBounds_toArray, List.set_cons_zero, List.set_cons_succ]
          refine takeD (i := 9) (oi := { dst := some 97, op := _, type := _, pos := _, after := _, guard := _ }) (d := some 97) (v := ?vva97) rfl rfl (by kernel_rfl) (by kernel_rfl) (by kernel_rfl) ?dda97 (by rfl) ?yya97 hHeld ?rra97
          case dda97 => exact fun _ _ _ h => h
          case yya97 => (intro wx hSw; obtain ⟨y0, y1, y2⟩ := hSw; go_simp; try (with_reducible rfl))
          try simp only [Act.put, List.setIfInBounds_toArray, List.set_cons_zero, List.set_cons_succ]
          refine takeD (i := 10) (oi := { dst := some 98, op := _, type := _, pos := _, after := _, guard := _ }) (d := some 98) (v := ?vva98) rfl rfl (by kernel_rfl) (by kernel_rfl) (by kernel_rfl) ?dda98 (by rfl) ?yya98 hHeld ?rra98
          case dda98 => exact fun _ _ _ h => h
          case yya98 => (intro wx hSw; obtain ⟨y0, y1, y2⟩ := hSw; go_simp; try (with_reducible rfl))
          try simp only [Act.put, List.setIfInBounds_toArray, List.set_cons_zero, List.set_cons_succ]
          refine takeD (i := 11) (oi := { dst := some 99, op := _, type := _, pos := _, after := _, guard := _ }) (d := some 99) (v := ?vva99) rfl rfl (by kernel_rfl) (by kernel_rfl) (by kernel_rfl) ?dda99 (by rfl) ?yya99 hHeld ?rra99
          case dda99 => exact fun _ _ _ h => h
          case yya99 => (intro wx hSw; obtain ⟨y0, y1, y2⟩ := hSw; go_simp; try (with_reducible rfl))
          try simp only [Act.put, List.setIfInBounds_toArray, List.set_cons_zero, List.set_cons_succ]
          refine takeD (i := 12) (oi := { dst := some 100, op := _, type := _, pos := _, after := _, guard := _ }) (d := some 100) (v := ?vva100) rfl rfl (by kernel_rfl) (by kernel_rfl) (by kernel_rfl) ?dda100 (by rfl) ?yya100 hHeld ?rra100
          case dda100 => exact fun _ _ _ h => h
          case yya100 => (intro wx hSw; obtain ⟨y0, y1, y2⟩ := hSw; go_simp; try (with_reducible rfl))
          try simp only [Act.put, List.setIfInBounds_toArray, List.set_cons_zero, List.set_cons_succ]
          refine takeD (i := 13) (oi := { dst := some 101, op := _, type := _, pos := _, after := _, guard := _ }) (d := some 101) (v := ?vva101) rfl rfl (by kernel_rfl) (by kernel_rfl) (by kernel_rfl) ?dda101 (by rfl) ?yya101 hHeld ?rra101
          case dda101 => exact fun _ _ _ h => h
          case yya101 => (intro wx hSw; obtain ⟨y0, y1, y2⟩ := hSw; go_simp; try (with_reducible rfl))
          try simp only [Act.put, List.setIfInBounds_toArray, List.set_cons_zero, List.set_cons_succ]
          refine takeD (i := 14) (oi := { dst := some 102, op := _, type := _, pos := _, after := _, guard := _ }) (d := some 102) (v := ?vva102) rfl rfl (by kernel_rfl) (by kernel_rfl) (by kernel_rfl) ?dda102 (by rfl) ?yya102 hHeld ?rra102
          case dda102 => exact fun _ _ _ h => h
          case yya102 => (intro wx hSw; obtain ⟨y0, y1, y2⟩ := hSw; go_simp; try (with_reducible rfl))
          try simp only [Act.put, List.setIfInBounds_toArray, List.set_cons_zero, List.set_cons_succ]
          refine takeD (i := 15) (oi := { dst := some 103, op := _, type := _, pos := _, after := _, guard := _ }) (d := some 103) (v := ?vva103) rfl rfl (by kernel_rfl) (by kernel_rfl) (by kernel_rfl) ?dda103 (by rfl) ?yya103 hHeld ?rra103
          case dda103 => exact fun _ _ _ h => h
          case yya103 => (intro wx hSw; obtain ⟨y0, y1, y2⟩ := hSw; go_simp; try (with_reducible rfl))
          try simp only [Act.put, List.setIfInBounds_toArray, List.set_cons_zero, List.set_cons_succ]
          refine takeD (i := 16) (oi := { dst := some 104, op := _, type := _, pos := _, after := _, guard := _ }) (d := some 104) (v := ?vva104) rfl rfl (by kernel_rfl) (by kernel_rfl) (by kernel_rfl) ?dda104 (by rfl) ?yya104 hHeld ?rra104
          case dda104 => exact fun _ _ _ h => h
          case yya104 => (intro wx hSw; obtain ⟨y0, y1, y2⟩ := hSw; go_simp; try (with_reducible rfl))
          try simp only [Act.put, List.setIfInBounds_toArray, List.set_cons_zero, List.set_cons_succ]
          refine takeD (i := 17) (oi := { dst := some 105, op := _, type := _, pos := _, after := _, guard := _ }) (d := some 105) (v := ?vva105) rfl rfl (by kernel_rfl) (by kernel_rfl) (by kernel_rfl) ?dda105 (by rfl) ?yya105 hHeld ?rra105
          case dda105 => exact fun _ _ _ h => h
          case yya105 => (intro wx hSw; obtain ⟨y0, y1, y2⟩ := hSw; go_simp; try (with_reducible rfl))
          try simp only [Act.put, List.setIfInBounds_toArray, List.set_cons_zero, List.set_cons_succ]
          refine takeD (i := 18) (oi := { dst := some 106, op := _, type := _, pos := _, after := _, guard := _ }) (d := some 106) (v := ?vva106) rfl rfl (by kernel_rfl) (by kernel_rfl) (by kernel_rfl) ?dda106 (by rfl) ?yya106 hHeld ?rra106
          case dda106 => exact fun _ _ _ h => h
          case yya106 => (intro wx hSw; obtain ⟨y0, y1, y2⟩ := hSw; go_simp; try (with_reducible rfl))
          try simp only [Act.put, List.setIfInBounds_toArray, List.set_cons_zero, List.set_cons_succ]
          refine takeD (i := 19) (oi := { dst := some 107, op := _, type := _, pos := _, after := _, guard := _ }) (d := some 107) (v := ?vva107) rfl rfl (by kernel_rfl) (by kernel_rfl) (by kernel_rfl) ?dda107 (by rfl) ?yya107 hHeld ?rra107
          case dda107 => exact fun _ _ _ h => h
          case yya107 => (intro wx hSw; obtain ⟨y0, y1, y2⟩ := hSw; go_simp; try (with_reducible rfl))
          try simp only [Act.put, List.setIfInBounds_toArray, List.set_cons_zero, List.set_cons_succ]
          refine takeD (i := 20) (oi := { dst := some 108, op := _, type := _, pos := _, after := _, guard := _ }) (d := some 108) (v := ?vva108) rfl rfl (by kernel_rfl) (by kernel_rfl) (by kernel_rfl) ?dda108 (by rfl) ?yya108 hHeld ?rra108
          case dda108 => exact fun _ _ _ h => h
          case yya108 => (intro wx hSw; obtain ⟨y0, y1, y2⟩ := hSw; go_simp; try (with_reducible rfl))
          try simp only [Act.put, List.setIfInBounds_toArray, List.set_cons_zero, List.set_cons_succ]
          refine takeD (i := 21) (oi := { dst := some 109, op := _, type := _, pos := _, after := _, guard := _ }) (d := some 109) (v := ?vva109) rfl rfl (by kernel_rfl) (by kernel_rfl) (by kernel_rfl) ?dda109 (by rfl) ?yya109 hHeld ?rra109
          case dda109 => exact fun _ _ _ h => h
          case yya109 => (intro wx hSw; obtain ⟨y0, y1, y2⟩ := hSw; go_simp; try (with_reducible rfl))
          try simp only [Act.put, List.setIfInBounds_toArray, List.set_cons_zero, List.set_cons_succ]
          refine takeD (i := 22) (oi := { dst := some 110, op := _, type := _, pos := _, after := _, guard := _ }) (d := some 110) (v := ?vva110) rfl rfl (by kernel_rfl) (by kernel_rfl) (by kernel_rfl) ?dda110 (by rfl) ?yya110 hHeld ?rra110
          case dda110 => exact fun _ _ _ h => h
          case yya110 => (intro wx hSw; obtain ⟨y0, y1, y2⟩ := hSw; go_simp; try (with_reducible rfl))
          try simp only [Act.put, List.setIfInBounds_toArray, List.set_cons_zero, List.set_cons_succ]
          refine wpAnyH_ready (rs := [4, 23]) (by kernel_rfl) (by simp) ?_
          refine AllReadyH.cons (o := { dst := some 92, op := _, type := _, pos := _, after := _, guard := _ }) rfl (fun K hK => ?_) ?_
          · go_simp
            refine hK.out _ _ (by exact hHeld) (fun hHl => ?_)
            clear hK K
            try simp only [Act.put, List.setIfInBounds_toArray, List.set_cons_zero, List.set_cons_succ]
            refine wpAnyH_ready (rs := [23]) (by kernel_rfl) (by simp) ?_
            refine AllReadyH.cons (o := { dst := some 111, op := _, type := _, pos := _, after := _, guard := _ }) rfl (fun K hK => ?_) AllReadyH.nil
            go_simp
            go_at_call 48
            refine (y_any g 2 a1 (some ⟨b, off, none⟩) p cp s cs lo hi st height o v wr.drew (Blk.drew HM.out) HCK.out hvk ⟨hh1, hh2⟩).mono ?_
            rintro e w6 ⟨rfl, hb6⟩
            rw [← HYQ.out]
            have hs6 := hb6.size
            simp only [World.size_drew] at hs6
            have hM6 : MkAt w6 g 2 a1 (some ⟨b, off, none⟩) p cp s cs lo hi st height o := Blk.below (Blk.drew HM.out) hb6 (by have := Blk.lt HM.out; simpa using this)
            have hO6 : OwnF w6 3 (g + 1) (p + 1) F := OwnF.below HO.out.drew hb6 (by have := HO.out.lt; simpa using this)
            have hR6 : RowL w6 base 42 6 o (n + k) (ys.map (Value.int .i64)) := HR2.out.drew.below hb6 (by simp)
            have hU6 : Under base g w4 w6 := HU.out.trans ((show Under base g wr wr.drew from ((Under.refl base g wr).drewN 1)).trans (Under.of_below hb6 (by simp; omega)))
            have x3 : w6.cell? ⟨b3, off3 + i, none⟩ = some (.int .i64 v) := (hb6.cell (by simp; omega)).trans hHl.2.2
            have x7 : w6.cell? ⟨g, 7, none⟩ = some o := Blk.cell hM6 (i := 7) rfl
            have HM6 := Lib.hid hM6
            have HR6 := Lib.hid hR6
            have HU6 := Lib.hid hU6
            have HO6 := Lib.hid hO6
            clear hb6 hM6 hR6 hU6 hO6
            refine hK.out _ _ ⟨HO6.out.cell (by omega), HO6.out.cell (by omega), x3⟩ (fun hHy => ?_)
            clear hK K
            try simp only [Act.put, List.setIfInBounds_toArray, List.set_cons_zero, List.set_cons_succ]
            refine takeD (i := 24) (oi := { dst := some 112, op := _, type := _, pos := _, after := _, guard := _ }) (d := some 112) (v := ?vvb112) rfl rfl (by kernel_rfl) (by kernel_rfl) (by kernel_rfl) ?ddb112 (by rfl) ?yyb112 hHy ?rrb112
            case ddb112 => exact fun _ _ _ h => h
            case yyb112 => (intro wx hSw; obtain ⟨y0, y1, y2⟩ := hSw; go_simp; try (with_reducible rfl))
            try simp only [Act.put, List.setIfInBounds_toArray, List.set_cons_zero, List.set_cons_succ]
            refine wpAnyH_ready (rs := [25]) (by kernel_rfl) (by simp) ?_
            refine AllReadyH.cons (o := { dst := some 113, op := _, type := _, pos := _, after := _, guard := _ }) rfl (fun K hK => ?_) AllReadyH.nil
            go_simp
            refine hK.out _ _ ?_ (fun hHs => ?_)
            · obtain ⟨h1, h2, h3⟩ := hHy
              exact ⟨((Below.refl w6.heap.size w6).alloc (Nat.le_refl _) _).cell (lt_of_cell h1) |>.trans h1, ((Below.refl w6.heap.size w6).alloc (Nat.le_refl _) _).cell (lt_of_cell h2) |>.trans h2, ((Below.refl w6.heap.size w6).alloc (Nat.le_refl _) _).cell (lt_of_cell h3) |>.trans h3⟩
            clear hK K
            try simp only [Act.put, List.setIfInBounds_toArray, List.set_cons_zero, List.set_cons_succ]
            refine wpAnyH_ready (rs := [26]) (by kernel_rfl) (by simp) ?_
            refine AllReadyH.cons (o := { dst := some 114, op := _, type := _, pos := _, after := _, guard := _ }) rfl (fun K hK => ?_) AllReadyH.nil
            refine step_append_lies _ (by rfl) _ _ _ (by rfl) base 42 ii (.agg #[.int .i64 0, .int .i64 0, .int .i64 0, .int .i64 0, .int .i64 0, .int .i64 0]) 6 48 Try.underlying32 hii hz0 hz1 hz2 (by rfl) (by decide) o (n + k) _ (by rfl) (HR6.out.alloc _) ⟨w6.heap.size, 0, none⟩ 1 1 [.int .i64 (k : Int), .int .i64 (i : Int), .int .i64 ((F i + F (i + 1)) / 2), .int .i64 Y, .int .i64 0, .int .i64 0] (by rfl) (by rfl) ?c1 ?c2 (by omega) (by unfold maxLen; omega) (by omega) (by simp; omega) (w6.heap.size + 1) (by simp) ?_
            case c1 =>
              intro j u hj
              match j, hj with
              | 0, hj => simp at hj; subst hj; simp [Addr.add]
              | 1, hj => simp at hj; subst hj; simp [Addr.add]
              | 2, hj => simp at hj; subst hj; simp [Addr.add]
              | 3, hj => simp at hj; subst hj; simp [Addr.add]
              | 4, hj => simp at hj; subst hj; simp [Addr.add]
              | 5, hj => simp at hj; subst hj; simp [Addr.add]
            case c2 => first | exact ⟨rfl, rfl, rfl, rfl, rfl, rfl⟩ | (intro u hu; simp at hu; rcases hu with rfl | rfl | rfl | rfl | rfl | rfl <;> rfl)
            intro g7 cap7 w7 hown hgrow hblk hg7
            have hgo : some g ≠ o.ownBlock := fun h => by have := RowL.ge HR6.out _ h.symm; omega
            have hxo : some (g + 1) ≠ o.ownBlock := fun h => by have := RowL.ge HR6.out _ h.symm; omega
            have hM7 : MkAt w7 g 2 a1 (some ⟨b, off, none⟩) p cp s cs lo hi st height o := (Blk.alloc HM6.out _).block (hgrow.block g (by have := Blk.lt HM6.out; simp; omega) hgo)
            have hO7 : OwnF w7 3 (g + 1) (p + 1) F := (HO6.out.alloc _).block (hgrow.block _ (by have := HO6.out.lt; simp; omega) hxo)
            have hU7 : Under base g w4 w7 := HU6.out.trans (Under.of_aside (((Aside.refl g o w6).alloc _).grown hgrow) (by omega) (RowL.ge HR6.out))
            have y3 : w7.cell? ⟨b3, off3 + i, none⟩ = some (.int .i64 v) := by
              refine ((((Aside.refl g o w6).alloc _).grown hgrow).cell (p := ⟨b3, off3 + i, none⟩) (by simp; omega) (by simp; omega) ?_).trans x3
              intro h; have := RowL.ge HR6.out _ h; simp at this; omega
            have HO7 := Lib.hid hown
            have HM7 := Lib.hid hM7
            have HU7 := Lib.hid hU7
            have HX7 := Lib.hid hO7
            have d7 : w7.cell? ⟨g, 7, none⟩ = some o := Blk.cell hM7 (i := 7) rfl
            have f7 := Blk.frozen hM7 7
            have hgv : g7 ≠ g := fun h => by have := RowL.ge hown g7 rfl; omega
            clear hown hgrow hblk hgo hxo hM7 hO7 hU7
            refine hK.out _ _ ⟨HX7.out.cell (by omega), HX7.out.cell (by omega), y3⟩ (fun hHa => ?_)
            clear hK K
            try simp only [Act.put, List.setIfInBounds_toArray, List.set_cons_zero, List.set_cons_succ]
            refine takeD (i := 27) (oi := { dst := some 115, op := _, type := _, pos := _, after := _, guard := _ }) (d := some 115) (v := ?vvc115) rfl rfl (by kernel_rfl) (by kernel_rfl) (by kernel_rfl) ?ddc115 (by rfl) ?yyc115 hHa ?rrc115
            case ddc115 => exact fun _ _ _ h => h
            case yyc115 => (intro wx hSw; obtain ⟨y0, y1, y2⟩ := hSw; go_simp; try (with_reducible rfl))
            try simp only [Act.put, List.setIfInBounds_toArray, List.set_cons_zero, List.set_cons_succ]
            refine takeD (i := 28) (oi := { dst := some 116, op := _, type := _, pos := _, after := _, guard := _ }) (d := some 116) (v := ?vvc116) rfl rfl (by kernel_rfl) (by kernel_rfl) (by kernel_rfl) ?ddc116 (by rfl) ?yyc116 hHa ?rrc116
            case ddc116 => exact fun _ _ _ h => h
            case yyc116 => (intro wx hSw; obtain ⟨y0, y1, y2⟩ := hSw; go_simp; try (with_reducible rfl))
            try simp only [Act.put, List.setIfInBounds_toArray, List.set_cons_zero, List.set_cons_succ]
            refine wpAnyH_ready (rs := [29]) (by kernel_rfl) (by simp) ?_
            refine AllReadyH.cons (o := { dst := none, op := _, type := _, pos := _, after := _, guard := _ }) rfl (fun K hK => ?_) AllReadyH.nil
            go_simp
            have hX8 : OwnF (w7.setCell ⟨g, 7, none⟩ (.slice (some ⟨g7, 0, none⟩) (n + k + 1) cap7)) 3 (g + 1) (p + 1) F := HX7.out.other (by simp) _
            have z3 : (w7.setCell ⟨g, 7, none⟩ (.slice (some ⟨g7, 0, none⟩) (n + k + 1) cap7)).cell? ⟨b3, off3 + i, none⟩ = some (.int .i64 v) := (World.cell?_setCell_far _ _ _ _ (by simp; omega)).trans y3
            refine hK.out _ _ ⟨hX8.cell (by omega), hX8.cell (by omega), z3⟩ (fun hHb => ?_)
            clear hK K
            try simp only [Act.put, List.setIfInBounds_toArray, List.set_cons_zero, List.set_cons_succ]
            refine wpAnyH_done (by kernel_rfl) ?_ _
            have HM8 := Lib.hid (HM7.out.set 7 (.slice (some ⟨g7, 0, none⟩) (n + k + 1) cap7))
            have HR8 := Lib.hid (RowL.other HO7.out (a := ⟨g, 7, none⟩) (by simp [Value.ownBlock]; exact hgv) (.slice (some ⟨g7, 0, none⟩) (n + k + 1) cap7))
            have HU8 := Lib.hid (HU7.out.trans (Under.of_aside ((Aside.refl g (.slice none 0 0) w7).setR 7 (.slice (some ⟨g7, 0, none⟩) (n + k + 1) cap7)) (by have := HU7.out.size; omega) (fun k hk => by simp [Value.ownBlock] at hk)))
            clear hHa hHb hX8 z3 y3 d7 f7 x3 x7 HM HR2 HU HO HX7 HO7 HM7 HU7 HM6 HR6 HU6 HO6
            go_wp2_with fail
            go_roundw
            case rel => exact ⟨k + 1, _, by go_num, by omega, HM8.out, by rw [HL.out, List.map_append, ← Nat.add_assoc]; simpa using HR8.out, HU8.out⟩
            case measure => simp [intOf]; omega
          · refine AllReadyH.cons (o := { dst := some 111, op := _, type := _, pos := _, after := _, guard := _ }) rfl (fun K hK => ?_) AllReadyH.nil
            go_simp
            go_at_call 48
            refine (y_any g 2 a1 (some ⟨b, off, none⟩) p cp s cs lo hi st height o v wr.drew (Blk.drew HM.out) HCK.out hvk ⟨hh1, hh2⟩).mono ?_
            rintro e w6 ⟨rfl, hb6⟩
            rw [← HYQ.out]
            have hs6 := hb6.size
            simp only [World.size_drew] at hs6
            have hM6 : MkAt w6 g 2 a1 (some ⟨b, off, none⟩) p cp s cs lo hi st height o := Blk.below (Blk.drew HM.out) hb6 (by have := Blk.lt HM.out; simpa using this)
            have hO6 : OwnF w6 3 (g + 1) (p + 1) F := OwnF.below HO.out.drew hb6 (by have := HO.out.lt; simpa using this)
            have hR6 : RowL w6 base 42 6 o (n + k) (ys.map (Value.int .i64)) := HR2.out.drew.below hb6 (by simp)
            have hU6 : Under base g w4 w6 := HU.out.trans ((show Under base g wr wr.drew from ((Under.refl base g wr).drewN 1)).trans (Under.of_below hb6 (by simp; omega)))
            have x3 : w6.cell? ⟨b3, off3 + i, none⟩ = some (.int .i64 v) := (hb6.cell (by simp; omega)).trans hHeld.2.2
            have x7 : w6.cell? ⟨g, 7, none⟩ = some o := Blk.cell hM6 (i := 7) rfl
            have HM6 := Lib.hid hM6
            have HR6 := Lib.hid hR6
            have HU6 := Lib.hid hU6
            have HO6 := Lib.hid hO6
            clear hb6 hM6 hR6 hU6 hO6
            refine hK.out _ _ ⟨HO6.out.cell (by omega), HO6.out.cell (by omega), x3⟩ (fun hHy => ?_)
            clear hK K
            try simp only [Act.put, List.setIfInBounds_toArray, List.set_cons_zero, List.set_cons_succ]
            refine takeD (i := 24) (oi := { dst := some 112, op := _, type := _, pos := _, after := _, guard := _ }) (d := some 112) (v := ?vvd112) rfl rfl (by kernel_rfl) (by kernel_rfl) (by kernel_rfl) ?ddd112 (by rfl) ?yyd112 hHy ?rrd112
            case ddd112 => exact fun _ _ _ h => h
            case yyd112 => (intro wx hSw; obtain ⟨y0, y1, y2⟩ := hSw; go_simp; try (with_reducible rfl))
            try simp only [Act.put, List.setIfInBounds_toArray, List.set_cons_zero, List.set_cons_succ]
            refine wpAnyH_ready (rs := [4, 25]) (by kernel_rfl) (by simp) ?_
            refine AllReadyH.cons (o := { dst := some 92, op := _, type := _, pos := _, after := _, guard := _ }) rfl (fun K hK => ?_) ?_
            · go_simp
              refine hK.out _ _ (by exact hHy) (fun hHl => ?_)
              clear hK K
              try simp only [Act.put, List.setIfInBounds_toArray, List.set_cons_zero, List.set_cons_succ]
              refine wpAnyH_ready (rs := [25]) (by kernel_rfl) (by simp) ?_
              refine AllReadyH.cons (o := { dst := some 113, op := _, type := _, pos := _, after := _, guard := _ }) rfl (fun K hK => ?_) AllReadyH.nil
              go_simp
              refine hK.out _ _ ?_ (fun hHs => ?_)
              · obtain ⟨h1, h2, h3⟩ := hHl
                exact ⟨((Below.refl w6.heap.size w6).alloc (Nat.le_refl _) _).cell (lt_of_cell h1) |>.trans h1, ((Below.refl w6.heap.size w6).alloc (Nat.le_refl _) _).cell (lt_of_cell h2) |>.trans h2, ((Below.refl w6.heap.size w6).alloc (Nat.le_refl _) _).cell (lt_of_cell h3) |>.trans h3⟩
              clear hK K
              try simp only [Act.put, List.setIfInBounds_toArray, List.set_cons_zero, List.set_cons_succ]
              refine wpAnyH_ready (rs := [26]) (by kernel_rfl) (by simp) ?_
              refine AllReadyH.cons (o := { dst := some 114, op := _, type := _, pos := _, after := _, guard := _ }) rfl (fun K hK => ?_) AllReadyH.nil
              refine step_append_lies _ (by rfl) _ _ _ (by rfl) base 42 ii (.agg #[.int .i64 0, .int .i64 0, .int .i64 0, .int .i64 0, .int .i64 0, .int .i64 0]) 6 48 Try.underlying32 hii hz0 hz1 hz2 (by rfl) (by decide) o (n + k) _ (by rfl) (HR6.out.alloc _) ⟨w6.heap.size, 0, none⟩ 1 1 [.int .i64 (k : Int), .int .i64 (i : Int), .int .i64 ((F i + F (i + 1)) / 2), .int .i64 Y, .int .i64 0, .int .i64 0] (by rfl) (by rfl) ?e1 ?e2 (by omega) (by unfold maxLen; omega) (by omega) (by simp; omega) (w6.heap.size + 1) (by simp) ?_
              case e1 =>
                intro j u hj
                match j, hj with
                | 0, hj => simp at hj; subst hj; simp [Addr.add]
                | 1, hj => simp at hj; subst hj; simp [Addr.add]
                | 2, hj => simp at hj; subst hj; simp [Addr.add]
                | 3, hj => simp at hj; subst hj; simp [Addr.add]
                | 4, hj => simp at hj; subst hj; simp [Addr.add]
                | 5, hj => simp at hj; subst hj; simp [Addr.add]
              case e2 => first | exact ⟨rfl, rfl, rfl, rfl, rfl, rfl⟩ | (intro u hu; simp at hu; rcases hu with rfl | rfl | rfl | rfl | rfl | rfl <;> rfl)
              intro g7 cap7 w7 hown hgrow hblk hg7
              have hgo : some g ≠ o.ownBlock := fun h => by have := RowL.ge HR6.out _ h.symm; omega
              have hxo : some (g + 1) ≠ o.ownBlock := fun h => by have := RowL.ge HR6.out _ h.symm; omega
              have hM7 : MkAt w7 g 2 a1 (some ⟨b, off, none⟩) p cp s cs lo hi st height o := (Blk.alloc HM6.out _).block (hgrow.block g (by have := Blk.lt HM6.out; simp; omega) hgo)
              have hO7 : OwnF w7 3 (g + 1) (p + 1) F := (HO6.out.alloc _).block (hgrow.block _ (by have := HO6.out.lt; simp; omega) hxo)
              have hU7 : Under base g w4 w7 := HU6.out.trans (Under.of_aside (((Aside.refl g o w6).alloc _).grown hgrow) (by omega) (RowL.ge HR6.out))
              have y3 : w7.cell? ⟨b3, off3 + i, none⟩ = some (.int .i64 v) := by
                refine ((((Aside.refl g o w6).alloc _).grown hgrow).cell (p := ⟨b3, off3 + i, none⟩) (by simp; omega) (by simp; omega) ?_).trans x3
                intro h; have := RowL.ge HR6.out _ h; simp at this; omega
              have HO7 := Lib.hid hown
              have HM7 := Lib.hid hM7
              have HU7 := Lib.hid hU7
              have HX7 := Lib.hid hO7
              have d7 : w7.cell? ⟨g, 7, none⟩ = some o := Blk.cell hM7 (i := 7) rfl
              have f7 := Blk.frozen hM7 7
              have hgv : g7 ≠ g := fun h => by have := RowL.ge hown g7 rfl; omega
              clear hown hgrow hblk hgo hxo hM7 hO7 hU7
              refine hK.out _ _ ⟨HX7.out.cell (by omega), HX7.out.cell (by omega), y3⟩ (fun hHa => ?_)
              clear hK K
              try simp only [Act.put, List.setIfInBounds_toArray, List.set_cons_zero, List.set_cons_succ]
              refine takeD (i := 27) (oi := { dst := some 115, op := _, type := _, pos := _, after := _, guard := _ }) (d := some 115) (v := ?vve115) rfl rfl (by kernel_rfl) (by kernel_rfl) (by kernel_rfl) ?dde115 (by rfl) ?yye115 hHa ?rre115
              case dde115 => exact fun _ _ _ h => h
              case yye115 => (intro wx hSw; obtain ⟨y0, y1, y2⟩ := hSw; go_simp; try (with_reducible rfl))
              try simp only [Act.put, List.setIfInBounds_toArray, List.set_cons_zero, List.set_cons_succ]
              refine takeD (i := 28) (oi := { dst := some 116, op := _, type := _, pos := _, after := _, guard := _ }) (d := some 116) (v := ?vve116) rfl rfl (by kernel_rfl) (by kernel_rfl) (by kernel_rfl) ?dde116 (by rfl) ?yye116 hHa ?rre116
              case dde116 => exact fun _ _ _ h => h
              case yye116 => (intro wx hSw; obtain ⟨y0, y1, y2⟩ := hSw; go_simp; try (with_reducible rfl))
              try simp only [Act.put, List.setIfInBounds_toArray, List.set_cons_zero, List.set_cons_succ]
              refine wpAnyH_ready (rs := [29]) (by kernel_rfl) (by simp) ?_
              refine AllReadyH.cons (o := { dst := none, op := _, type := _, pos := _, after := _, guard := _ }) rfl (fun K hK => ?_) AllReadyH.nil
              go_simp
              have hX8 : OwnF (w7.setCell ⟨g, 7, none⟩ (.slice (some ⟨g7, 0, none⟩) (n + k + 1) cap7)) 3 (g + 1) (p + 1) F := HX7.out.other (by simp) _
              have z3 : (w7.setCell ⟨g, 7, none⟩ (.slice (some ⟨g7, 0, none⟩) (n + k + 1) cap7)).cell? ⟨b3, off3 + i, none⟩ = some (.int .i64 v) := (World.cell?_setCell_far _ _ _ _ (by simp; omega)).trans y3
              refine hK.out _ _ ⟨hX8.cell (by omega), hX8.cell (by omega), z3⟩ (fun hHb => ?_)
              clear hK K
              try simp only [Act.put, List.setIfInBounds_toArray, List.set_cons_zero, List.set_cons_succ]
              refine wpAnyH_done (by kernel_rfl) ?_ _
              have HM8 := Lib.hid (HM7.out.set 7 (.slice (some ⟨g7, 0, none⟩) (n + k + 1) cap7))
              have HR8 := Lib.hid (RowL.other HO7.out (a := ⟨g, 7, none⟩) (by simp [Value.ownBlock]; exact hgv) (.slice (some ⟨g7, 0, none⟩) (n + k + 1) cap7))
              have HU8 := Lib.hid (HU7.out.trans (Under.of_aside ((Aside.refl g (.slice none 0 0) w7).setR 7 (.slice (some ⟨g7, 0, none⟩) (n + k + 1) cap7)) (by have := HU7.out.size; omega) (fun k hk => by simp [Value.ownBlock] at hk)))
              clear hHa hHb hX8 z3 y3 d7 f7 x3 x7 HM HR2 HU HO HX7 HO7 HM7 HU7 HM6 HR6 HU6 HO6
              go_wp2_with fail
              go_roundw
              case rel => exact ⟨k + 1, _, by go_num, by omega, HM8.out, by rw [HL.out, List.map_append, ← Nat.add_assoc]; simpa using HR8.out, HU8.out⟩
              case measure => simp [intOf]; omega
            · refine AllReadyH.cons (o := { dst := some 113, op := _, type := _, pos := _, after := _, guard := _ }) rfl (fun K hK => ?_) AllReadyH.nil
              go_simp
              refine hK.out _ _ ?_ (fun hHs => ?_)
              · obtain ⟨h1, h2, h3⟩ := hHy
                exact ⟨((Below.refl w6.heap.size w6).alloc (Nat.le_refl _) _).cell (lt_of_cell h1) |>.trans h1, ((Below.refl w6.heap.size w6).alloc (Nat.le_refl _) _).cell (lt_of_cell h2) |>.trans h2, ((Below.refl w6.heap.size w6).alloc (Nat.le_refl _) _).cell (lt_of_cell h3) |>.trans h3⟩
              clear hK K
              try simp only [Act.put, List.setIfInBounds_toArray, List.set_cons_zero, List.set_cons_succ]
              refine wpAnyH_ready (rs := [4]) (by kernel_rfl) (by simp) ?_
              refine AllReadyH.cons (o := { dst := some 92, op := _, type := _, pos := _, after := _, guard := _ }) rfl (fun K hK => ?_) AllReadyH.nil
              have x7a : ∀ ob, (w6.alloc ob).cell? ⟨g, 7, none⟩ = some o := fun ob => (((Below.refl w6.heap.size w6).alloc (Nat.le_refl _) ob).cell (lt_of_cell x7)).trans x7
              go_simp
              refine hK.out _ _ (by exact hHs) (fun hHl => ?_)
              clear hK K x7a
              try simp only [Act.put, List.setIfInBounds_toArray, List.set_cons_zero, List.set_cons_succ]
              refine wpAnyH_ready (rs := [26]) (by kernel_rfl) (by simp) ?_
              refine AllReadyH.cons (o := { dst := some 114, op := _, type := _, pos := _, after := _, guard := _ }) rfl (fun K hK => ?_) AllReadyH.nil
              refine step_append_lies _ (by rfl) _ _ _ (by rfl) base 42 ii (.agg #[.int .i64 0, .int .i64 0, .int .i64 0, .int .i64 0, .int .i64 0, .int .i64 0]) 6 48 Try.underlying32 hii hz0 hz1 hz2 (by rfl) (by decide) o (n + k) _ (by rfl) (HR6.out.alloc _) ⟨w6.heap.size, 0, none⟩ 1 1 [.int .i64 (k : Int), .int .i64 (i : Int), .int .i64 ((F i + F (i + 1)) / 2), .int .i64 Y, .int .i64 0, .int .i64 0] (by rfl) (by rfl) ?f1 ?f2 (by omega) (by unfold maxLen; omega) (by omega) (by simp; omega) (w6.heap.size + 1) (by simp) ?_
              case f1 =>
                intro j u hj
                match j, hj with
                | 0, hj => simp at hj; subst hj; simp [Addr.add]
                | 1, hj => simp at hj; subst hj; simp [Addr.add]
                | 2, hj => simp at hj; subst hj; simp [Addr.add]
                | 3, hj => simp at hj; subst hj; simp [Addr.add]
                | 4, hj => simp at hj; subst hj; simp [Addr.add]
                | 5, hj => simp at hj; subst hj; simp [Addr.add]
              case f2 => first | exact ⟨rfl, rfl, rfl, rfl, rfl, rfl⟩ | (intro u hu; simp at hu; rcases hu with rfl | rfl | rfl | rfl | rfl | rfl <;> rfl)
              intro g7 cap7 w7 hown hgrow hblk hg7
              have hgo : some g ≠ o.ownBlock := fun h => by have := RowL.ge HR6.out _ h.symm; omega
              have hxo : some (g + 1) ≠ o.ownBlock := fun h => by have := RowL.ge HR6.out _ h.symm; omega
              have hM7 : MkAt w7 g 2 a1 (some ⟨b, off, none⟩) p cp s cs lo hi st height o := (Blk.alloc HM6.out _).block (hgrow.block g (by have := Blk.lt HM6.out; simp; omega) hgo)
              have hO7 : OwnF w7 3 (g + 1) (p + 1) F := (HO6.out.alloc _).block (hgrow.block _ (by have := HO6.out.lt; simp; omega) hxo)
              have hU7 : Under base g w4 w7 := HU6.out.trans (Under.of_aside (((Aside.refl g o w6).alloc _).grown hgrow) (by omega) (RowL.ge HR6.out))
              have y3 : w7.cell? ⟨b3, off3 + i, none⟩ = some (.int .i64 v) := by
                refine ((((Aside.refl g o w6).alloc _).grown hgrow).cell (p := ⟨b3, off3 + i, none⟩) (by simp; omega) (by simp; omega) ?_).trans x3
                intro h; have := RowL.ge HR6.out _ h; simp at this; omega
              have HO7 := Lib.hid hown
              have HM7 := Lib.hid hM7
              have HU7 := Lib.hid hU7
              have HX7 := Lib.hid hO7
              have d7 : w7.cell? ⟨g, 7, none⟩ = some o := Blk.cell hM7 (i := 7) rfl
              have f7 := Blk.frozen hM7 7
              have hgv : g7 ≠ g := fun h => by have := RowL.ge hown g7 rfl; omega
              clear hown hgrow hblk hgo hxo hM7 hO7 hU7
              refine hK.out _ _ ⟨HX7.out.cell (by omega), HX7.out.cell (by omega), y3⟩ (fun hHa => ?_)
              clear hK K
              try simp only [Act.put, List.setIfInBounds_toArray, List.set_cons_zero, List.set_cons_succ]
              refine takeD (i := 27) (oi := { dst := some 115, op := _, type := _, pos := _, after := _, guard := _ }) (d := some 115) (v := ?vvf115) rfl rfl (by kernel_rfl) (by kernel_rfl) (by kernel_rfl) ?ddf115 (by rfl) ?yyf115 hHa ?rrf115
              case ddf115 => exact fun _ _ _ h => h
              case yyf115 => (intro wx hSw; obtain ⟨y0, y1, y2⟩ := hSw; go_simp; try (with_reducible rfl))
              try simp only [Act.put, List.setIfInBounds_toArray, List.set_cons_zero, List.set_cons_succ]
              refine takeD (i := 28) (oi := { dst := some 116, op := _, type := _, pos := _, after := _, guard := _ }) (d := some 116) (v := ?vvf116) rfl rfl (by kernel_rfl) (by kernel_rfl) (by kernel_rfl) ?ddf116 (by rfl) ?yyf116 hHa ?rrf116
              case ddf116 => exact fun _ _ _ h => h
              case yyf116 => (intro wx hSw; obtain ⟨y0, y1, y2⟩ := hSw; go_simp; try (with_reducible rfl))
              try simp only [Act.put, List.setIfInBounds_toArray, List.set_cons_zero, List.set_cons_succ]
              refine wpAnyH_ready (rs := [29]) (by kernel_rfl) (by simp) ?_
              refine AllReadyH.cons (o := { dst := none, op := _, type := _, pos := _, after := _, guard := _ }) rfl (fun K hK => ?_) AllReadyH.nil
              go_simp
              have hX8 : OwnF (w7.setCell ⟨g, 7, none⟩ (.slice (some ⟨g7, 0, none⟩) (n + k + 1) cap7)) 3 (g + 1) (p + 1) F := HX7.out.other (by simp) _
              have z3 : (w7.setCell ⟨g, 7, none⟩ (.slice (some ⟨g7, 0, none⟩) (n + k + 1) cap7)).cell? ⟨b3, off3 + i, none⟩ = some (.int .i64 v) := (World.cell?_setCell_far _ _ _ _ (by simp; omega)).trans y3
              refine hK.out _ _ ⟨hX8.cell (by omega), hX8.cell (by omega), z3⟩ (fun hHb => ?_)
              clear hK K
              try simp only [Act.put, List.setIfInBounds_toArray, List.set_cons_zero, List.set_cons_succ]
              refine wpAnyH_done (by kernel_rfl) ?_ _
              have HM8 := Lib.hid (HM7.out.set 7 (.slice (some ⟨g7, 0, none⟩) (n + k + 1) cap7))
              have HR8 := Lib.hid (RowL.other HO7.out (a := ⟨g, 7, none⟩) (by simp [Value.ownBlock]; exact hgv) (.slice (some ⟨g7, 0, none⟩) (n + k + 1) cap7))
              have HU8 := Lib.hid (HU7.out.trans (Under.of_aside ((Aside.refl g (.slice none 0 0) w7).setR 7 (.slice (some ⟨g7, 0, none⟩) (n + k + 1) cap7)) (by have := HU7.out.size; omega) (fun k hk => by simp [Value.ownBlock] at hk)))
              clear hHa hHb hX8 z3 y3 d7 f7 x3 x7 HM HR2 HU HO HX7 HO7 HM7 HU7 HM6 HR6 HU6 HO6
              go_wp2_with fail
              go_roundw
              case rel => exact ⟨k + 1, _, by go_num, by omega, HM8.out, by rw [HL.out, List.map_append, ← Nat.add_assoc]; simpa using HR8.out, HU8.out⟩
              case measure => simp [intOf]; omega
        · obtain rfl : k = s := by omega
          have hO : OwnF wr 3 (g + 1) (p + 1) F := HO4.out.block (hU.block _ (by omega) (by omega))
          go_wp2_with fail
          go_roundw
          case rel => exact ⟨i + 1, o, by go_num, by omega, hM, by rw [HL.out, HNN.out]; exact hR, hU⟩
          case measure => simp [intOf]; omega
    · obtain rfl : i = p := by omega
      have c7 : wr.cell? ⟨g, 7, none⟩ = some o := Blk.cell hM (i := 7) rfl
      obtain ⟨ao, co, rfl, _, _⟩ := RowL.slice hR
      go_wp2_with fail
      go_ret2
      exact ⟨_, rfl, hR.mono (by omega), hbel⟩
end Go.Proofs.Ytnigebnibikolaa.CB
