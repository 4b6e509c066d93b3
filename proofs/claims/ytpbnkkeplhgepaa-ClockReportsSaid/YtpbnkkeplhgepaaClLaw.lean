
/-
  ClockReports returns true for every list of events and every time: the walk.
-/
import Derived.Test.YtpbnkkeplhgepaaClClocked
import Derived.Test.YtpbnkkeplhgepaaClError
import Derived.Deep.CutRange
import Derived.Deep.CutBlock
import Derived.StillTailTactics
import Derived.BigQuiet
namespace Go.Proofs.Ytpbnkkeplhgepaa.CL
open Go.RowKit Go.Law Go.Law.Cl Ref
set_option linter.unusedVariables false
set_option linter.unusedSimpArgs false
set_option maxRecDepth 100000
theorem _root_.Go.Law.RowI.elem {w : World} {base : Nat} {e : TypeId} {s : Nat} {v : Value} {n : Nat} {F : Nat → Int} (h : RowI w base e s v n F) (k : Nat) (hk : v.ownBlock = some k) : ∃ cur, w.heap[k]? = some (.cells cur e (0, 0)) := by
  obtain ⟨xs, ⟨hl, h⟩, h2⟩ := h
  rcases h with ⟨h, _⟩ | ⟨g, cap, cur, hv, hg, hh, r⟩
  · rw [h] at hk; cases hk
  · rw [hv] at hk
    simp [Value.ownBlock] at hk
    subst hk
    exact ⟨cur, hh⟩
theorem Held.below {w w' : World} {R base B : Nat} {s : St} {v : Value} (h : Held w R base s v) (hb : Below B w w') (hB : w.heap.size ≤ B) : Held w' R base s v :=
  ⟨h.box.block (hb.block R (Nat.lt_of_lt_of_le h.box.lt hB)), h.row.below hb hB, h.low⟩
set_option maxHeartbeats 4000000 in
theorem law_bad (n : Nat) (E : Nat → Nat → Int) (T : Int) (a : Option Addr) (c : Nat) (w : World) (ha : StrF w a n 3 E) (hn : n ≤ 1000000000000000000) (he : clE n E ≠ 0) :
    Calls Try.prog 9 #[.slice a n c, .int .i64 T] w fun e w' => e = .returned (.bool true) ∧ Below w.heap.size w w' := by
  obtain ⟨V, hV⟩ : ∃ V, V = clE n E := ⟨_, rfl⟩
  have HV := Lib.hid hV
  have v1 : (V == 0) = false := by rw [hV]; simpa using he
  have v2 : (V != 0) = true := by rw [hV]; simpa using he
  have v3 : (V == V) = true := by simp
  have v4 : (V != V) = false := by simp
  have HE := Lib.hid he
  clear he hV
  have HA := Lib.hid ha
  clear ha
  go_enter Try.func9, Try.ntmps9
  go_wp2_with fail
  refine (clocked_any _).mono ?_
  rintro e w1 ⟨rfl, hb1⟩
  go_wp2_with fail
  refine (report_bad n E T a c _ (HA.out.below (Nat.le_refl _) hb1) hn HE.out).mono ?_
  rintro e w2 ⟨rfl, hb2'⟩
  have hb2 := hb1.trans (hb2'.mono hb1.size)
  rw [← HV.out]
  have hs2 := hb2.size
  go_wp2_with fail
  refine (error_any n E a c _ (HA.out.below (Nat.le_refl _) (hb2.alloc hs2 _)) hn).mono ?_
  rintro e w3 ⟨rfl, hb3⟩
  rw [← HV.out]
  have hs3 := hb3.size
  simp at hs3
  have p1 : w3.cell? ⟨w2.heap.size, 1, none⟩ = some (.int .i64 0) := (hb3.cell (by simp)).trans (by simp)
  have p3 : w3.cell? ⟨w2.heap.size, 3, none⟩ = some (.slice none 0 0) := (hb3.cell (by simp)).trans (by simp)
  have hbel3 : Below w.heap.size w w3 := (hb2.alloc hs2 _).trans (hb3.mono (by simp; omega))
  clear hb3 hb2'
  go_wp2_with fail
  refine (check_any n E a c _ (HA.out.below (Nat.le_refl _) hbel3) hn).mono ?_
  rintro e w4 ⟨rfl, hb4⟩
  rw [← HV.out]
  have q1 : w4.cell? ⟨w2.heap.size, 1, none⟩ = some (.int .i64 0) := (hb4.cell (show w2.heap.size < w3.heap.size by omega)).trans p1
  have q3 : w4.cell? ⟨w2.heap.size, 3, none⟩ = some (.slice none 0 0) := (hb4.cell (show w2.heap.size < w3.heap.size by omega)).trans p3
  have hbel4 : Below w.heap.size w w4 := hbel3.trans (hb4.mono (by omega))
  clear hb4 p1 p3 hbel3 hb2 hb1
  go_wp2_with (go_at_call 14; refine (in_any _ _ _ _).mono ?_; rintro e w9 ⟨rfl, rfl⟩)
  go_ret
  exact ⟨rfl, hbel4⟩
set_option maxHeartbeats 4000000 in
theorem law_range (n : Nat) (E : Nat → Nat → Int) (T : Int) (a : Option Addr) (c : Nat) (w : World) (ha : StrF w a n 3 E) (hn : n ≤ 1000000000000000000) (he : clE n E = 0) (hT : T < 0 ∨ 10000000 < T) :
    Calls Try.prog 9 #[.slice a n c, .int .i64 T] w fun e w' => e = .returned (.bool true) ∧ Below w.heap.size w w' := by
  have HE := Lib.hid he
  have i1 : inB T 0 10000000 = false := inB_false.2 (by omega)
  clear he
  have HA := Lib.hid ha
  clear ha
  go_enter Try.func9, Try.ntmps9
  go_wp2_with fail
  refine (clocked_any _).mono ?_
  rintro e w1 ⟨rfl, hb1⟩
  go_wp2_with fail
  refine (report_range n E T a c _ (HA.out.below (Nat.le_refl _) hb1) hn HE.out hT).mono ?_
  rintro e w2 ⟨rfl, hb2'⟩
  have hb2 := hb1.trans (hb2'.mono hb1.size)
  have hs2 := hb2.size
  go_wp2_with fail
  refine (error_any n E a c _ (HA.out.below (Nat.le_refl _) (hb2.alloc hs2 _)) hn).mono ?_
  rintro e w3 ⟨rfl, hb3⟩
  rw [HE.out]
  have hs3 := hb3.size
  simp at hs3
  have p1 : w3.cell? ⟨w2.heap.size, 1, none⟩ = some (.int .i64 0) := (hb3.cell (by simp)).trans (by simp)
  have p3 : w3.cell? ⟨w2.heap.size, 3, none⟩ = some (.slice none 0 0) := (hb3.cell (by simp)).trans (by simp)
  have hbel3 : Below w.heap.size w w3 := (hb2.alloc hs2 _).trans (hb3.mono (by simp; omega))
  clear hb3 hb2'
  go_wp2_with fail
  refine (check_any n E a c _ (HA.out.below (Nat.le_refl _) hbel3) hn).mono ?_
  rintro e w4 ⟨rfl, hb4⟩
  rw [HE.out]
  have q1 : w4.cell? ⟨w2.heap.size, 1, none⟩ = some (.int .i64 0) := (hb4.cell (show w2.heap.size < w3.heap.size by omega)).trans p1
  have q3 : w4.cell? ⟨w2.heap.size, 3, none⟩ = some (.slice none 0 0) := (hb4.cell (show w2.heap.size < w3.heap.size by omega)).trans p3
  have hbel4 : Below w.heap.size w w4 := hbel3.trans (hb4.mono (by omega))
  clear hb4 p1 p3 hbel3 hb2 hb1
  go_wp2_with (go_at_call 14; refine (in_any _ _ _ _).mono ?_; rintro e w9 ⟨rfl, rfl⟩)
  go_ret
  exact ⟨rfl, hbel4⟩
set_option maxHeartbeats 16000000 in
theorem law_ok (n : Nat) (E : Nat → Nat → Int) (T : Int) (a : Option Addr) (c : Nat) (w : World) (ha : StrF w a n 3 E) (hnil : a = none → n = 0 ∧ c = 0) (he : clE n E = 0) (hT1 : 0 ≤ T) (hT2 : T ≤ 10000000) :
    Calls Try.prog 9 #[.slice a n c, .int .i64 T] w fun e w' => e = .returned (.bool true) ∧ Below w.heap.size w w' := by
  have HE := Lib.hid he
  have HNIL := Lib.hid hnil
  obtain ⟨hn0, hev⟩ := clE_zero he
  have HEV := Lib.hid hev
  have i1 : inB T 0 10000000 = true := inB_true.2 ⟨hT1, hT2⟩
  obtain ⟨ii, hii, hz0, hz1, hz2⟩ := info_parts (show (Try.prog.info? 74).map (fun i => (i.zero, i.size, i.bytes)) = some (some (.agg #[.int .i64 0, .int .i64 0, .int .i64 0]), 3, 24) by kernel_rfl)
  clear he hnil hev
  have hn : n ≤ 1000000000000000000 := by omega
  have HA := Lib.hid ha
  clear ha
  go_enter Try.func9, Try.ntmps9
  go_wp2_with fail
  refine (clocked_any _).mono ?_
  rintro e w1 ⟨rfl, hb1⟩
  go_wp2_with fail
  refine (report_ok n E T a c _ (HA.out.below (Nat.le_refl _) hb1) HNIL.out HE.out ⟨hT1, hT2⟩).mono ?_
  rintro e w2 ⟨hb2', v0, rfl, hrow0⟩
  have hb2 := hb1.trans (hb2'.mono hb1.size)
  have hs2 := hb2.size
  have hs12 := hb2'.size
  obtain ⟨a0, c0, rfl, _, _⟩ := hrow0.slice
  obtain ⟨s0, hs0⟩ : ∃ s0, s0 = finS n E T := ⟨_, rfl⟩
  rw [← hs0] at hrow0 ⊢
  have HS0 := Lib.hid hs0
  clear hs0 hb2'
  go_wp2_with fail
  refine (error_any n E a c _ (HA.out.below (Nat.le_refl _) (hb2.alloc hs2 _)) hn).mono ?_
  rintro e w3 ⟨rfl, hb3⟩
  rw [HE.out]
  have hs3 := hb3.size
  simp at hs3
  have hbel3 : Below w.heap.size w w3 := (hb2.alloc hs2 _).trans (hb3.mono (by simp; omega))
  have p0 : w3.cell? ⟨w2.heap.size, 0, none⟩ = some (.bool s0.run) := (hb3.cell (by simp)).trans (by simp)
  have p1 : w3.cell? ⟨w2.heap.size, 1, none⟩ = some (.int .i64 s0.tot) := (hb3.cell (by simp)).trans (by simp)
  have p2 : w3.cell? ⟨w2.heap.size, 2, none⟩ = some (.int .i64 s0.sl) := (hb3.cell (by simp)).trans (by simp)
  have p3 : w3.cell? ⟨w2.heap.size, 3, none⟩ = some (.slice a0 s0.m c0) := (hb3.cell (by simp)).trans (by simp)
  have hrow3 : RowI w3 w1.heap.size 74 3 (.slice a0 s0.m c0) s0.m s0.F := (hrow0.alloc _).below hb3 (Nat.le_refl _)
  clear hb3 hrow0 hb2 hb1
  go_wp2_with fail
  refine (check_any n E a c _ (HA.out.below (Nat.le_refl _) hbel3) hn).mono ?_
  rintro e w4 ⟨rfl, hb4⟩
  rw [HE.out]
  have hs4 := hb4.size
  have hlt : w2.heap.size < w3.heap.size := by omega
  have r0 := (hb4.cell (p := ⟨w2.heap.size, 0, none⟩) hlt).trans p0
  have r1 := (hb4.cell (p := ⟨w2.heap.size, 1, none⟩) hlt).trans p1
  have r2 := (hb4.cell (p := ⟨w2.heap.size, 2, none⟩) hlt).trans p2
  have r3 := (hb4.cell (p := ⟨w2.heap.size, 3, none⟩) hlt).trans p3
  have HR0 := Lib.hid (And.intro r0 (And.intro r1 (And.intro r2 r3)))
  have HROW := Lib.hid (hrow3.below hb4 (Nat.le_refl _))
  have HBEL := Lib.hid (hbel3.trans (hb4.mono (by omega)))
  clear hb4 p0 p1 p2 p3 hbel3 hrow3 r0 r1 r2 r3
  obtain ⟨RW, hRW⟩ : ∃ RW, RW = w4.heap.size := ⟨_, rfl⟩
  go_wp2_with (go_at_call 14; refine (in_any _ _ _ _).mono ?_; rintro e w9 ⟨rfl, rfl⟩)
  rw [← hRW]
  have hHeld0 : Held (w4.alloc (Obj.cells #[.bool false, .int .i64 0, .int .i64 0, .slice none 0 0] 67)) RW (RW + 1) St.init (.slice none 0 0) := by
    refine ⟨?_, RowI.nil _ _ _ _ _, by omega⟩
    unfold Rec
    rw [hRW]
    show (w4.heap.push _)[_]? = _
    simp [St.init]
  have hsz4 : RW + 1 ≤ (w4.alloc (Obj.cells #[.bool false, .int .i64 0, .int .i64 0, .slice none 0 0] 67)).heap.size := by simp; omega
  have hB4 : Below RW w4 (w4.alloc (Obj.cells #[.bool false, .int .i64 0, .int .i64 0, .slice none 0 0] 67)) := (Below.refl _ _).alloc (by omega) _
  have hRW1 : RW ≤ w4.heap.size := by omega
  have hRW2 : w4.heap.size ≤ RW := by omega
  clear hRW
  go_loopw [55] (fun ix wr => ∃ (k : Nat) (v : Value), ix = .int .i64 k ∧ k ≤ n ∧ (∀ i, i < k → E i 1 ≤ T) ∧ Held wr RW (RW + 1) (laS n E T k) v ∧ Below RW w4 wr ∧ RW + 1 ≤ wr.heap.size) (fun ix _ => n - (intOf ix).toNat)
  case atStart => exact ⟨0, _, rfl, by omega, fun i hi => by omega, hHeld0, hB4, hsz4⟩
  case round =>
    obtain ⟨k, v, rfl, hk, hle, hH, hW, hsz⟩ := hrel
    have HLE := Lib.hid hle
    clear hle hHeld0 hsz4 hB4
    by_cases hkn : k < n
    · have hbel : Below w.heap.size w wr := HBEL.out.trans (hW.mono (by omega))
      obtain ⟨b, off, rfl, hc⟩ := HA.out.below (Nat.le_refl _) hbel (by omega)
      have e0 := hc k hkn 0 (by omega)
      have e1 := hc k hkn 1 (by omega)
      have e2 := hc k hkn 2 (by omega)
      replace e0 : wr.cell? ⟨b, off + k * 3, none⟩ = some (.int .i64 (E k 0)) := e0
      have HC := Lib.hid hc
      obtain ⟨hK, hA, hX, hKX, hLA⟩ := HEV.out k hkn
      by_cases hTA : T < E k 1
      · clear hc HC
        have hS : s0 = laS n E T k := HS0.out.trans (la_fin hT1 (fun i hi => (HEV.out i hi).2.2.2.2) (fun h => (HEV.out 0 h).2.1.1) k hk HLE.out (by first | exact .inr hTA | exact .inl (by omega)))
        have hbel : Below w.heap.size w wr := HBEL.out.trans (hW.mono (by omega))
        have hlt4 : w2.heap.size < RW := by omega
        have R0 := (hW.cell (p := ⟨w2.heap.size, 0, none⟩) hlt4).trans HR0.out.1
        have R1 := (hW.cell (p := ⟨w2.heap.size, 1, none⟩) hlt4).trans HR0.out.2.1
        have R2 := (hW.cell (p := ⟨w2.heap.size, 2, none⟩) hlt4).trans HR0.out.2.2.1
        have R3 := (hW.cell (p := ⟨w2.heap.size, 3, none⟩) hlt4).trans HR0.out.2.2.2
        rw [← hS] at hH
        obtain ⟨av, cv, rfl, hcv1, hcv2⟩ := hH.row.slice
        have W0 := hH.box.run
        have W1 := hH.box.tot
        have W2 := hH.box.sl
        have W3 := hH.box.row
        have hRl := hH.box.lt
        have h2l : w2.heap.size < wr.heap.size := by omega
        have HRR := Lib.hid (HROW.out.below (B := RW) hW (by omega))
        have HRH := Lib.hid hH.row
        have HBB := Lib.hid hbel
        have hmL : s0.m ≤ 9223372036854775807 := by unfold maxLen at hcv2; omega
        clear hH hS hW hbel
        go_wp2_with fail
        go_loopw [209] (fun ix wz => ∃ q : Nat, ix = .int .i64 q ∧ q ≤ s0.m ∧ Below wr.heap.size wr wz) (fun ix _ => s0.m - (intOf ix).toNat)
        case atStart =>
          refine ⟨0, rfl, by omega, ?_⟩
          repeat' (with_reducible first | exact Below.refl _ _ | assumption | refine Below.setCell ?_ ?_ _ | refine Below.alloc ?_ ?_ _ | refine below_drewN ?_ _ | refine Below.drew ?_)
          all_goals first | omega | (simp; done) | (simp; omega)
        case round =>
          obtain ⟨q, rfl, hq, hz⟩ := hrel
          by_cases hqm : q < s0.m
          · obtain ⟨gr, cr, hvr, _, hgr, _, _, _, hcr⟩ := HRR.out.at (by omega)
            obtain ⟨gw, cw, hvw, _, hgw, _, _, _, hcw⟩ := HRH.out.at (by omega)
            cases hvr
            cases hvw
            have x0 := (hz.cell (p := ⟨gr, q * 3, none⟩) hgr).trans (hcr (q * 3) (by omega))
            have x1 := (hz.cell (p := ⟨gr, q * 3 + 1, none⟩) hgr).trans (hcr (q * 3 + 1) (by omega))
            have x2 := (hz.cell (p := ⟨gr, q * 3 + 2, none⟩) hgr).trans (hcr (q * 3 + 2) (by omega))
            have y0 := (hz.cell (p := ⟨gw, q * 3, none⟩) hgw).trans (hcw (q * 3) (by omega))
            have y1 := (hz.cell (p := ⟨gw, q * 3 + 1, none⟩) hgw).trans (hcw (q * 3 + 1) (by omega))
            have y2 := (hz.cell (p := ⟨gw, q * 3 + 2, none⟩) hgw).trans (hcw (q * 3 + 2) (by omega))
            have b3 := (hz.cell (p := ⟨w2.heap.size, 3, none⟩) h2l).trans R3
            have d3 := (hz.cell (p := ⟨RW, 3, none⟩) hRl).trans W3
            clear hcr hcw R0 R1 R2 R3 W0 W1 W2 W3
            go_wp2_with fail
            go_quiet (fail)
            go_wp2_with fail
            go_roundw
            case rel =>
              refine ⟨q + 1, by go_num, by omega, ?_⟩
              repeat' (with_reducible first | exact Below.refl _ _ | assumption | refine Below.setCell ?_ ?_ _ | refine Below.alloc ?_ ?_ _ | refine below_drewN ?_ _ | refine Below.drew ?_)
              all_goals first | omega | (simp; done) | (simp; omega)
            case measure => simp [intOf]; omega
          · obtain rfl : q = s0.m := by omega
            go_wp2_with fail
            go_ret
            exact ⟨rfl, HBB.out.trans (hz.mono (by have := HBB.out.size; omega))⟩
      · obtain ⟨wo, rfl⟩ : ∃ wo : World, wo = wr := ⟨_, rfl⟩
        have HH := Lib.hid hH
        have HW := Lib.hid hW
        have hRl := hH.box.lt
        have hG := Cl.Good.la hT1 (fun i hi => ⟨(HEV.out i hi).2.1.1, (HEV.out i hi).2.2.2.1.1, (HEV.out i hi).2.2.2.2⟩) k hkn (fun i hi => by rcases Nat.lt_or_ge i k with h | h; exact HLE.out i h; rw [show i = k by omega]; omega)
        have hto : E k 1 ≤ toT n E T k ∧ toT n E T k ≤ T := by
          unfold toT
          split
          · have := (HEV.out (k + 1) (by omega)).2.2.2.2
            simp only [lastA] at this
            omega
          · omega
        have hto2 : toT n E T k = if k + 1 < n then min T (E (k + 1) 1) else T := rfl
        have hla : laS n E T (k + 1) = passS (evS (laS n E T k) (E k 0) (E k 2)) (toT n E T k - E k 1) := rfl
        have hle2 : ∀ i, i < k + 1 → E i 1 ≤ T := fun i hi => by rcases Nat.lt_or_ge i k with h | h; exact HLE.out i h; rw [show i = k by omega]; omega
        obtain ⟨TO, hTO⟩ : ∃ TO, TO = toT n E T k := ⟨_, rfl⟩
        obtain ⟨s, hs⟩ : ∃ s, s = laS n E T k := ⟨_, rfl⟩
        rw [← hTO] at hto hto2 hla
        rw [← hs] at hla hG HH
        obtain ⟨K, hKe⟩ : ∃ K, K = E k 0 := ⟨_, rfl⟩
        obtain ⟨A, hAe⟩ : ∃ A, A = E k 1 := ⟨_, rfl⟩
        obtain ⟨X, hXe⟩ : ∃ X, X = E k 2 := ⟨_, rfl⟩
        rw [← hKe] at e0 hK hKX hla
        rw [← hAe] at e1 hA hTA hG hto hla
        rw [← hXe] at e2 hX hKX hla
        clear hLA hKe hAe hXe hs hTO hc hH hW
        have HG := Lib.hid hG
        have HLA := Lib.hid hla
        have HTO2 := Lib.hid hto2
        have HLE2 := Lib.hid hle2
        have HKX := Lib.hid hKX
        clear hG hla hto2 hle2 HLE hKX
        obtain ⟨hto, hto3⟩ := hto
        obtain ⟨hA0, hA1⟩ := hA
        go_upto_if 69 with fail
        go_cut [11, 55] from 55 to 173 (fun tv iv wx => tv = .int .i64 TO ∧ iv = .int .i64 k ∧ wx = wo.alloc (Obj.cells #[.int .i64 K, .int .i64 A, .int .i64 X] 72))
        case first =>
          by_cases hk1 : k + 1 < n
          · have hB := HTO2.out
            rw [if_pos hk1] at hB
            have e4 := HC.out (k + 1) hk1 1 (by omega)
            have hbl : b < wo.heap.size := lt_of_cell e4
            by_cases hTB : T < E (k + 1) 1
            · have hB2 : TO = T := by omega
              have HB2 := Lib.hid hB2
              clear hB hB2
              go_wp2_with fail
              all_goals go_meet
              all_goals first | (exfalso; omega) | exact ⟨congrArg _ (by have := HB2.out; omega), rfl, rfl⟩
            · have hB2 : TO = E (k + 1) 1 := by omega
              have HB2 := Lib.hid hB2
              clear hB hB2
              go_wp2_with fail
              all_goals go_meet
              all_goals first | (exfalso; omega) | exact ⟨congrArg _ (by have := HB2.out; omega), rfl, rfl⟩
          · have hB := HTO2.out
            rw [if_neg hk1] at hB
            have HB2 := Lib.hid hB
            clear hB
            go_wp2_with fail
            go_meet
            exact ⟨by rw [HB2.out], rfl, rfl⟩
        case rest =>
          obtain ⟨rfl, rfl, rfl⟩ := hcut
          clear HC HTO2 e0 e1 e2
          go_upto_block 2 with fail
          go_cut [55] from 55 to 173 (fun iv wx => iv = .int .i64 k ∧ ∃ v', Held wx RW (RW + 1) (evS s K X) v' ∧ Below RW w4 wx ∧ wo.heap.size < wx.heap.size ∧ wx.cell? ⟨wo.heap.size, 1, none⟩ = some (.int .i64 A) ∧ v'.ownBlock ≠ some wo.heap.size)
          case first =>
            have hk4 : K = 0 ∨ K = 1 ∨ K = 2 ∨ K = 3 := by omega
            obtain ⟨aw, cw, rfl, hcw1, hcw2⟩ := HH.out.row.slice
            have HVX := Lib.hid (show (Value.slice aw s.m cw).ownBlock ≠ some wo.heap.size from fun e => by have := HH.out.row.lt _ e; omega)
            have hmc : s.m ≤ 9223372036854775807 := by unfold maxLen at hcw2; omega
            clear hcw1 hcw2
            rcases hk4 with rfl | rfl | rfl | rfl
            · have W0 := HH.out.box.run
              have z0 := HH.out.box.frozen 0
              go_wp2_with fail
              go_meet
              refine ⟨rfl, .slice aw s.m cw, ?_, (HW.out.setCell (p := ⟨RW, 0, none⟩) (Nat.le_refl RW) _).alloc (by simp [World.setCell]; omega) _, by simp [World.setCell], ?_, HVX.out⟩
              · rw [show evS s 0 X = { s with run := true } from rfl]
                exact Held.alloc (w := wo.setCell ⟨RW, 0, none⟩ (.bool true)) (s := { s with run := true }) ⟨HH.out.box.setRun _, HH.out.row.other HH.out.ne _, HH.out.low⟩ _
              · have h2 : ∀ u : World, (u.alloc (Obj.cells #[.int .i64 0, .int .i64 A, .int .i64 X] 72)).cell? ⟨u.heap.size, 1, none⟩ = some (.int .i64 A) := fun u => by simp
                have h3 := h2 (wo.setCell ⟨RW, 0, none⟩ (.bool true))
                rw [show (wo.setCell ⟨RW, 0, none⟩ (.bool true)).heap.size = wo.heap.size by simp [World.setCell]] at h3
                exact h3
            · have W0 := HH.out.box.run
              have z0 := HH.out.box.frozen 0
              go_wp2_with fail
              go_meet
              refine ⟨rfl, .slice aw s.m cw, ?_, (HW.out.setCell (p := ⟨RW, 0, none⟩) (Nat.le_refl RW) _).alloc (by simp [World.setCell]; omega) _, by simp [World.setCell], ?_, HVX.out⟩
              · rw [show evS s 1 X = { s with run := false } from rfl]
                exact Held.alloc (w := wo.setCell ⟨RW, 0, none⟩ (.bool false)) (s := { s with run := false }) ⟨HH.out.box.setRun _, HH.out.row.other HH.out.ne _, HH.out.low⟩ _
              · have h2 : ∀ u : World, (u.alloc (Obj.cells #[.int .i64 1, .int .i64 A, .int .i64 X] 72)).cell? ⟨u.heap.size, 1, none⟩ = some (.int .i64 A) := fun u => by simp
                have h3 := h2 (wo.setCell ⟨RW, 0, none⟩ (.bool false))
                rw [show (wo.setCell ⟨RW, 0, none⟩ (.bool false)).heap.size = wo.heap.size by simp [World.setCell]] at h3
                exact h3
            · have hx0 : 0 < X := HKX.out.1 rfl
              have W3 := HH.out.box.row
              go_wp2_with fail
              go_loopw [12, 89] (fun kv ix wq => ∃ q : Nat, ix = .int .i64 q ∧ q ≤ s.m ∧ Below (wo.heap.size + 1) (wo.alloc (Obj.cells #[.int .i64 2, .int .i64 A, .int .i64 X] 72)) wq ∧ ((kv = .int .i64 (-1) ∧ ∀ i, i < q → s.F (i * 3) ≠ X) ∨ ∃ p : Nat, p < q ∧ kv = .int .i64 p ∧ s.F (p * 3) = X)) (fun _ ix _ => s.m - (intOf ix).toNat)
              case atStart => exact ⟨0, rfl, by omega, Below.refl _ _, .inl ⟨rfl, fun i hi => by omega⟩⟩
              case round =>
                obtain ⟨q, rfl, hq, hz, hkv⟩ := hrel
                have HKV := Lib.hid hkv
                have HZ := Lib.hid hz
                have hzs := hz.size
                simp at hzs
                have hHq : Held wr RW (RW + 1) s (.slice aw s.m cw) := (HH.out.alloc _).below hz (by simp)
                have x1 : wr.cell? ⟨wo.heap.size, 1, none⟩ = some (.int .i64 A) := (hz.cell (by simp)).trans (by simp)
                have x2 : wr.cell? ⟨wo.heap.size, 2, none⟩ = some (.int .i64 X) := (hz.cell (by simp)).trans (by simp)
                have b2 := hHq.box.sl
                have b3 := hHq.box.row
                have z2 := hHq.box.frozen 2
                have z3 := hHq.box.frozen 3
                have HHq := Lib.hid hHq
                have HWq := Lib.hid (show Below RW w4 wr from (HW.out.alloc (by omega) _).trans (hz.mono (by omega)))
                have hRlq := hHq.box.lt
                clear hkv hz hHq W3
                by_cases hqm : q < s.m
                · obtain ⟨gw, cw', hv, hg, hgl, _, _, hfz, hcells⟩ := HHq.out.row.at (by omega)
                  cases hv
                  have f0 := hcells (q * 3) (by omega)
                  clear hcells hfz
                  by_cases he : s.F (q * 3) = X
                  · have d9 : (s.F (q * 3) == X) = true := by simpa using he
                    have HE2 := Lib.hid he
                    rw [he] at f0
                    clear he
                    go_wp2_with fail
                    go_quiet (fail)
                    go_wp2_with fail
                    go_roundw
                    case rel => exact ⟨q + 1, by go_num, by omega, below_drewN HZ.out _, .inr ⟨q, by omega, rfl, HE2.out⟩⟩
                    case measure => simp [intOf]; omega
                  · have d9 : (s.F (q * 3) == X) = false := by simpa using he
                    have HE2 := Lib.hid he
                    clear he
                    go_wp2_with fail
                    go_quiet (fail)
                    go_wp2_with fail
                    go_roundw
                    case rel =>
                      refine ⟨q + 1, by go_num, by omega, below_drewN HZ.out _, ?_⟩
                      rcases HKV.out with ⟨h1, h2⟩ | ⟨p, h1, h2, h3⟩
                      · exact .inl ⟨h1, fun i hi => by rcases Nat.lt_or_ge i q with h | h; exact h2 i h; rw [show i = q by omega]; exact HE2.out⟩
                      · exact .inr ⟨p, by omega, h2, h3⟩
                    case measure => simp [intOf]; omega
                · rcases HKV.out with ⟨rfl, hno⟩ | ⟨p, hp, rfl, he⟩
                  · have hlen : q = s.m := by omega
                    have hns : ¬ has s X := fun ⟨i, hi, h⟩ => hno i (by omega) h
                    have hsl : s.sl ≠ X := fun h => by
                      rcases HG.out.cur with h0 | h0
                      · omega
                      · rw [h] at h0; exact hns h0
                    have d8 : (s.sl != X) = true := by simpa using hsl
                    have HS := Lib.hid (showS_new hns)
                    obtain ⟨xs, hown, hxs⟩ := HHq.out.row
                    have HX := Lib.hid hxs
                    have HL := Lib.hid hown.1
                    have hmk : s.m ≤ 1000 := by have := HG.out.many; omega
                    clear hno hns hsl hxs hlen
                    go_wp2_with (at_builtin; go_loud (refine wpList_append_own _ rfl _ _ 65 rfl (RW + 1) 74 ii (.agg #[.int .i64 0, .int .i64 0, .int .i64 0]) 3 24 Try.underlying65 hii hz0 hz1 hz2 rfl (by decide) _ _ _ rfl (hown.alloc _) ⟨wr.heap.size, 0, none⟩ 1 1 [.int .i64 X, .int .i64 0, .int .i64 0] rfl rfl ?c1 ?c2 ?c3 ?c4 ?c5 ?_))
                    try (case c1 =>
                      intro j u hj
                      match j, hj with
                      | 0, hj => simp at hj; subst hj; simp [Addr.add]
                      | 1, hj => simp at hj; subst hj; simp [Addr.add]
                      | 2, hj => simp at hj; subst hj; simp [Addr.add])
                    case c2 => first | (intro u hu; simp at hu; rcases hu with rfl | rfl | rfl <;> rfl) | exact ⟨rfl, rfl, rfl⟩ | exact ⟨rfl, rfl⟩ | rfl | (simp; done)
                    case c3 => first | omega | (unfold maxLen; omega)
                    case c4 => omega
                    case c5 => first | omega | (simp; omega)
                    intro v' w9 hown' hgrow _
                    have hbx : Rec w9 RW s (.slice aw s.m cw) :=
                      HHq.out.box.block ((hgrow.block RW (by simp; omega) (fun e => HHq.out.ne e.symm)).trans (Below.heap_alloc _ _ _ hRlq))
                    have hrow : RowI w9 (RW + 1) 74 3 v' (s.m + 1) (newF s.m X 0 s.F) := RowI.push hown' HL.out HX.out
                      (fun j hj => by
                        match j, hj with
                        | 0, _ => simp [newF]
                        | 1, _ => simp [newF]
                        | 2, _ => simp [newF])
                      (fun i hi => by unfold newF; rw [if_neg (by omega), if_neg (by omega), if_neg (by omega)])
                    have hA9 : Go.Law.Aside RW (.slice aw s.m cw) wr w9 := ((Go.Law.Aside.refl _ _ _).alloc _).grown hgrow
                    have hs9 := hA9.size
                    have y1 := (hA9.cell (p := ⟨wo.heap.size, 1, none⟩) (show wo.heap.size < wr.heap.size by omega) (show wo.heap.size ≠ RW by omega) HVX.out).trans x1
                    have y2 := (hA9.cell (p := ⟨wo.heap.size, 2, none⟩) (show wo.heap.size < wr.heap.size by omega) (show wo.heap.size ≠ RW by omega) HVX.out).trans x2
                    have hW9 : Below RW w4 w9 := HWq.out.trans (hA9.below (by omega) (Nat.le_refl _) (fun b e => by have := HHq.out.row.ge b e; omega))
                    obtain ⟨g', cap', rfl, hg1, hg2, _, _, hfz, hcells⟩ := hrow.at (by omega)
                    have k2 := hcells (s.m * 3 + 2) (by omega)
                    rw [show newF s.m X 0 s.F (s.m * 3 + 2) = 0 by unfold newF; rw [if_neg (by omega), if_neg (by omega), if_pos rfl]] at k2
                    have kf := hfz (s.m * 3 + 2)
                    have c2' := hbx.sl
                    have c3' := hbx.row
                    have n2 := hbx.frozen 2
                    have n3 := hbx.frozen 3
                    have hne1 : g' ≠ RW := by omega
                    have hne2 : wo.heap.size ≠ RW := by omega
                    have hgx : g' ≠ wo.heap.size := by
                      obtain ⟨cur, hcur⟩ := hrow.elem g' rfl
                      have hx1 : w9.heap[wo.heap.size]? = _ := (hA9.block wo.heap.size (by omega) hne2 HVX.out).trans ((HZ.out.block _ (by omega)).trans (show (wo.heap.push _)[_]? = _ by rw [Array.getElem?_push, if_pos rfl]))
                      intro e
                      rw [e, hx1] at hcur
                      cases hcur
                    have HROW9 := Lib.hid hrow
                    have HBX := Lib.hid hbx
                    have HW9 := Lib.hid hW9
                    have hR9 := hbx.lt
                    clear hown' hgrow hown hrow hbx hA9 hcells hfz x1 x2 b2 b3 z2 z3 hW9
                    go_wp2_with fail
                    go_meet
                    have hA := ((((Go.Law.Aside.refl RW (.slice (some ⟨g', 0, none⟩) (s.m + 1) cap') w9).setR 3 (.slice (some ⟨g', 0, none⟩) (s.m + 1) cap')).setRow (p := ⟨g', s.m * 3 + 2, none⟩) rfl (.int .i64 1))).setR 2 (.int .i64 X)
                    refine ⟨rfl, .slice (some ⟨g', 0, none⟩) (s.m + 1) cap', ?_, HW9.out.trans (hA.below (by have := HW9.out.size; omega) (Nat.le_refl _) (fun b e => by have := HROW9.out.ge b e; omega)), by simp [World.setCell]; omega, ?_, fun e => by simp [Value.ownBlock] at e; exact hgx e⟩
                    · rw [show evS s 2 X = showS s X from rfl, HS.out]
                      refine Held.congr (s := { s with sl := X, m := s.m + 1, F := upd (newF s.m X 0 s.F) (s.m * 3 + 2) 1 }) ⟨?_, ?_, by omega⟩ rfl rfl rfl rfl ?_
                      · exact ((HBX.out.setRow _).block (Below.heap_setCell _ _ _ _ (by show RW ≠ g'; omega))).setSl X
                      · exact ((HROW9.out.other (fun e => by simp [Value.ownBlock] at e; exact hne1 e) _).set (s.m * 3 + 2) (by omega) 1).other (fun e => by simp [Value.ownBlock] at e; exact hne1 e) _
                      · intro j hj
                        show upd (newF s.m X 0 s.F) (s.m * 3 + 2) 1 j = newF s.m X 1 s.F j
                        unfold upd newF
                        by_cases h1 : j = s.m * 3 + 2
                        · rw [if_pos h1, if_neg (by omega), if_neg (by omega), if_pos h1]
                        · rw [if_neg h1]
                          by_cases h2 : j = s.m * 3
                          · rw [if_pos h2, if_pos h2]
                          · rw [if_neg h2, if_neg h2]
                            by_cases h3 : j = s.m * 3 + 1
                            · rw [if_pos h3, if_pos h3]
                            · rw [if_neg h3, if_neg h3, if_neg h1, if_neg h1]
                    · exact (hA.cell (p := ⟨wo.heap.size, 1, none⟩) (show wo.heap.size < w9.heap.size by omega) hne2 (fun e => by simp [Value.ownBlock] at e; exact hgx e)).trans y1
                  · have he2 := he
                    obtain ⟨gw, cw', hv, hg, hgl, _, _, hfz, hcells⟩ := HHq.out.row.at (by omega)
                    cases hv
                    have f2 := hcells (p * 3 + 2) (by omega)
                    have fz := hfz (p * 3 + 2)
                    obtain ⟨hn1, hn2⟩ := HG.out.num p (by omega)
                    have HS := Lib.hid (showS_found ⟨p, by omega, he⟩)
                    have HU := Lib.hid (addN_upd (q := p) HG.out.one (by omega) he)
                    have hne1 : gw ≠ RW := by omega
                    have hne2 : wo.heap.size ≠ RW := by omega
                    have hgx : gw ≠ wo.heap.size := fun e => HVX.out (by simp [Value.ownBlock, e])
                    clear hcells hfz he he2
                    by_cases hsl : s.sl = X
                    · have d8 : (s.sl != X) = false := by simpa using hsl
                      have HSL := Lib.hid hsl
                      clear hsl
                      go_wp2_with fail
                      go_meet
                      refine ⟨rfl, .slice (some ⟨gw, 0, none⟩) s.m cw, ?_, HWq.out.setCell (p := ⟨RW, 2, none⟩) (Nat.le_refl RW) _, by simp [World.setCell]; omega, ?_, HVX.out⟩
                      · rw [show evS s 2 X = showS s X from rfl, HS.out, if_pos HSL.out]
                        exact ⟨HHq.out.box.setSl _, HHq.out.row.other HHq.out.ne _, HHq.out.low⟩
                      · exact (((Go.Law.Aside.refl RW (.slice (some ⟨gw, 0, none⟩) s.m cw) wr).setR 2 _).cell (p := ⟨wo.heap.size, 1, none⟩) (show wo.heap.size < wr.heap.size by omega) hne2 HVX.out).trans x1
                    · have d8 : (s.sl != X) = true := by simpa using hsl
                      have HSL := Lib.hid hsl
                      clear hsl
                      go_wp2_with fail
                      go_meet
                      have hA := ((Go.Law.Aside.refl RW (.slice (some ⟨gw, 0, none⟩) s.m cw) wr).setRow (p := ⟨gw, p * 3 + 2, none⟩) rfl (.int .i64 (s.F (p * 3 + 2) + 1))).setR 2 (.int .i64 X)
                      refine ⟨rfl, .slice (some ⟨gw, 0, none⟩) s.m cw, ?_, HWq.out.trans (hA.below (by omega) (Nat.le_refl _) (fun b e => by have := HHq.out.row.ge b e; omega)), by simp [World.setCell]; omega, ?_, HVX.out⟩
                      · rw [show evS s 2 X = showS s X from rfl, HS.out, if_neg HSL.out]
                        refine Held.congr (s := { s with sl := X, F := upd s.F (p * 3 + 2) (s.F (p * 3 + 2) + 1) }) ⟨?_, ?_, HHq.out.low⟩ rfl rfl rfl rfl HU.out
                        · exact (HHq.out.box.block (Below.heap_setCell _ _ _ _ (by show RW ≠ gw; omega))).setSl X
                        · exact (HHq.out.row.set (p * 3 + 2) (by omega) _).other HHq.out.ne _
                      · exact (hA.cell (p := ⟨wo.heap.size, 1, none⟩) (show wo.heap.size < wr.heap.size by omega) hne2 HVX.out).trans x1
            · have W0 := HH.out.box.run
              have z0 := HH.out.box.frozen 0
              go_wp2_with fail
              go_meet
              refine ⟨rfl, .slice aw s.m cw, ?_, (HW.out.setCell (p := ⟨RW, 0, none⟩) (Nat.le_refl RW) _).alloc (by simp [World.setCell]; omega) _, by simp [World.setCell], ?_, HVX.out⟩
              · rw [show evS s 3 X = { s with run := false } from rfl]
                exact Held.alloc (w := wo.setCell ⟨RW, 0, none⟩ (.bool false)) (s := { s with run := false }) ⟨HH.out.box.setRun _, HH.out.row.other HH.out.ne _, HH.out.low⟩ _
              · have h2 : ∀ u : World, (u.alloc (Obj.cells #[.int .i64 3, .int .i64 A, .int .i64 X] 72)).cell? ⟨u.heap.size, 1, none⟩ = some (.int .i64 A) := fun u => by simp
                have h3 := h2 (wo.setCell ⟨RW, 0, none⟩ (.bool false))
                rw [show (wo.setCell ⟨RW, 0, none⟩ (.bool false)).heap.size = wo.heap.size by simp [World.setCell]] at h3
                exact h3
          case rest =>
            obtain ⟨rfl, v', hH2, hW2, hsz2, x1, hvx⟩ := hcut
            have HGt := Lib.hid (HG.out.ev (kind := K) (x := X) HKX.out.1 hA0)
            obtain ⟨t, ht⟩ : ∃ t, t = evS s K X := ⟨_, rfl⟩
            rw [← ht] at hH2 HLA HGt
            clear ht HH HW HG
            obtain ⟨run, tot, sl, m, F⟩ := t
            obtain ⟨aw, cw, rfl, hcw1, hcw2⟩ := hH2.row.slice
            have r0 := hH2.box.run
            have r1 := hH2.box.tot
            have z1 := hH2.box.frozen 1
            have r3 := hH2.box.row
            have hR2 := hH2.box.lt
            have hne2 : wo.heap.size ≠ RW := by omega
            have HH2 := Lib.hid hH2
            have HW2 := Lib.hid hW2
            have HVX := Lib.hid hvx
            have hmc : m ≤ 9223372036854775807 := by unfold maxLen at hcw2; simp only at hcw1; omega
            obtain ⟨ht1, ht2⟩ := HGt.out.tot
            have hm2 := HGt.out.many
            try simp only at r0 r1 r3 ht1 ht2 hm2
            clear hH2 hW2 hvx hcw1 hcw2
            cases run
            · go_wp2_with fail
              go_roundw
              case rel =>
                refine ⟨k + 1, .slice aw m cw, by go_num, by omega, HLE2.out, ?_, HW2.out, by omega⟩
                rw [HLA.out]
                exact HH2.out
              case measure => simp [intOf]; omega
            · go_wp2_with fail
              go_loopw [147] (fun ix wr => ∃ q : Nat, ix = .int .i64 q ∧ q ≤ m ∧ Held wr RW (RW + 1) ⟨true, tot + (TO - A), sl, m, partT sl (TO - A) q F⟩ (.slice aw m cw) ∧ Go.Law.Aside RW (.slice aw m cw) wc wr) (fun ix _ => m - (intOf ix).toNat)
              case atStart =>
                refine ⟨0, rfl, by omega, ⟨HH2.out.box.setTot _, ?_, HH2.out.low⟩, (Go.Law.Aside.refl _ _ _).setR 1 _⟩
                rw [partT_zero]
                exact HH2.out.row.other HH2.out.ne _
              case round =>
                obtain ⟨q, rfl, hq, hH3, has3⟩ := hrel
                have q2 := hH3.box.sl
                have q3 := hH3.box.row
                try simp only at q2 q3
                have xA := (has3.cell (p := ⟨wo.heap.size, 1, none⟩) hsz2 hne2 HVX.out).trans x1
                have hs3 := has3.size
                have hR3 := hH3.box.lt
                have HH3 := Lib.hid hH3
                have HAS := Lib.hid has3
                clear hH3 has3 r0 r1 r3 z1
                by_cases hqm : q < m
                · obtain ⟨g, cap', hv, hg, hgl, _, _, hfz, hcells⟩ := HH3.out.row.at (by show 0 < m; omega)
                  cases hv
                  have e0 := hcells (q * 3) (by show q * 3 < m * 3; omega)
                  have e1 := hcells (q * 3 + 1) (by show q * 3 + 1 < m * 3; omega)
                  have f1 := hfz (q * 3 + 1)
                  try simp only at e0 e1
                  rw [partT_0 _ _ _ (Nat.le_refl _)] at e0
                  rw [partT_1 _ _ _ (Nat.le_refl _)] at e1
                  obtain ⟨hb1, hb2⟩ := HGt.out.time q hqm
                  try simp only at hb1 hb2
                  clear hcells hfz
                  by_cases he : F (q * 3) = sl
                  · have d9 : (F (q * 3) == sl) = true := by simpa using he
                    have HE2 := Lib.hid (partT_add (d := TO - A) he)
                    rw [he] at e0
                    clear he
                    go_wp2_with fail
                    go_quiet (fail)
                    go_wp2_with fail
                    obtain ⟨wd, hwd⟩ : ∃ wd, wd = wr.drewN nq := ⟨_, rfl⟩
                    have HWD := Lib.hid hwd
                    have q3' : wd.cell? ⟨RW, 3, none⟩ = some (.slice (some ⟨g, 0, none⟩) m cw) := by rw [hwd]; exact q3
                    have e1' : wd.cell? ⟨g, q * 3 + 1, none⟩ = some (.int .i64 (F (q * 3 + 1))) := by rw [hwd]; exact e1
                    have xA' : wd.cell? ⟨wo.heap.size, 1, none⟩ = some (.int .i64 A) := by rw [hwd]; exact xA
                    have f1' : wd.frozen? ⟨g, q * 3 + 1, none⟩ = false := by rw [hwd]; exact f1
                    rw [← hwd]
                    clear hwd q3 e1 xA f1
                    go_still_tail 13, (by kernel_rfl)
                    change wpList _ _ _ _ _ wd.drew
                    obtain ⟨we, hwe⟩ : ∃ we, we = wd.drew := ⟨_, rfl⟩
                    have HWE := Lib.hid hwe
                    have e1'' : we.cell? ⟨g, q * 3 + 1, none⟩ = some (.int .i64 (F (q * 3 + 1))) := by rw [hwe]; exact e1'
                    have f1'' : we.frozen? ⟨g, q * 3 + 1, none⟩ = false := by rw [hwe]; exact f1'
                    rw [← hwe]
                    clear hwe q3' e1' xA' f1'
                    go_wp2_with fail
                    go_roundw
                    case rel =>
                      have hd : we = (wr.drewN nq).drew := by rw [HWE.out, HWD.out]
                      have hH4 : Held we RW (RW + 1) ⟨true, tot + (TO - A), sl, m, partT sl (TO - A) q F⟩ (.slice (some ⟨g, 0, none⟩) m cw) := by rw [hd]; exact ⟨(HH3.out.drewN nq).box.block rfl, (HH3.out.drewN nq).row.drew, HH3.out.low⟩
                      refine ⟨q + 1, by go_num, by omega, ⟨?_, ?_, HH3.out.low⟩, ?_⟩
                      · exact hH4.box.block (Below.heap_setCell _ _ _ _ (by have := HH3.out.low; show RW ≠ g; omega))
                      · show RowI _ (RW + 1) 74 3 _ m (partT sl (TO - A) (q + 1) F)
                        rw [HE2.out]
                        exact hH4.row.set (q * 3 + 1) (by show q * 3 + 1 < m * 3; omega) _
                      · have hA4 : Go.Law.Aside RW (.slice (some ⟨g, 0, none⟩) m cw) wc we := by rw [hd]; exact (HAS.out.drewN nq).drew
                        exact hA4.setRow (p := ⟨g, q * 3 + 1, none⟩) rfl _
                    case measure => simp [intOf]; omega
                  · have d9 : (F (q * 3) == sl) = false := by simpa using he
                    have HE2 := Lib.hid (partT_same (d := TO - A) he)
                    clear he
                    go_wp2_with fail
                    go_quiet (fail)
                    go_wp2_with fail
                    go_roundw
                    case rel =>
                      refine ⟨q + 1, by go_num, by omega, ?_, HAS.out.drewN _⟩
                      rw [HE2.out]
                      exact HH3.out.drewN _
                    case measure => simp [intOf]; omega
                · obtain rfl : m = q := by omega
                  go_wp2_with fail
                  go_roundw
                  case rel =>
                    refine ⟨k + 1, .slice aw m cw, by go_num, by omega, HLE2.out, ?_, HW2.out.trans (HAS.out.below (by have := HW2.out.size; omega) (Nat.le_refl _) (fun b e => by have := HH2.out.row.ge b e; omega)), by omega⟩
                    rw [HLA.out]
                    exact Held.congr (s' := passS ⟨true, tot, sl, m, F⟩ (TO - A)) HH3.out rfl rfl rfl rfl (fun j hj => partT_all j hj)
                  case measure => simp [intOf]; omega
    · have hkn' : k = n := by omega
      subst hkn'
      have hS : s0 = laS k E T k := HS0.out.trans (la_fin hT1 (fun i hi => (HEV.out i hi).2.2.2.2) (fun h => (HEV.out 0 h).2.1.1) k hk HLE.out (by first | exact .inr hTA | exact .inl (by omega)))
      have hbel : Below w.heap.size w wr := HBEL.out.trans (hW.mono (by omega))
      have hlt4 : w2.heap.size < RW := by omega
      have R0 := (hW.cell (p := ⟨w2.heap.size, 0, none⟩) hlt4).trans HR0.out.1
      have R1 := (hW.cell (p := ⟨w2.heap.size, 1, none⟩) hlt4).trans HR0.out.2.1
      have R2 := (hW.cell (p := ⟨w2.heap.size, 2, none⟩) hlt4).trans HR0.out.2.2.1
      have R3 := (hW.cell (p := ⟨w2.heap.size, 3, none⟩) hlt4).trans HR0.out.2.2.2
      rw [← hS] at hH
      obtain ⟨av, cv, rfl, hcv1, hcv2⟩ := hH.row.slice
      have W0 := hH.box.run
      have W1 := hH.box.tot
      have W2 := hH.box.sl
      have W3 := hH.box.row
      have hRl := hH.box.lt
      have h2l : w2.heap.size < wr.heap.size := by omega
      have HRR := Lib.hid (HROW.out.below (B := RW) hW (by omega))
      have HRH := Lib.hid hH.row
      have HBB := Lib.hid hbel
      have hmL : s0.m ≤ 9223372036854775807 := by unfold maxLen at hcv2; omega
      clear hH hS hW hbel
      go_wp2_with fail
      go_loopw [209] (fun ix wz => ∃ q : Nat, ix = .int .i64 q ∧ q ≤ s0.m ∧ Below wr.heap.size wr wz) (fun ix _ => s0.m - (intOf ix).toNat)
      case atStart =>
        refine ⟨0, rfl, by omega, ?_⟩
        repeat' (with_reducible first | exact Below.refl _ _ | assumption | refine Below.setCell ?_ ?_ _ | refine Below.alloc ?_ ?_ _ | refine below_drewN ?_ _ | refine Below.drew ?_)
        all_goals first | omega | (simp; done) | (simp; omega)
      case round =>
        obtain ⟨q, rfl, hq, hz⟩ := hrel
        by_cases hqm : q < s0.m
        · obtain ⟨gr, cr, hvr, _, hgr, _, _, _, hcr⟩ := HRR.out.at (by omega)
          obtain ⟨gw, cw, hvw, _, hgw, _, _, _, hcw⟩ := HRH.out.at (by omega)
          cases hvr
          cases hvw
          have x0 := (hz.cell (p := ⟨gr, q * 3, none⟩) hgr).trans (hcr (q * 3) (by omega))
          have x1 := (hz.cell (p := ⟨gr, q * 3 + 1, none⟩) hgr).trans (hcr (q * 3 + 1) (by omega))
          have x2 := (hz.cell (p := ⟨gr, q * 3 + 2, none⟩) hgr).trans (hcr (q * 3 + 2) (by omega))
          have y0 := (hz.cell (p := ⟨gw, q * 3, none⟩) hgw).trans (hcw (q * 3) (by omega))
          have y1 := (hz.cell (p := ⟨gw, q * 3 + 1, none⟩) hgw).trans (hcw (q * 3 + 1) (by omega))
          have y2 := (hz.cell (p := ⟨gw, q * 3 + 2, none⟩) hgw).trans (hcw (q * 3 + 2) (by omega))
          have b3 := (hz.cell (p := ⟨w2.heap.size, 3, none⟩) h2l).trans R3
          have d3 := (hz.cell (p := ⟨RW, 3, none⟩) hRl).trans W3
          clear hcr hcw R0 R1 R2 R3 W0 W1 W2 W3
          go_wp2_with fail
          go_quiet (fail)
          go_wp2_with fail
          go_roundw
          case rel =>
            refine ⟨q + 1, by go_num, by omega, ?_⟩
            repeat' (with_reducible first | exact Below.refl _ _ | assumption | refine Below.setCell ?_ ?_ _ | refine Below.alloc ?_ ?_ _ | refine below_drewN ?_ _ | refine Below.drew ?_)
            all_goals first | omega | (simp; done) | (simp; omega)
          case measure => simp [intOf]; omega
        · obtain rfl : q = s0.m := by omega
          go_wp2_with fail
          go_ret
          exact ⟨rfl, HBB.out.trans (hz.mono (by have := HBB.out.size; omega))⟩
end Go.Proofs.Ytpbnkkeplhgepaa.CL
