

/-
  chart's maker: beside, stacked.
-/
import Derived.Test.YtnigebnibikolaaCbBar
namespace Go.Proofs.Ytnigebnibikolaa.CB
open Go.RowKit Go.Law Go.Law.Cb Ref CH
set_option linter.unusedVariables false
set_option linter.unusedSimpArgs false
set_option maxRecDepth 100000
/-- the blocks below base are as they were, but for the block g -/
structure Under (base g : Nat) (w w' : World) : Prop where
  os : w'.os = w.os
  tape : w'.tape = w.tape
  output : w'.output = w.output
  size : w.heap.size ≤ w'.heap.size
  block : ∀ k, k < base → k ≠ g → w'.heap[k]? = w.heap[k]?
theorem Under.refl (base g : Nat) (w : World) : Under base g w w := ⟨rfl, rfl, rfl, Nat.le_refl _, fun _ _ _ => rfl⟩
theorem Under.trans {base g : Nat} {a b c : World} (h : Under base g a b) (k : Under base g b c) : Under base g a c :=
  ⟨k.os.trans h.os, k.tape.trans h.tape, k.output.trans h.output, Nat.le_trans h.size k.size, fun i hi h1 => (k.block i hi h1).trans (h.block i hi h1)⟩
theorem Under.of_below {base g B : Nat} {w w' : World} (h : Below B w w') (hB : base ≤ B) : Under base g w w' := ⟨h.os, h.tape, h.output, h.size, fun k hk _ => h.block k (by omega)⟩
theorem Under.of_aside {base g : Nat} {out : Value} {w w' : World} (h : Aside g out w w') (hb : base ≤ w.heap.size) (ho : ∀ k, out.ownBlock = some k → base ≤ k) : Under base g w w' :=
  ⟨h.os, h.tape, h.output, h.size, fun k hk hg => h.block k (by omega) hg (fun e => by have := ho k e; omega)⟩
theorem Under.to_below {base g B : Nat} {w w' : World} (h : Under base g w w') (hB : B ≤ base) (hg : B ≤ g) : Below B w w' := ⟨h.os, h.tape, h.output, h.size, fun k hk => h.block k (by omega) (by omega)⟩
theorem Under.drewN {base g : Nat} {w w' : World} (h : Under base g w w') (n : Nat) : Under base g w (w'.drewN n) := ⟨h.os, h.tape, h.output, h.size, h.block⟩
/-- what the maker's methods are called with -/
structure Env (W0 : World) (kind : Int) (a1 a2 : Option Addr) (p cp s cs : Nat) (sa : Nat → Option Addr) (sn sc : Nat → Nat) (sf : Nat → Nat → Int) (lo hi st height : Int) (g base : Nat) : Prop where
  rows : RowsF W0 a2 s sa sn sc sf
  g0 : W0.heap.size ≤ g
  gb : g < base
  n : ∀ q, q < s → sn q = p
  dims : 0 < s ∧ s ≤ 12 ∧ p ≤ 200
  chk : SP.chk lo hi st = 0
  vals : ∀ q, q < s → ∀ i, i < p → lo ≤ sf q i ∧ sf q i ≤ hi
  hh : 1 ≤ height ∧ height ≤ 100000
/-- what a method that adds bars leaves -/
def AddPost (g base : Nat) (kind : Int) (a1 a2 : Option Addr) (p cp s cs : Nat) (lo hi st height : Int) (n : Nat) (xs : List Int) (w : World) (e : Ending) (w' : World) : Prop :=
  ∃ out', e = .returned (.tuple #[]) ∧ MkAt w' g kind a1 a2 p cp s cs lo hi st height out' ∧ RowL w' base 42 6 out' n (xs.map (Value.int .i64)) ∧ Under base g w w'
set_option maxHeartbeats 8000000 in
theorem beside_any {W0 : World} {kind : Int} {a1 a2 : Option Addr} {p cp s cs : Nat} {sa : Nat → Option Addr} {sn sc : Nat → Nat} {sf : Nat → Nat → Int} {lo hi st height : Int} {g base : Nat} (E : Env W0 kind a1 a2 p cp s cs sa sn sc sf lo hi st height g base) (hz : lo ≤ 0 ∧ 0 ≤ hi)
    (out : Value) (n : Nat) (xs : List Int) (i : Nat) (width : Int) (w : World) (hB : Below W0.heap.size W0 w)
    (hM : MkAt w g kind a1 a2 p cp s cs lo hi st height out) (hR : RowL w base 42 6 out n (xs.map (Value.int .i64))) (hb : base ≤ w.heap.size) (hn : n ≤ 50000) (hi' : i < p)
    (hx : 0 ≤ xF width p i ∧ xF width p i ≤ 100000) (hwd : 0 ≤ xF width p (i + 1) - xF width p i ∧ xF width p (i + 1) - xF width p i ≤ 100000) :
    Calls Try.prog 46 #[.pointer (some ⟨g, 0, none⟩), .int .i64 (i : Int), .int .i64 (xF width p i), .int .i64 (xF width p (i + 1) - xF width p i)] w
      (AddPost g base kind a1 a2 p cp s cs lo hi st height (n + s) (xs ++ barsP 0 lo hi width height sf p s i s) w) := by
  obtain ⟨hrows, hg0, hgb, hN, ⟨hs0, hs2, hp2⟩, hchk, hvals, hh⟩ := E
  have HBP := Lib.hid (fun k => show barsP 0 lo hi width height sf p s i (k + 1) = barsP 0 lo hi width height sf p s i k ++ bar6 0 lo hi width height sf p s i k from rfl)
  have HB6 := Lib.hid (fun k => show bar6 0 lo hi width height sf p s i k = [(k : Int), (i : Int), xF width p i + (xF width p (i + 1) - xF width p i) * (2 * (k : Int) + 1) / (2 * (s : Int) + 2), min (yF lo hi height 0) (yF lo hi height (sf k i)),
      (xF width p (i + 1) - xF width p i) * (2 * (k : Int) + 3) / (2 * (s : Int) + 2) - (xF width p (i + 1) - xF width p i) * (2 * (k : Int) + 1) / (2 * (s : Int) + 2),
      max (yF lo hi height 0) (yF lo hi height (sf k i)) - min (yF lo hi height 0) (yF lo hi height (sf k i))] by unfold bar6; rw [if_neg (by decide), if_pos rfl])
  obtain ⟨D, hD⟩ : ∃ D, D = xF width p (i + 1) - xF width p i := ⟨_, rfl⟩
  rw [← hD] at hwd HB6 ⊢
  obtain ⟨x, hxx⟩ : ∃ x, x = xF width p i := ⟨_, rfl⟩
  rw [← hxx] at hx HB6 ⊢
  have hed := fun w1 => edges_any D (2 * s + 2) w1 hwd (by omega) (by omega)
  rw [show ((2 * s + 2 : Nat) : Int) = 2 * (s : Int) + 2 by omega] at hed
  have HED := Lib.hid hed
  have HBD := Lib.hid (fun j (hj : j ≤ 2 * s + 2) => ed_bd (long := D) (parts := 2 * s + 2) (i := j) hwd (by omega) hj)
  have HR := Lib.hid hrows
  have HV := Lib.hid hvals
  have HNN := Lib.hid hN
  have HCK := Lib.hid hchk
  obtain ⟨F, hF⟩ : ∃ F, F = edF D (2 * s + 2) := ⟨_, rfl⟩
  have HF := Lib.hid (fun j => show F j = D * (j : Int) / (2 * (s : Int) + 2) by rw [hF]; unfold edF; congr 1)
  rw [← hF] at HED HBD
  have hgl := Blk.lt hM
  have hro := hR.blk_lt
  have hge := hR.ge
  have c2 : w.cell? ⟨g, 2, none⟩ = some (.slice a2 s cs) := Blk.cell hM (i := 2) rfl
  have hw2 : IntKind.i64.wrap (2 * (s : Int)) = 2 * (s : Int) := IntWalk.i64_in _ ⟨by omega, by omega⟩
  clear hed hrows hvals hN hchk hF hxx hD
  go_enter Try.func46, Try.ntmps46
  go_wp2_with fail
  refine (HED.out _).mono ?_
  rintro e w1 ⟨rfl, hO, hb1⟩
  have hM1 : MkAt w1 g kind a1 a2 p cp s cs lo hi st height out := Blk.below hM hb1 hgl
  have hR1 := hR.below hb1 (Nat.le_refl _)
  have hU1 : Under base g w w1 := Under.of_below hb1 hb
  have hs1 := hb1.size
  have hog : out.ownBlock ≠ some w.heap.size := fun h => by have := hro _ h; omega
  have d2 : w1.cell? ⟨g, 2, none⟩ = some (.slice a2 s cs) := Blk.cell hM1 (i := 2) rfl
  clear hM hR hb1 hro c2 HED
  go_wp2_with fail
  go_loopw [29] (fun iv wr => ∃ (k : Nat) (o : Value), iv = .int .i64 k ∧ k ≤ s ∧ MkAt wr g kind a1 a2 p cp s cs lo hi st height o ∧ RowL wr base 42 6 o (n + k) ((xs ++ barsP 0 lo hi width height sf p s i k).map (Value.int .i64)) ∧ OwnF wr 3 w.heap.size (2 * s + 2 + 1) F ∧ o.ownBlock ≠ some w.heap.size ∧ Under base g w wr) (fun iv _ => s - (intOf iv).toNat)
  case atStart => exact ⟨0, out, rfl, by omega, hM1, by rw [show barsP 0 lo hi width height sf p s i 0 = [] from rfl, List.append_nil]; exact hR1, hO, hog, hU1⟩
  case round =>
    clear hM1 hR1 hO hog hU1 d2 hs1
    obtain ⟨k, o, rfl, hk, hM, hR, hO, hog, hU⟩ := hrel
    have hsU := hU.size
    by_cases hks : k < s
    · have hbW := hB.trans (hU.to_below (by omega) hg0)
      have hrw := HR.out.below (Nat.le_refl _) hbW
      obtain ⟨b, off, rfl, hqq⟩ := hrw hs0
      obtain ⟨d1, _, hi3⟩ := hqq k hks
      have hsn := HNN.out k hks
      rw [hsn] at d1 hi3
      obtain ⟨b3, off3, hsa, hc3⟩ := hi3 (by omega)
      have d3 := hc3 i hi'
      rw [hsa] at d1
      have hb3 : b3 < W0.heap.size := by
        obtain ⟨b4, off4, h4, hq4⟩ := HR.out hs0
        cases h4
        obtain ⟨_, _, hi4⟩ := hq4 k hks
        rw [hsn] at hi4
        obtain ⟨b5, off5, h5, hc5⟩ := hi4 (by omega)
        rw [hsa] at h5
        cases h5
        exact lt_of_cell (hc5 i hi')
      have hvk := HV.out k hks i hi'
      have e1 := hO.cell (show 2 * k + 1 < 2 * s + 2 + 1 by omega)
      have e3 := hO.cell (show 2 * k + 3 < 2 * s + 2 + 1 by omega)
      have hA := HBD.out (2 * k + 1) (by omega)
      have hBb := HBD.out (2 * k + 3) (by omega)
      have HL := Lib.hid (show xs ++ barsP 0 lo hi width height sf p s i (k + 1) = (xs ++ barsP 0 lo hi width height sf p s i k) ++ [(k : Int), (i : Int), x + F (2 * k + 1), min (yF lo hi height 0) (yF lo hi height (sf k i)), F (2 * k + 3) - F (2 * k + 1), max (yF lo hi height 0) (yF lo hi height (sf k i)) - min (yF lo hi height 0) (yF lo hi height (sf k i))] by
        rw [HBP.out, HB6.out, HF.out, HF.out, List.append_assoc]; rfl)
      obtain ⟨v, hv⟩ : ∃ v, v = sf k i := ⟨_, rfl⟩
      obtain ⟨A, hAA⟩ : ∃ A, A = F (2 * k + 1) := ⟨_, rfl⟩
      obtain ⟨C, hCC⟩ : ∃ C, C = F (2 * k + 3) := ⟨_, rfl⟩
      rw [← hv] at d3 hvk HL
      rw [← hAA] at e1 hA HL
      rw [← hCC] at e3 hBb HL
      obtain ⟨ys, hys⟩ : ∃ ys, ys = xs ++ barsP 0 lo hi width height sf p s i k := ⟨_, rfl⟩
      rw [← hys] at hR HL
      have j1 : (0 : Int) ≤ 2 * (k : Int) + 1 := by omega
      have j2 : 2 * (k : Int) + 1 < 2 * (s : Int) + 2 + 1 := by omega
      have j3 : (0 : Int) ≤ 2 * (k : Int) + 3 := by omega
      have j4 : 2 * (k : Int) + 3 < 2 * (s : Int) + 2 + 1 := by omega
      have t1 : (2 * (k : Int) + 1).toNat = 2 * k + 1 := by omega
      have t3 : (2 * (k : Int) + 3).toNat = 2 * k + 3 := by omega
      have q0 : IntKind.i64.wrap (2 * (k : Int)) = 2 * (k : Int) := IntWalk.i64_in _ ⟨by omega, by omega⟩
      have q1 : IntKind.i64.wrap (2 * (k : Int) + 1) = 2 * (k : Int) + 1 := IntWalk.i64_in _ ⟨by omega, by omega⟩
      have q3 : IntKind.i64.wrap (2 * (k : Int) + 3) = 2 * (k : Int) + 3 := IntWalk.i64_in _ ⟨by omega, by omega⟩
      have HM := Lib.hid hM
      have HRW := Lib.hid hR
      have HO := Lib.hid hO
      have HU := Lib.hid hU
      clear hqq hi3 hc3 hsn hsa hrw hv hAA hCC hys hM hR hO hU hbW
      go_wp2_with fail
      go_quiet (fail)
      obtain ⟨wz, hwz⟩ : ∃ wz, wz = wr.drewN nq := ⟨_, rfl⟩
      rw [← hwz]
      have f3 : wz.cell? ⟨b3, off3 + i, none⟩ = some (.int .i64 v) := by rw [hwz]; simpa using d3
      have HM2 : Hid (MkAt wz g kind a1 (some ⟨b, off, none⟩) p cp s cs lo hi st height o) := Lib.hid (by rw [hwz]; exact Blk.drewN HM.out nq)
      have HR2 : Hid (RowL wz base 42 6 o (n + k) (ys.map (Value.int .i64))) := Lib.hid (by rw [hwz]; exact HRW.out.drewN nq)
      have HO2 : Hid (OwnF wz 3 w.heap.size (2 * s + 2 + 1) F) := Lib.hid (by rw [hwz]; exact HO.out.drewN nq)
      have HU2 : Hid (Under base g w wz) := Lib.hid (by rw [hwz]; exact HU.out.drewN nq)
      have hsz : w.heap.size ≤ wz.heap.size := HU2.out.size
      have u1 : IntKind.i64.wrap (x + A) = x + A := IntWalk.i64_in _ ⟨by omega, by omega⟩
      have u2 : IntKind.i64.wrap (C - A) = C - A := IntWalk.i64_in _ ⟨by omega, by omega⟩
      have j5 : (0 : Int) ≤ (i : Int) := by omega
      have j6 : (i : Int) < (p : Int) := by omega
      clear hwz d1 d3 e1 e3 HM HRW HO HU j1 j2 j3 j4 t1 t3 q0 q1 q3
      go_wp2_with fail
      refine wp_region_held_drew (S := fun w' => w'.cell? ⟨b3, off3 + i, none⟩ = some (.int .i64 v)) (by kernel_rfl) (by exact f3) ?_
      intro hHeld
      refine takeD (i := 0) (oi := { dst := some 46, op := _, type := _, pos := _, after := _, guard := _ }) (d := some 46) (v := ?vva46) rfl rfl (by kernel_rfl) (by kernel_rfl) (by kernel_rfl) ?dda46 (by rfl) ?yya46 hHeld ?rra46
      case dda46 => exact fun _ _ _ h => h
      case yya46 => (intro wx hSw; obtain y0 := hSw; go_simp; try (with_reducible rfl))
      try simp only [Act.put, List.setIfInBounds_toArray, List.set_cons_zero, List.set_cons_succ]
      refine takeD (i := 1) (oi := { dst := some 47, op := _, type := _, pos := _, after := _, guard := _ }) (d := some 47) (v := ?vva47) rfl rfl (by kernel_rfl) (by kernel_rfl) (by kernel_rfl) ?dda47 (by rfl) ?yya47 hHeld ?rra47
      case dda47 => exact fun _ _ _ h => h
      case yya47 => (intro wx hSw; obtain y0 := hSw; go_simp; try (with_reducible rfl))
      try simp only [Act.put, List.setIfInBounds_toArray, List.set_cons_zero, List.set_cons_succ]
      refine takeD (i := 2) (oi := { dst := some 48, op := _, type := _, pos := _, after := _, guard := _ }) (d := some 48) (v := ?vva48) rfl rfl (by kernel_rfl) (by kernel_rfl) (by kernel_rfl) ?dda48 (by rfl) ?yya48 hHeld ?rra48
      case dda48 => exact fun _ _ _ h => h
      case yya48 => (intro wx hSw; obtain y0 := hSw; go_simp; try (with_reducible rfl))
      try simp only [Act.put, List.setIfInBounds_toArray, List.set_cons_zero, List.set_cons_succ]
      refine takeD (i := 3) (oi := { dst := some 49, op := _, type := _, pos := _, after := _, guard := _ }) (d := some 49) (v := ?vva49) rfl rfl (by kernel_rfl) (by kernel_rfl) (by kernel_rfl) ?dda49 (by rfl) ?yya49 hHeld ?rra49
      case dda49 => exact fun _ _ _ h => h
      case yya49 => (intro wx hSw; obtain y0 := hSw; go_simp; try (with_reducible rfl))
      try simp only [Act.put, List.setIfInBounds_toArray, List.set_cons_zero, List.set_cons_succ]
      refine takeD (i := 5) (oi := { dst := some 51, op := _, type := _, pos := _, after := _, guard := _ }) (d := some 51) (v := ?vva51) rfl rfl (by kernel_rfl) (by kernel_rfl) (by kernel_rfl) ?dda51 (by rfl) ?yya51 hHeld ?rra51
      case dda51 => exact fun _ _ _ h => h
      case yya51 => (intro wx hSw; obtain y0 := hSw; go_simp; try (with_reducible rfl))
      try simp only [Act.put, List.setIfInBounds_toArray, List.set_cons_zero, List.set_cons_succ]
      refine takeD (i := 6) (oi := { dst := some 52, op := _, type := _, pos := _, after := _, guard := _ }) (d := some 52) (v := ?vva52) rfl rfl (by kernel_rfl) (by kernel_rfl) (by kernel_rfl) ?dda52 (by rfl) ?yya52 hHeld ?rra52
      case dda52 => exact fun _ _ _ h => h
      case yya52 => (intro wx hSw; obtain y0 := hSw; go_simp; try (with_reducible rfl))
      try simp only [Act.put, List.setIfInBounds_toArray, List.set_cons_zero, List.set_cons_succ]
      refine takeD (i := 7) (oi := { dst := some 53, op := _, type := _, pos := _, after := _, guard := _ }) (d := some 53) (v := ?vva53) rfl rfl (by kernel_rfl) (by kernel_rfl) (by kernel_rfl) ?dda53 (by rfl) ?yya53 hHeld ?rra53
      case dda53 => exact fun _ _ _ h => h
      case yya53 => (intro wx hSw; obtain y0 := hSw; go_simp; try (with_reducible rfl))
      try simp only [Act.put, List.setIfInBounds_toArray, List.set_cons_zero, List.set_cons_succ]
      refine takeD (i := 8) (oi := { dst := some 54, op := _, type := _, pos := _, after := _, guard := _ }) (d := some 54) (v := ?vva54) rfl rfl (by kernel_rfl) (by kernel_rfl) (by kernel_rfl) ?dda54 (by rfl) ?yya54 hHeld ?rra54
      case dda54 => exact fun _ _ _ h => h
      case yya54 => (intro wx hSw; obtain y0 := hSw; go_simp; try (with_reducible rfl))
      try simp only [Act.put, List.setIfInBounds_toArray, List.set_cons_zero, List.set_cons_succ]
      refine takeD (i := 9) (oi := { dst := some 55, op := _, type := _, pos := _, after := _, guard := _ }) (d := some 55) (v := ?vva55) rfl rfl (by kernel_rfl) (by kernel_rfl) (by kernel_rfl) ?dda55 (by rfl) ?yya55 hHeld ?rra55
      case dda55 => exact fun _ _ _ h => h
      case yya55 => (intro wx hSw; obtain y0 := hSw; go_simp; try (with_reducible rfl))
      try simp only [Act.put, List.setIfInBounds_toArray, List.set_cons_zero, List.set_cons_succ]
      refine takeD (i := 10) (oi := { dst := some 56, op := _, type := _, pos := _, after := _, guard := _ }) (d := some 56) (v := ?vva56) rfl rfl (by kernel_rfl) (by kernel_rfl) (by kernel_rfl) ?dda56 (by rfl) ?yya56 hHeld ?rra56
      case dda56 => exact fun _ _ _ h => h
      case yya56 => (intro wx hSw; obtain y0 := hSw; go_simp; try (with_reducible rfl))
      try simp only [Act.put, List.setIfInBounds_toArray, List.set_cons_zero, List.set_cons_succ]
      refine takeD (i := 11) (oi := { dst := some 57, op := _, type := _, pos := _, after := _, guard := _ }) (d := some 57) (v := ?vva57) rfl rfl (by kernel_rfl) (by kernel_rfl) (by kernel_rfl) ?dda57 (by rfl) ?yya57 hHeld ?rra57
      case dda57 => exact fun _ _ _ h => h
      case yya57 => (intro wx hSw; obtain y0 := hSw; go_simp; try (with_reducible rfl))
      try simp only [Act.put, List.setIfInBounds_toArray, List.set_cons_zero, List.set_cons_succ]
      refine takeD (i := 12) (oi := { dst := some 58, op := _, type := _, pos := _, after := _, guard := _ }) (d := some 58) (v := ?vva58) rfl rfl (by kernel_rfl) (by kernel_rfl) (by kernel_rfl) ?dda58 (by rfl) ?yya58 hHeld ?rra58
      case dda58 => exact fun _ _ _ h => h
      case yya58 => (intro wx hSw; obtain y0 := hSw; go_simp; try (with_reducible rfl))
      try simp only [Act.put, List.setIfInBounds_toArray, List.set_cons_zero, List.set_cons_succ]
      refine takeD (i := 13) (oi := { dst := some 59, op := _, type := _, pos := _, after := _, guard := _ }) (d := some 59) (v := ?vva59) rfl rfl (by kernel_rfl) (by kernel_rfl) (by kernel_rfl) ?dda59 (by rfl) ?yya59 hHeld ?rra59
      case dda59 => exact fun _ _ _ h => h
      case yya59 => (intro wx hSw; obtain y0 := hSw; go_simp; try (with_reducible rfl))
      try simp only [Act.put, List.setIfInBounds_toArray, List.set_cons_zero, List.set_cons_succ]
      refine takeD (i := 14) (oi := { dst := some 60, op := _, type := _, pos := _, after := _, guard := _ }) (d := some 60) (v := ?vva60) rfl rfl (by kernel_rfl) (by kernel_rfl) (by kernel_rfl) ?dda60 (by rfl) ?yya60 hHeld ?rra60
      case dda60 => exact fun _ _ _ h => h
      case yya60 => (intro wx hSw; obtain y0 := hSw; go_simp; try (with_reducible rfl))
      try simp only [Act.put, List.setIfInBounds_toArray, List.set_cons_zero, List.set_cons_succ]
      refine wpAnyH_ready (rs := [4]) (by kernel_rfl) (by simp) ?_
      refine AllReadyH.cons (o := { dst := some 50, op := _, type := _, pos := _, after := _, guard := _ }) rfl (fun K hK => ?_) AllReadyH.nil
      go_simp
      go_at_call 73
      refine (zero_any g kind a1 (some ⟨b, off, none⟩) p cp s cs lo hi st height o wz.drew (Blk.drew HM2.out) hz).mono ?_
      rintro e w6 ⟨rfl, m6, rfl⟩
      refine hK.out _ _ ?_ (fun hHeld2 => ?_)
      · simpa using hHeld
      clear hK K
      try simp only [Act.put, List.setIfInBounds_toArray, List.set_cons_zero, List.set_cons_succ]
      refine wpAnyH_ready (rs := [15]) (by kernel_rfl) (by simp) ?_
      refine AllReadyH.cons (o := { dst := some 61, op := _, type := _, pos := _, after := _, guard := _ }) rfl (fun K hK => ?_) AllReadyH.nil
      go_simp
      go_at_call 72
      refine (bar_any g base kind a1 (some ⟨b, off, none⟩) p cp s cs lo hi st height o (n + k) ys (k : Int) (i : Int) 0 v (x + A) (C - A) (wz.drewN (1 + m6)) (Blk.drewN HM2.out _) (HR2.out.drewN _) (by simp; omega) hgb (by omega) HCK.out hz hvk hh).mono ?_
      rintro e w7 ⟨o7, rfl, hM7, hR7, hA7, hB7⟩
      have hoge := HR2.out.ge
      have hA8 : Aside g o wz w7 := ((Aside.refl g o wz).drewN (1 + m6)).trans hA7
      have hU7 := HU2.out.trans (Under.of_aside hA8 (by omega) hoge)
      refine hK.out _ _ ?_ (fun hHeld3 => ?_)
      · refine (hA8.cell (p := ⟨b3, off3 + i, none⟩) (by have := hB.size; simp; omega) (by simp; omega) ?_).trans f3
        intro h; have := hoge _ h; simp at this; omega
      clear hK K
      try simp only [Act.put, List.setIfInBounds_toArray, List.set_cons_zero, List.set_cons_succ]
      refine wpAnyH_done (by kernel_rfl) ?_ _
      have hO7 : OwnF w7 3 w.heap.size (2 * s + 2 + 1) F := HO2.out.block (hA8.block _ HO2.out.lt (by omega) hog)
      have hog7 : o7.ownBlock ≠ some w.heap.size := fun h => by
        rcases hB7 _ h with h' | h'
        · exact hog h'
        · have := HO2.out.lt; simp at h'; omega
      clear hHeld hHeld2 hHeld3 hA7 hB7 hA8 HM2 HR2 HO2 HU2 f3
      go_wp2_with fail
      go_roundw
      case rel => exact ⟨k + 1, o7, by go_num, by omega, hM7, by rw [HL.out]; exact hR7, hO7, hog7, hU7⟩
      case measure => simp [intOf]; omega
    · obtain rfl : k = s := by omega
      go_wp2_with fail
      first | go_end0 | (simp only [Exit.inBlock, Exit.then]; refine bodyPost_ret (results_none rfl _ _ _) rfl ?_) | refine bodyPost_ret (results_none rfl _ _ _) rfl ?_
      exact ⟨o, rfl, hM, hR, hU⟩
end Go.Proofs.Ytnigebnibikolaa.CB
