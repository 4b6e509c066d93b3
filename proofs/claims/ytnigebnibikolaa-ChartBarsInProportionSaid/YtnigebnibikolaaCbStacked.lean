

/-
  chart's maker: stacked.
-/
import Derived.Test.YtnigebnibikolaaCbBeside
namespace Go.Proofs.Ytnigebnibikolaa.CB
open Go.RowKit Go.Law Go.Law.Cb Ref CH
set_option linter.unusedVariables false
set_option linter.unusedSimpArgs false
set_option maxRecDepth 100000
theorem near_mono {a b d : Int} (hd : 1 ≤ d) (h : a ≤ b) : SP.near a d ≤ SP.near b d := by
  unfold SP.near
  exact Int.ediv_le_ediv (by omega) (by omega)
theorem y_anti {lo hi st h v v' : Int} (hc : SP.chk lo hi st = 0) (hh : 1 ≤ h) (hv : v ≤ v') : yF lo hi h v' ≤ yF lo hi h v := by
  obtain ⟨_, h2, _⟩ := SP.chk_zero hc
  have h3 : (v - lo) * h ≤ (v' - lo) * h := Int.mul_le_mul_of_nonneg_right (by omega) (by omega)
  have := near_mono (d := hi - lo) (by omega) h3
  unfold yF
  omega
set_option maxHeartbeats 8000000 in
theorem stacked_any {W0 : World} {kind : Int} {a1 a2 : Option Addr} {p cp s cs : Nat} {sa : Nat → Option Addr} {sn sc : Nat → Nat} {sf : Nat → Nat → Int} {lo hi st height : Int} {g base : Nat} (E : Env W0 kind a1 a2 p cp s cs sa sn sc sf lo hi st height g base) (hz : lo ≤ 0 ∧ 0 ≤ hi) (hv0 : ∀ q, q < s → ∀ i, i < p → 0 ≤ sf q i) (hsm : ∀ i, i < p → ∀ q, q ≤ s → 0 ≤ sumQ sf i q ∧ sumQ sf i q ≤ hi)
    (out : Value) (n : Nat) (xs : List Int) (i : Nat) (width : Int) (w : World) (hB : Below W0.heap.size W0 w)
    (hM : MkAt w g kind a1 a2 p cp s cs lo hi st height out) (hR : RowL w base 42 6 out n (xs.map (Value.int .i64))) (hb : base ≤ w.heap.size) (hn : n ≤ 50000) (hi' : i < p)
    (hx : 0 ≤ xF width p i ∧ xF width p i ≤ 100000) (hwd : 0 ≤ xF width p (i + 1) - xF width p i ∧ xF width p (i + 1) - xF width p i ≤ 100000) :
    Calls Try.prog 47 #[.pointer (some ⟨g, 0, none⟩), .int .i64 (i : Int), .int .i64 (xF width p i), .int .i64 (xF width p (i + 1) - xF width p i)] w
      (AddPost g base kind a1 a2 p cp s cs lo hi st height (n + s) (xs ++ barsP 1 lo hi width height sf p s i s) w) := by
  obtain ⟨hrows, hg0, hgb, hN, ⟨hs0, hs2, hp2⟩, hchk, hvals, hh⟩ := E
  have HBP := Lib.hid (fun k => show barsP 1 lo hi width height sf p s i (k + 1) = barsP 1 lo hi width height sf p s i k ++ bar6 1 lo hi width height sf p s i k from rfl)
  have HB6 := Lib.hid (fun k => show bar6 1 lo hi width height sf p s i k = [(k : Int), (i : Int), xF width p i + (xF width p (i + 1) - xF width p i) / 4, yF lo hi height (sumQ sf i k + sf k i),
      (xF width p (i + 1) - xF width p i) * 3 / 4 - (xF width p (i + 1) - xF width p i) / 4, yF lo hi height (sumQ sf i k) - yF lo hi height (sumQ sf i k + sf k i)] by unfold bar6; rw [if_neg (by decide), if_neg (by decide)])
  have HSM := Lib.hid (hsm i hi')
  have HV0 := Lib.hid (fun q hq => hv0 q hq i hi')
  have HSQ := Lib.hid (fun q => show sumQ sf i (q + 1) = sumQ sf i q + sf q i from rfl)
  have HYA := Lib.hid (fun v v' (h : v ≤ v') => y_anti (h := height) hchk hh.1 h)
  have hin := (SP.chk_zero hchk).1
  unfold SP.InR at hin
  clear hsm hv0
  obtain ⟨D, hD⟩ : ∃ D, D = xF width p (i + 1) - xF width p i := ⟨_, rfl⟩
  rw [← hD] at hwd HB6 ⊢
  obtain ⟨x, hxx⟩ : ∃ x, x = xF width p i := ⟨_, rfl⟩
  rw [← hxx] at hx HB6 ⊢
  have hed := fun w1 => edges_any D 4 w1 hwd (by omega) (by omega)
  have HED := Lib.hid hed
  have HBD := Lib.hid (fun j (hj : j ≤ 4) => ed_bd (long := D) (parts := 4) (i := j) hwd (by omega) hj)
  have HR := Lib.hid hrows
  have HV := Lib.hid hvals
  have HNN := Lib.hid hN
  have HCK := Lib.hid hchk
  obtain ⟨F, hF⟩ : ∃ F, F = edF D 4 := ⟨_, rfl⟩
  have HF := Lib.hid (fun j => show F j = D * (j : Int) / 4 by rw [hF]; rfl)
  rw [← hF] at HED HBD
  have hgl := Blk.lt hM
  have hro := hR.blk_lt
  have hge := hR.ge
  have c2 : w.cell? ⟨g, 2, none⟩ = some (.slice a2 s cs) := Blk.cell hM (i := 2) rfl
  clear hed hrows hvals hN hchk hF hxx hD
  go_enter Try.func47, Try.ntmps47
  go_wp2_with fail
  refine (HED.out _).mono ?_
  rintro e w1 ⟨rfl, hO, hb1⟩
  have hM1 : MkAt w1 g kind a1 a2 p cp s cs lo hi st height out := Blk.below hM hb1 hgl
  have hR1 := hR.below hb1 (Nat.le_refl _)
  have hU1 : Under base g w w1 := Under.of_below hb1 hb
  have hs1 := hb1.size
  have hog : out.ownBlock ≠ some w.heap.size := fun h => by have := hro _ h; omega
  have d2 : w1.cell? ⟨g, 2, none⟩ = some (.slice a2 s cs) := Blk.cell hM1 (i := 2) rfl
  clear hM hR hb1 hro c2 HED
  go_wp2_with fail
  refine (zero_any g kind a1 a2 p cp s cs lo hi st height out w1 hM1 hz).mono ?_
  rintro e w1' ⟨rfl, m1, rfl⟩
  replace hM1 : MkAt (w1.drewN m1) g kind a1 a2 p cp s cs lo hi st height out := Blk.drewN hM1 m1
  replace hR1 := hR1.drewN m1
  replace hO := hO.drewN m1
  replace hU1 := hU1.drewN m1
  go_wp2_with fail
  go_loopw [9, 22] (fun sv iv wr => ∃ (k : Nat) (o : Value), iv = .int .i64 k ∧ k ≤ s ∧ sv = .int .i64 (sumQ sf i k) ∧ MkAt wr g kind a1 a2 p cp s cs lo hi st height o ∧ RowL wr base 42 6 o (n + k) ((xs ++ barsP 1 lo hi width height sf p s i k).map (Value.int .i64)) ∧ OwnF wr 3 w.heap.size (4 + 1) F ∧ o.ownBlock ≠ some w.heap.size ∧ Under base g w wr) (fun _ iv _ => s - (intOf iv).toNat)
  case atStart => exact ⟨0, out, rfl, by omega, rfl, hM1, by rw [show barsP 1 lo hi width height sf p s i 0 = [] from rfl, List.append_nil]; exact hR1, hO, hog, hU1⟩
  case round =>
    clear hM1 hR1 hO hog hU1 d2 hs1
    obtain ⟨k, o, rfl, hk, rfl, hM, hR, hO, hog, hU⟩ := hrel
    have hsU := hU.size
    by_cases hks : k < s
    · have hbW := hB.trans (hU.to_below (by omega) hg0)
      have hrw := HR.out.below (Nat.le_refl _) hbW
      obtain ⟨b, off, rfl, hqq⟩ := hrw hs0
      obtain ⟨d1, _, hi3⟩ := hqq k hks
      have hsn := HNN.out k hks
      rw [hsn] at d1 hi3
      obtain ⟨b3, off3, hsa, hc3⟩ := hi3 (by omega)
      have d3 := hc3 i hi'
      rw [hsa] at d1
      have hb3 : b3 < W0.heap.size := by
        obtain ⟨b4, off4, h4, hq4⟩ := HR.out hs0
        cases h4
        obtain ⟨_, _, hi4⟩ := hq4 k hks
        rw [hsn] at hi4
        obtain ⟨b5, off5, h5, hc5⟩ := hi4 (by omega)
        rw [hsa] at h5
        cases h5
        exact lt_of_cell (hc5 i hi')
      have hvk := HV.out k hks i hi'
      have e1 := hO.cell (show 1 < 4 + 1 by omega)
      have e3 := hO.cell (show 3 < 4 + 1 by omega)
      have hA := HBD.out 1 (by omega)
      have hBb := HBD.out 3 (by omega)
      have hv0 := HV0.out k hks
      have hs1 := HSM.out k hk
      have hs2' := HSM.out (k + 1) (by omega)
      rw [HSQ.out] at hs2'
      have hya := HYA.out (sumQ sf i k) (sumQ sf i k + sf k i) (by omega)
      have HL := Lib.hid (show xs ++ barsP 1 lo hi width height sf p s i (k + 1) = (xs ++ barsP 1 lo hi width height sf p s i k) ++ [(k : Int), (i : Int), x + F 1, min (yF lo hi height (sumQ sf i k)) (yF lo hi height (sumQ sf i k + sf k i)), F 3 - F 1, max (yF lo hi height (sumQ sf i k)) (yF lo hi height (sumQ sf i k + sf k i)) - min (yF lo hi height (sumQ sf i k)) (yF lo hi height (sumQ sf i k + sf k i))] by
        rw [HBP.out, HB6.out, HF.out, HF.out, List.append_assoc, show min (yF lo hi height (sumQ sf i k)) (yF lo hi height (sumQ sf i k + sf k i)) = yF lo hi height (sumQ sf i k + sf k i) by omega, show max (yF lo hi height (sumQ sf i k)) (yF lo hi height (sumQ sf i k + sf k i)) = yF lo hi height (sumQ sf i k) by omega,
          show D * ((1 : Nat) : Int) / 4 = D / 4 by simp]; rfl)
      have HS := Lib.hid (HSQ.out k)
      clear hya
      obtain ⟨v, hv⟩ : ∃ v, v = sf k i := ⟨_, rfl⟩
      obtain ⟨A, hAA⟩ : ∃ A, A = F 1 := ⟨_, rfl⟩
      obtain ⟨C, hCC⟩ : ∃ C, C = F 3 := ⟨_, rfl⟩
      obtain ⟨S, hS⟩ : ∃ S, S = sumQ sf i k := ⟨_, rfl⟩
      rw [← hv] at d3 hvk HL hv0 hs2' HS
      rw [← hS] at HL hs1 hs2' HS ⊢
      have hAQ := Lib.hid hAA
      have hCQ := Lib.hid hCC
      rw [← hAA] at e1 hA HL
      rw [← hCC] at e3 hBb HL
      obtain ⟨ys, hys⟩ : ∃ ys, ys = xs ++ barsP 1 lo hi width height sf p s i k := ⟨_, rfl⟩
      rw [← hys] at hR HL
      have HM := Lib.hid hM
      have HRW := Lib.hid hR
      have HO := Lib.hid hO
      have HU := Lib.hid hU
      have hsz : w.heap.size ≤ wr.heap.size := HU.out.size
      have u3 : IntKind.i64.wrap (S + v) = S + v := IntWalk.i64_in _ ⟨by omega, by omega⟩
      have f1 : wr.drew.cell? ⟨w.heap.size, 1, none⟩ = some (.int .i64 A) := by simpa using e1
      have f2 : wr.drew.cell? ⟨w.heap.size, 3, none⟩ = some (.int .i64 C) := by simpa using e3
      have f3 : wr.drew.cell? ⟨b3, off3 + i, none⟩ = some (.int .i64 v) := by simpa using d3
      clear hqq hi3 hc3 hsn hsa hrw hv hAA hCC hys hM hR hO hU hbW hS
      have u1 : IntKind.i64.wrap (x + A) = x + A := IntWalk.i64_in _ ⟨by omega, by omega⟩
      have u2 : IntKind.i64.wrap (C - A) = C - A := IntWalk.i64_in _ ⟨by omega, by omega⟩
      have j5 : (0 : Int) ≤ (i : Int) := by omega
      have j6 : (i : Int) < (p : Int) := by omega
      clear d3 e1 e3
      go_wp2_with fail
      refine wp_region_held_drew (S := fun w' => w'.cell? ⟨b3, off3 + i, none⟩ = some (.int .i64 v) ∧ w'.cell? ⟨w.heap.size, 1, none⟩ = some (.int .i64 A) ∧ w'.cell? ⟨w.heap.size, 3, none⟩ = some (.int .i64 C)) (by kernel_rfl) (by exact ⟨f3, f1, f2⟩) ?_
      intro hHeld
      refine takeD (i := 0) (oi := { dst := some 27, op := _, type := _, pos := _, after := _, guard := _ }) (d := some 27) (v := ?vva27) rfl rfl (by kernel_rfl) (by kernel_rfl) (by kernel_rfl) ?dda27 (by rfl) ?yya27 hHeld ?rra27
      case dda27 => exact fun _ _ _ h => h
      case yya27 => (intro wx hSw; obtain ⟨y0, y1, y2⟩ := hSw; go_simp; try (with_reducible rfl))
      try simp only [Act.put, List.setIfInBounds_toArray, List.set_cons_zero, List.set_cons_succ]
      refine takeD (i := 1) (oi := { dst := some 28, op := _, type := _, pos := _, after := _, guard := _ }) (d := some 28) (v := ?vva28) rfl rfl (by kernel_rfl) (by kernel_rfl) (by kernel_rfl) ?dda28 (by rfl) ?yya28 hHeld ?rra28
      case dda28 => exact fun _ _ _ h => h
      case yya28 => (intro wx hSw; obtain ⟨y0, y1, y2⟩ := hSw; go_simp; try (with_reducible rfl))
      try simp only [Act.put, List.setIfInBounds_toArray, List.set_cons_zero, List.set_cons_succ]
      refine takeD (i := 2) (oi := { dst := some 29, op := _, type := _, pos := _, after := _, guard := _ }) (d := some 29) (v := ?vva29) rfl rfl (by kernel_rfl) (by kernel_rfl) (by kernel_rfl) ?dda29 (by rfl) ?yya29 hHeld ?rra29
      case dda29 => exact fun _ _ _ h => h
      case yya29 => (intro wx hSw; obtain ⟨y0, y1, y2⟩ := hSw; go_simp; try (with_reducible rfl))
      try simp only [Act.put, List.setIfInBounds_toArray, List.set_cons_zero, List.set_cons_succ]
      refine takeD (i := 3) (oi := { dst := some 30, op := _, type := _, pos := _, after := _, guard := _ }) (d := some 30) (v := ?vva30) rfl rfl (by kernel_rfl) (by kernel_rfl) (by kernel_rfl) ?dda30 (by rfl) ?yya30 hHeld ?rra30
      case dda30 => exact fun _ _ _ h => h
      case yya30 => (intro wx hSw; obtain ⟨y0, y1, y2⟩ := hSw; go_simp; try (with_reducible rfl))
      try simp only [Act.put, List.setIfInBounds_toArray, List.set_cons_zero, List.set_cons_succ]
      refine takeD (i := 4) (oi := { dst := some 31, op := _, type := _, pos := _, after := _, guard := _ }) (d := some 31) (v := ?vva31) rfl rfl (by kernel_rfl) (by kernel_rfl) (by kernel_rfl) ?dda31 (by rfl) ?yya31 hHeld ?rra31
      case dda31 => exact fun _ _ _ h => h
      case yya31 => (intro wx hSw; obtain ⟨y0, y1, y2⟩ := hSw; go_simp; try (with_reducible rfl))
      try simp only [Act.put, List.setIfInBounds_toArray, List.set_cons_zero, List.set_cons_succ]
      refine takeD (i := 5) (oi := { dst := some 32, op := _, type := _, pos := _, after := _, guard := _ }) (d := some 32) (v := ?vva32) rfl rfl (by kernel_rfl) (by kernel_rfl) (by kernel_rfl) ?dda32 (by rfl) ?yya32 hHeld ?rra32
      case dda32 => exact fun _ _ _ h => h
      case yya32 => (intro wx hSw; obtain ⟨y0, y1, y2⟩ := hSw; go_simp; try (with_reducible rfl))
      try simp only [Act.put, List.setIfInBounds_toArray, List.set_cons_zero, List.set_cons_succ]
      refine takeD (i := 6) (oi := { dst := some 33, op := _, type := _, pos := _, after := _, guard := _ }) (d := some 33) (v := ?vva33) rfl rfl (by kernel_rfl) (by kernel_rfl) (by kernel_rfl) ?dda33 (by rfl) ?yya33 hHeld ?rra33
      case dda33 => exact fun _ _ _ h => h
      case yya33 => (intro wx hSw; obtain ⟨y0, y1, y2⟩ := hSw; go_simp; try (with_reducible rfl))
      try simp only [Act.put, List.setIfInBounds_toArray, List.set_cons_zero, List.set_cons_succ]
      refine takeD (i := 7) (oi := { dst := some 34, op := _, type := _, pos := _, after := _, guard := _ }) (d := some 34) (v := ?vva34) rfl rfl (by kernel_rfl) (by kernel_rfl) (by kernel_rfl) ?dda34 (by rfl) ?yya34 hHeld ?rra34
      case dda34 => exact fun _ _ _ h => h
      case yya34 => (intro wx hSw; obtain ⟨y0, y1, y2⟩ := hSw; go_simp; try (with_reducible rfl))
      try simp only [Act.put, List.setIfInBounds_toArray, List.set_cons_zero, List.set_cons_succ]
      refine takeD (i := 8) (oi := { dst := some 35, op := _, type := _, pos := _, after := _, guard := _ }) (d := some 35) (v := ?vva35) rfl rfl (by kernel_rfl) (by kernel_rfl) (by kernel_rfl) ?dda35 (by rfl) ?yya35 hHeld ?rra35
      case dda35 => exact fun _ _ _ h => h
      case yya35 => (intro wx hSw; obtain ⟨y0, y1, y2⟩ := hSw; go_simp; try (with_reducible rfl))
      try simp only [Act.put, List.setIfInBounds_toArray, List.set_cons_zero, List.set_cons_succ]
      refine takeD (i := 9) (oi := { dst := some 36, op := _, type := _, pos := _, after := _, guard := _ }) (d := some 36) (v := ?vva36) rfl rfl (by kernel_rfl) (by kernel_rfl) (by kernel_rfl) ?dda36 (by rfl) ?yya36 hHeld ?rra36
      case dda36 => exact fun _ _ _ h => h
      case yya36 => (intro wx hSw; obtain ⟨y0, y1, y2⟩ := hSw; go_simp; try (with_reducible rfl))
      try simp only [Act.put, List.setIfInBounds_toArray, List.set_cons_zero, List.set_cons_succ]
      refine takeD (i := 10) (oi := { dst := some 37, op := _, type := _, pos := _, after := _, guard := _ }) (d := some 37) (v := ?vva37) rfl rfl (by kernel_rfl) (by kernel_rfl) (by kernel_rfl) ?dda37 (by rfl) ?yya37 hHeld ?rra37
      case dda37 => exact fun _ _ _ h => h
      case yya37 => (intro wx hSw; obtain ⟨y0, y1, y2⟩ := hSw; go_simp; try (with_reducible rfl))
      try simp only [Act.put, List.setIfInBounds_toArray, List.set_cons_zero, List.set_cons_succ]
      refine takeD (i := 11) (oi := { dst := some 38, op := _, type := _, pos := _, after := _, guard := _ }) (d := some 38) (v := ?vva38) rfl rfl (by kernel_rfl) (by kernel_rfl) (by kernel_rfl) ?dda38 (by rfl) ?yya38 hHeld ?rra38
      case dda38 => exact fun _ _ _ h => h
      case yya38 => (intro wx hSw; obtain ⟨y0, y1, y2⟩ := hSw; go_simp; try (with_reducible rfl))
      try simp only [Act.put, List.setIfInBounds_toArray, List.set_cons_zero, List.set_cons_succ]
      refine takeD (i := 12) (oi := { dst := some 39, op := _, type := _, pos := _, after := _, guard := _ }) (d := some 39) (v := ?vva39) rfl rfl (by kernel_rfl) (by kernel_rfl) (by kernel_rfl) ?dda39 (by rfl) ?yya39 hHeld ?rra39
      case dda39 => exact fun _ _ _ h => h
      case yya39 => (intro wx hSw; obtain ⟨y0, y1, y2⟩ := hSw; go_simp; try (with_reducible rfl))
      try simp only [Act.put, List.setIfInBounds_toArray, List.set_cons_zero, List.set_cons_succ]
      refine takeD (i := 13) (oi := { dst := some 40, op := _, type := _, pos := _, after := _, guard := _ }) (d := some 40) (v := ?vva40) rfl rfl (by kernel_rfl) (by kernel_rfl) (by kernel_rfl) ?dda40 (by rfl) ?yya40 hHeld ?rra40
      case dda40 => exact fun _ _ _ h => h
      case yya40 => (intro wx hSw; obtain ⟨y0, y1, y2⟩ := hSw; go_simp; try (with_reducible rfl))
      try simp only [Act.put, List.setIfInBounds_toArray, List.set_cons_zero, List.set_cons_succ]
      refine takeD (i := 14) (oi := { dst := some 41, op := _, type := _, pos := _, after := _, guard := _ }) (d := some 41) (v := ?vva41) rfl rfl (by kernel_rfl) (by kernel_rfl) (by kernel_rfl) ?dda41 (by rfl) ?yya41 hHeld ?rra41
      case dda41 => exact fun _ _ _ h => h
      case yya41 => (intro wx hSw; obtain ⟨y0, y1, y2⟩ := hSw; go_simp; try (with_reducible rfl))
      try simp only [Act.put, List.setIfInBounds_toArray, List.set_cons_zero, List.set_cons_succ]
      refine takeD (i := 15) (oi := { dst := some 42, op := _, type := _, pos := _, after := _, guard := _ }) (d := some 42) (v := ?vva42) rfl rfl (by kernel_rfl) (by kernel_rfl) (by kernel_rfl) ?dda42 (by rfl) ?yya42 hHeld ?rra42
      case dda42 => exact fun _ _ _ h => h
      case yya42 => (intro wx hSw; obtain ⟨y0, y1, y2⟩ := hSw; go_simp; try (with_reducible rfl))
      try simp only [Act.put, List.setIfInBounds_toArray, List.set_cons_zero, List.set_cons_succ]
      refine takeD (i := 16) (oi := { dst := some 43, op := _, type := _, pos := _, after := _, guard := _ }) (d := some 43) (v := ?vva43) rfl rfl (by kernel_rfl) (by kernel_rfl) (by kernel_rfl) ?dda43 (by rfl) ?yya43 hHeld ?rra43
      case dda43 => exact fun _ _ _ h => h
      case yya43 => (intro wx hSw; obtain ⟨y0, y1, y2⟩ := hSw; go_simp; try (with_reducible rfl))
      try simp only [Act.put, List.setIfInBounds_toArray, List.set_cons_zero, List.set_cons_succ]
      refine takeD (i := 17) (oi := { dst := some 44, op := _, type := _, pos := _, after := _, guard := _ }) (d := some 44) (v := ?vva44) rfl rfl (by kernel_rfl) (by kernel_rfl) (by kernel_rfl) ?dda44 (by rfl) ?yya44 hHeld ?rra44
      case dda44 => exact fun _ _ _ h => h
      case yya44 => (intro wx hSw; obtain ⟨y0, y1, y2⟩ := hSw; go_simp; try (with_reducible rfl))
      try simp only [Act.put, List.setIfInBounds_toArray, List.set_cons_zero, List.set_cons_succ]
      refine takeD (i := 18) (oi := { dst := some 45, op := _, type := _, pos := _, after := _, guard := _ }) (d := some 45) (v := ?vva45) rfl rfl (by kernel_rfl) (by kernel_rfl) (by kernel_rfl) ?dda45 (by rfl) ?yya45 hHeld ?rra45
      case dda45 => exact fun _ _ _ h => h
      case yya45 => (intro wx hSw; obtain ⟨y0, y1, y2⟩ := hSw; go_simp; try (with_reducible rfl))
      try simp only [Act.put, List.setIfInBounds_toArray, List.set_cons_zero, List.set_cons_succ]
      refine takeD (i := 19) (oi := { dst := some 46, op := _, type := _, pos := _, after := _, guard := _ }) (d := some 46) (v := ?vva46) rfl rfl (by kernel_rfl) (by kernel_rfl) (by kernel_rfl) ?dda46 (by rfl) ?yya46 hHeld ?rra46
      case dda46 => exact fun _ _ _ h => h
      case yya46 => (intro wx hSw; obtain ⟨y0, y1, y2⟩ := hSw; go_simp; try (with_reducible rfl))
      try simp only [Act.put, List.setIfInBounds_toArray, List.set_cons_zero, List.set_cons_succ]
      refine takeD (i := 20) (oi := { dst := some 47, op := _, type := _, pos := _, after := _, guard := _ }) (d := some 47) (v := ?vva47) rfl rfl (by kernel_rfl) (by kernel_rfl) (by kernel_rfl) ?dda47 (by rfl) ?yya47 hHeld ?rra47
      case dda47 => exact fun _ _ _ h => h
      case yya47 => (intro wx hSw; obtain ⟨y0, y1, y2⟩ := hSw; go_simp; try (with_reducible rfl))
      try simp only [Act.put, List.setIfInBounds_toArray, List.set_cons_zero, List.set_cons_succ]
      refine takeD (i := 21) (oi := { dst := some 48, op := _, type := _, pos := _, after := _, guard := _ }) (d := some 48) (v := ?vva48) rfl rfl (by kernel_rfl) (by kernel_rfl) (by kernel_rfl) ?dda48 (by rfl) ?yya48 hHeld ?rra48
      case dda48 => exact fun _ _ _ h => h
      case yya48 => (intro wx hSw; obtain ⟨y0, y1, y2⟩ := hSw; go_simp; try (with_reducible rfl))
      try simp only [Act.put, List.setIfInBounds_toArray, List.set_cons_zero, List.set_cons_succ]
      refine wpAnyH_ready (rs := [22]) (by kernel_rfl) (by simp) ?_
      refine AllReadyH.cons (o := { dst := some 49, op := _, type := _, pos := _, after := _, guard := _ }) rfl (fun K hK => ?_) AllReadyH.nil
      go_simp
      go_at_call 72
      refine (bar_any g base kind a1 (some ⟨b, off, none⟩) p cp s cs lo hi st height o (n + k) ys (k : Int) (i : Int) S (S + v) (x + A) (C - A) wr.drew (Blk.drew HM.out) HRW.out.drew (by simp; omega) hgb (by omega) HCK.out (by omega) (by omega) hh).mono ?_
      rintro e w7 ⟨o7, rfl, hM7, hR7, hA7, hB7⟩
      have hoge := HRW.out.ge
      have hA8 : Aside g o wr w7 := (Aside.refl g o wr).drew.trans hA7
      have hU7 := HU.out.trans (Under.of_aside hA8 (by omega) hoge)
      have hO7 : OwnF w7 3 w.heap.size (4 + 1) F := HO.out.block (hA8.block _ HO.out.lt (by omega) hog)
      have g3 : w7.cell? ⟨b3, off3 + i, none⟩ = some (.int .i64 v) := by
        refine (hA8.cell (p := ⟨b3, off3 + i, none⟩) (by have := hB.size; simp; omega) (by simp; omega) ?_).trans (by simpa using f3)
        intro h; have := hoge _ h; simp at this; omega
      refine hK.out _ _ ?_ (fun hHeld3 => ?_)
      · refine ⟨g3, ?_, ?_⟩
        · rw [hO7.cell (by omega), hAQ.out]
        · rw [hO7.cell (by omega), hCQ.out]
      clear hK K
      try simp only [Act.put, List.setIfInBounds_toArray, List.set_cons_zero, List.set_cons_succ]
      refine wpAnyH_done (by kernel_rfl) ?_ _
      have hog7 : o7.ownBlock ≠ some w.heap.size := fun h => by
        rcases hB7 _ h with h' | h'
        · exact hog h'
        · have := HO.out.lt; simp at h'; omega
      clear hHeld hHeld3 hA7 hB7 hA8 HM HRW HO HU f1 f2 f3
      go_wp2_with fail
      go_roundw
      case rel => exact ⟨k + 1, o7, by go_num, by omega, by rw [HS.out], hM7, by rw [HL.out]; exact hR7, hO7, hog7, hU7⟩
      case measure => simp [intOf]; omega
    · obtain rfl : k = s := by omega
      go_wp2_with fail
      first | go_end0 | (simp only [Exit.inBlock, Exit.then]; refine bodyPost_ret (results_none rfl _ _ _) rfl ?_) | refine bodyPost_ret (results_none rfl _ _ _) rfl ?_
      exact ⟨o, rfl, hM, hR, hU⟩
end Go.Proofs.Ytnigebnibikolaa.CB
