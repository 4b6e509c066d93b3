

/-
  prepare.
-/
import Derived.Test.YtnigebnibikolaaLnMaker2
import Derived.Test.YtnigebnibikolaaMake
import Derived.Test.YtnigebnibikolaaUntil
import Derived.Deep.CutRange
import Derived.Deep.CutBlock
namespace Go.Proofs.Ytnigebnibikolaa.LN
open Go.RowKit Go.Law Go.Law.Ln
set_option linter.unusedVariables false
set_option linter.unusedSimpArgs false
set_option maxRecDepth 100000
theorem make_at (k : Nat) (x : Int) (hx : x = k) (hk : k ≤ 100000) (w : World) : (Instr.makeSlice 50 (.int .i64 x) (.int .i64 x)).run Try.prog w = .ok (.slice (some ⟨w.heap.size, 0, none⟩) k k) (w.alloc (.cells (madeCells #[.int .i64 0] k) 3)) := by
  rw [hx]; exact Ref.make_ints k (by omega) w
/-- the cells of a shape's box -/
def SK (q : Nat) (aW : Option Addr) (nw cW : Nat) (D : Int) (w : World) : Prop := w.cell? ⟨q, 0, none⟩ = some (.slice aW nw cW) ∧ w.cell? ⟨q, 1, none⟩ = some (.int .i64 D)
theorem SK.alloc {q : Nat} {aW : Option Addr} {nw cW : Nat} {D : Int} {w : World} (h : SK q aW nw cW D w) (o : Obj) : SK q aW nw cW D (w.alloc o) := by
  have hb := (Below.refl w.heap.size w).alloc (Nat.le_refl _) o
  exact ⟨cell_below h.1 (Nat.le_refl _) hb, cell_below h.2 (Nat.le_refl _) hb⟩
def zrow (k : Nat) : Obj := .cells (madeCells #[.int .i64 0] k) 3
theorem made5 (wd : World) (a b c d : Nat) (o : Array Value) (T : TypeId) :
    (OwnF (((((wd.alloc (zrow a)).alloc (zrow b)).alloc (zrow c)).alloc (zrow d)).alloc (.cells o T)) 3 wd.heap.size a (fun _ => 0)) ∧
    (OwnF (((((wd.alloc (zrow a)).alloc (zrow b)).alloc (zrow c)).alloc (zrow d)).alloc (.cells o T)) 3 (wd.heap.size + 1) b (fun _ => 0)) ∧
    (OwnF (((((wd.alloc (zrow a)).alloc (zrow b)).alloc (zrow c)).alloc (zrow d)).alloc (.cells o T)) 3 (wd.heap.size + 1 + 1) c (fun _ => 0)) ∧
    (OwnF (((((wd.alloc (zrow a)).alloc (zrow b)).alloc (zrow c)).alloc (zrow d)).alloc (.cells o T)) 3 (wd.heap.size + 1 + 1 + 1) d (fun _ => 0)) ∧
    (Blk (((((wd.alloc (zrow a)).alloc (zrow b)).alloc (zrow c)).alloc (zrow d)).alloc (.cells o T)) (wd.heap.size + 1 + 1 + 1 + 1) o T) := by
  have h1 := OwnF.make (w := wd) 3 a
  have h2 := OwnF.make (w := wd.alloc (zrow a)) 3 b
  have h3 := OwnF.make (w := (wd.alloc (zrow a)).alloc (zrow b)) 3 c
  have h4 := OwnF.make (w := ((wd.alloc (zrow a)).alloc (zrow b)).alloc (zrow c)) 3 d
  have h5 := Blk.new ((((wd.alloc (zrow a)).alloc (zrow b)).alloc (zrow c)).alloc (zrow d)) o T
  simp only [World.size_alloc] at h2 h3 h4 h5
  exact ⟨(((OwnF.alloc h1 _).alloc _).alloc _).alloc _, ((OwnF.alloc h2 _).alloc _).alloc _, (OwnF.alloc h3 _).alloc _, OwnF.alloc h4 _, h5⟩
/-- a maker before its sums are there -/
def Raw (w : World) (n : Nat) (aP : Option Addr) (cP : Nat) (aW : Option Addr) (nw cW : Nat) (D : Int) (B m gw gg gy gb : Nat) (fw fg fy fb : Nat → Int) : Prop :=
  Blk w m #[.slice aP n cP, .slice aW nw cW, .int .i64 D, .slice (some ⟨gw, 0, none⟩) (n + 1) (n + 1), .slice (some ⟨gg, 0, none⟩) (n + 1) (n + 1), .slice (some ⟨gy, 0, none⟩) (n + 1) (n + 1), .slice (some ⟨gb, 0, none⟩) (n + 2) (n + 2)] 116 ∧
  OwnF w 3 gw (n + 1) fw ∧ OwnF w 3 gg (n + 1) fg ∧ OwnF w 3 gy (n + 1) fy ∧ OwnF w 3 gb (n + 2) fb ∧
  (m ≠ gw ∧ m ≠ gg ∧ m ≠ gy ∧ m ≠ gb ∧ gw ≠ gg ∧ gw ≠ gy ∧ gw ≠ gb ∧ gg ≠ gy ∧ gg ≠ gb ∧ gy ≠ gb) ∧ B ≤ m ∧ B ≤ gw ∧ B ≤ gg ∧ B ≤ gy ∧ B ≤ gb
def RawPost (w : World) (n : Nat) (aP : Option Addr) (cP : Nat) (aW : Option Addr) (nw cW : Nat) (D : Int) (v : Value) (wx : World) : Prop :=
  ∃ m gw gg gy gb, v = .pointer (some ⟨m, 0, none⟩) ∧ Raw wx n aP cP aW nw cW D w.heap.size m gw gg gy gb (fun _ => 0) (fun _ => 0) (fun _ => 0) (fun _ => 0) ∧ Below w.heap.size w wx
/-- the cells that the sums are made of -/
def SP (m gw gg gy q n i : Nat) (vw vg vy K Wi S R C : Int) (F : Bool) (w : World) : Prop :=
  w.cell? ⟨m, 3, none⟩ = some (.slice (some ⟨gw, 0, none⟩) (n + 1) (n + 1)) ∧ w.cell? ⟨m, 4, none⟩ = some (.slice (some ⟨gg, 0, none⟩) (n + 1) (n + 1)) ∧ w.cell? ⟨m, 5, none⟩ = some (.slice (some ⟨gy, 0, none⟩) (n + 1) (n + 1)) ∧
  w.cell? ⟨gw, i, none⟩ = some (.int .i64 vw) ∧ w.cell? ⟨gg, i, none⟩ = some (.int .i64 vg) ∧ w.cell? ⟨gy, i, none⟩ = some (.int .i64 vy) ∧
  w.cell? ⟨q, 0, none⟩ = some (.int .i64 K) ∧ w.cell? ⟨q, 1, none⟩ = some (.int .i64 Wi) ∧ w.cell? ⟨q, 2, none⟩ = some (.int .i64 S) ∧ w.cell? ⟨q, 3, none⟩ = some (.int .i64 R) ∧ w.cell? ⟨q, 4, none⟩ = some (.int .i64 C) ∧ w.cell? ⟨q, 5, none⟩ = some (.bool F)
theorem SP.of {w : World} {m gw gg gy gb q n i nw cP cW : Nat} {aP aW : Option Addr} {D vw vg vy K Wi S R C : Int} {F : Bool} {fw fg fy : Nat → Int} {T U : TypeId}
    (hb : Blk w m #[.slice aP n cP, .slice aW nw cW, .int .i64 D, .slice (some ⟨gw, 0, none⟩) (n + 1) (n + 1), .slice (some ⟨gg, 0, none⟩) (n + 1) (n + 1), .slice (some ⟨gy, 0, none⟩) (n + 1) (n + 1), .slice (some ⟨gb, 0, none⟩) (n + 2) (n + 2)] T)
    (hw : OwnF w 3 gw (n + 1) fw) (hg : OwnF w 3 gg (n + 1) fg) (hy : OwnF w 3 gy (n + 1) fy) (hq : Blk w q #[.int .i64 K, .int .i64 Wi, .int .i64 S, .int .i64 R, .int .i64 C, .bool F] U) (hi : i < n + 1) (e1 : fw i = vw) (e2 : fg i = vg) (e3 : fy i = vy) :
    SP m gw gg gy q n i vw vg vy K Wi S R C F w := by
  subst e1 e2 e3
  exact ⟨hb.cell (i := 3) rfl, hb.cell (i := 4) rfl, hb.cell (i := 5) rfl, hw.cell hi, hg.cell hi, hy.cell hi, hq.cell (i := 0) rfl, hq.cell (i := 1) rfl, hq.cell (i := 2) rfl, hq.cell (i := 3) rfl, hq.cell (i := 4) rfl, hq.cell (i := 5) rfl⟩
set_option maxHeartbeats 4000000 in
theorem prep_any (n : Nat) (L : Nat → Part) (nw : Nat) (W : Nat → Int) (D : Int) (aP aW : Option Addr) (cP cW : Nat) (w : World) (ha : CellsF w aP n 6 (fun i => (L i).V)) (hw : IntsF w aW nw W) (hn : n ≤ 8000) (hok : ∀ i, i < n → (L i).Ok) :
    Calls Try.prog 55 #[.slice aP n cP, .agg #[.slice aW nw cW, .int .i64 D]] w fun e w' => ∃ m, e = .returned (.pointer (some ⟨m, 0, none⟩)) ∧ Mk w' m n L nw W D ∧ Below w.heap.size w w' := by
  have HA := Lib.hid ha
  have HW := Lib.hid hw
  have HOK := Lib.hid hok
  have hm1 := make_at (n + 1) ((n : Int) + 1) (by omega) (by omega)
  have hm2 := make_at (n + 2) ((n : Int) + 2) (by omega) (by omega)
  clear ha hw hok
  go_enter Try.func55, Try.ntmps55
  go_wp2_with fail
  have hSK := SK.alloc (q := w.heap.size) (aW := aW) (nw := nw) (cW := cW) (D := D) (w := w)
  obtain ⟨w0, hw0⟩ : ∃ w0, w0 = w.alloc (Obj.cells #[.slice aW nw cW, .int .i64 D] 60) := ⟨_, rfl⟩
  have b0 : Blk w0 w.heap.size #[.slice aW nw cW, .int .i64 D] 60 := by rw [hw0]; exact Blk.new _ _ _
  have hb0 : Below w.heap.size w w0 := by rw [hw0]; exact (Below.refl _ _).alloc (Nat.le_refl _) _
  rw [← hw0]
  clear hw0 hSK
  have hs0 := hb0.size
  go_cut [5] from 10 (fun v wx => RawPost w n aP cP aW nw cW D v wx)
  case first =>
    have hSK0 : SK w.heap.size aW nw cW D w0.drew := ⟨b0.drew.cell (i := 0) rfl, b0.drew.cell (i := 1) rfl⟩
    have e1 : IntKind.i64.wrap ((n : Int) + 1) = (n : Int) + 1 := IntWalk.i64_in _ ⟨by omega, by omega⟩
    have e2 : IntKind.i64.wrap ((n : Int) + 2) = (n : Int) + 2 := IntWalk.i64_in _ ⟨by omega, by omega⟩
    refine wp_region_held_drew (S := SK w.heap.size aW nw cW D) (by kernel_rfl) hSK0 ?_
    intro hHeld
    refine takeD (i := 0) (oi := { dst := some 10, op := _, type := _, pos := _, after := _, guard := _ }) (d := some 10) (v := ?vva10) rfl rfl (by kernel_rfl) (by kernel_rfl) (by kernel_rfl) ?dda10 (by rfl) ?yya10 hHeld ?rra10
    case dda10 => exact fun _ _ _ h => h
    case yya10 => (intro wx hSw; obtain ⟨y0, y1⟩ := hSw; go_simp; try (with_reducible rfl))
    try simp only [Act.put, List.setIfInBounds_toArray, List.set_cons_zero, List.set_cons_succ]
    refine takeD (i := 1) (oi := { dst := some 11, op := _, type := _, pos := _, after := _, guard := _ }) (d := some 11) (v := ?vva11) rfl rfl (by kernel_rfl) (by kernel_rfl) (by kernel_rfl) ?dda11 (by rfl) ?yya11 hHeld ?rra11
    case dda11 => exact fun _ _ _ h => h
    case yya11 => (intro wx hSw; obtain ⟨y0, y1⟩ := hSw; go_simp; try (with_reducible rfl))
    try simp only [Act.put, List.setIfInBounds_toArray, List.set_cons_zero, List.set_cons_succ]
    refine takeD (i := 2) (oi := { dst := some 12, op := _, type := _, pos := _, after := _, guard := _ }) (d := some 12) (v := ?vva12) rfl rfl (by kernel_rfl) (by kernel_rfl) (by kernel_rfl) ?dda12 (by rfl) ?yya12 hHeld ?rra12
    case dda12 => exact fun _ _ _ h => h
    case yya12 => (intro wx hSw; obtain ⟨y0, y1⟩ := hSw; go_simp; try (with_reducible rfl))
    try simp only [Act.put, List.setIfInBounds_toArray, List.set_cons_zero, List.set_cons_succ]
    refine takeD (i := 3) (oi := { dst := some 13, op := _, type := _, pos := _, after := _, guard := _ }) (d := some 13) (v := ?vva13) rfl rfl (by kernel_rfl) (by kernel_rfl) (by kernel_rfl) ?dda13 (by rfl) ?yya13 hHeld ?rra13
    case dda13 => exact fun _ _ _ h => h
    case yya13 => (intro wx hSw; obtain ⟨y0, y1⟩ := hSw; go_simp; try (with_reducible rfl))
    try simp only [Act.put, List.setIfInBounds_toArray, List.set_cons_zero, List.set_cons_succ]
    refine takeD (i := 4) (oi := { dst := some 14, op := _, type := _, pos := _, after := _, guard := _ }) (d := some 14) (v := ?vva14) rfl rfl (by kernel_rfl) (by kernel_rfl) (by kernel_rfl) ?dda14 (by rfl) ?yya14 hHeld ?rra14
    case dda14 => exact fun _ _ _ h => h
    case yya14 => (intro wx hSw; obtain ⟨y0, y1⟩ := hSw; go_simp; try (with_reducible rfl))
    try simp only [Act.put, List.setIfInBounds_toArray, List.set_cons_zero, List.set_cons_succ]
    refine takeD (i := 6) (oi := { dst := some 16, op := _, type := _, pos := _, after := _, guard := _ }) (d := some 16) (v := ?vva16) rfl rfl (by kernel_rfl) (by kernel_rfl) (by kernel_rfl) ?dda16 (by rfl) ?yya16 hHeld ?rra16
    case dda16 => exact fun _ _ _ h => h
    case yya16 => (intro wx hSw; obtain ⟨y0, y1⟩ := hSw; go_simp; try (with_reducible rfl))
    try simp only [Act.put, List.setIfInBounds_toArray, List.set_cons_zero, List.set_cons_succ]
    refine takeD (i := 7) (oi := { dst := some 17, op := _, type := _, pos := _, after := _, guard := _ }) (d := some 17) (v := ?vva17) rfl rfl (by kernel_rfl) (by kernel_rfl) (by kernel_rfl) ?dda17 (by rfl) ?yya17 hHeld ?rra17
    case dda17 => exact fun _ _ _ h => h
    case yya17 => (intro wx hSw; obtain ⟨y0, y1⟩ := hSw; go_simp; try (with_reducible rfl))
    try simp only [Act.put, List.setIfInBounds_toArray, List.set_cons_zero, List.set_cons_succ]
    refine takeD (i := 8) (oi := { dst := some 18, op := _, type := _, pos := _, after := _, guard := _ }) (d := some 18) (v := ?vva18) rfl rfl (by kernel_rfl) (by kernel_rfl) (by kernel_rfl) ?dda18 (by rfl) ?yya18 hHeld ?rra18
    case dda18 => exact fun _ _ _ h => h
    case yya18 => (intro wx hSw; obtain ⟨y0, y1⟩ := hSw; go_simp; try (with_reducible rfl))
    try simp only [Act.put, List.setIfInBounds_toArray, List.set_cons_zero, List.set_cons_succ]
    refine takeD (i := 10) (oi := { dst := some 20, op := _, type := _, pos := _, after := _, guard := _ }) (d := some 20) (v := ?vva20) rfl rfl (by kernel_rfl) (by kernel_rfl) (by kernel_rfl) ?dda20 (by rfl) ?yya20 hHeld ?rra20
    case dda20 => exact fun _ _ _ h => h
    case yya20 => (intro wx hSw; obtain ⟨y0, y1⟩ := hSw; go_simp; try (with_reducible rfl))
    try simp only [Act.put, List.setIfInBounds_toArray, List.set_cons_zero, List.set_cons_succ]
    refine takeD (i := 11) (oi := { dst := some 21, op := _, type := _, pos := _, after := _, guard := _ }) (d := some 21) (v := ?vva21) rfl rfl (by kernel_rfl) (by kernel_rfl) (by kernel_rfl) ?dda21 (by rfl) ?yya21 hHeld ?rra21
    case dda21 => exact fun _ _ _ h => h
    case yya21 => (intro wx hSw; obtain ⟨y0, y1⟩ := hSw; go_simp; try (with_reducible rfl))
    try simp only [Act.put, List.setIfInBounds_toArray, List.set_cons_zero, List.set_cons_succ]
    refine takeD (i := 12) (oi := { dst := some 22, op := _, type := _, pos := _, after := _, guard := _ }) (d := some 22) (v := ?vva22) rfl rfl (by kernel_rfl) (by kernel_rfl) (by kernel_rfl) ?dda22 (by rfl) ?yya22 hHeld ?rra22
    case dda22 => exact fun _ _ _ h => h
    case yya22 => (intro wx hSw; obtain ⟨y0, y1⟩ := hSw; go_simp; try (with_reducible rfl))
    try simp only [Act.put, List.setIfInBounds_toArray, List.set_cons_zero, List.set_cons_succ]
    refine takeD (i := 14) (oi := { dst := some 24, op := _, type := _, pos := _, after := _, guard := _ }) (d := some 24) (v := ?vva24) rfl rfl (by kernel_rfl) (by kernel_rfl) (by kernel_rfl) ?dda24 (by rfl) ?yya24 hHeld ?rra24
    case dda24 => exact fun _ _ _ h => h
    case yya24 => (intro wx hSw; obtain ⟨y0, y1⟩ := hSw; go_simp; try (with_reducible rfl))
    try simp only [Act.put, List.setIfInBounds_toArray, List.set_cons_zero, List.set_cons_succ]
    refine takeD (i := 15) (oi := { dst := some 25, op := _, type := _, pos := _, after := _, guard := _ }) (d := some 25) (v := ?vva25) rfl rfl (by kernel_rfl) (by kernel_rfl) (by kernel_rfl) ?dda25 (by rfl) ?yya25 hHeld ?rra25
    case dda25 => exact fun _ _ _ h => h
    case yya25 => (intro wx hSw; obtain ⟨y0, y1⟩ := hSw; go_simp; try (with_reducible rfl))
    try simp only [Act.put, List.setIfInBounds_toArray, List.set_cons_zero, List.set_cons_succ]
    refine takeD (i := 16) (oi := { dst := some 26, op := _, type := _, pos := _, after := _, guard := _ }) (d := some 26) (v := ?vva26) rfl rfl (by kernel_rfl) (by kernel_rfl) (by kernel_rfl) ?dda26 (by rfl) ?yya26 hHeld ?rra26
    case dda26 => exact fun _ _ _ h => h
    case yya26 => (intro wx hSw; obtain ⟨y0, y1⟩ := hSw; go_simp; try (with_reducible rfl))
    try simp only [Act.put, List.setIfInBounds_toArray, List.set_cons_zero, List.set_cons_succ]
    have HH := Lib.hid (show True from trivial)
    refine wpAnyH_ready (rs := [5, 9, 13, 17]) (by kernel_rfl) (by simp) ?_
    refine (AllReadyH.cons (o := { dst := some 15, op := _, type := _, pos := _, after := _, guard := _ }) rfl (fun K hK => ?o5) (AllReadyH.cons (o := { dst := some 19, op := _, type := _, pos := _, after := _, guard := _ }) rfl (fun K hK => ?o9) (AllReadyH.cons (o := { dst := some 23, op := _, type := _, pos := _, after := _, guard := _ }) rfl (fun K hK => ?o13) (AllReadyH.cons (o := { dst := some 27, op := _, type := _, pos := _, after := _, guard := _ }) rfl (fun K hK => ?o17) AllReadyH.nil))))
    case o5 =>
      go_simp
      refine hK.out _ _ (SK.alloc hHeld _) (fun hHeld2 => ?_)
      clear hK K hHeld
      try simp only [Act.put, List.setIfInBounds_toArray, List.set_cons_zero, List.set_cons_succ]
      have hHeld := hHeld2
      clear hHeld2
      refine wpAnyH_ready (rs := [9, 13, 17]) (by kernel_rfl) (by simp) ?_
      refine (AllReadyH.cons (o := { dst := some 19, op := _, type := _, pos := _, after := _, guard := _ }) rfl (fun K hK => ?o5_9) (AllReadyH.cons (o := { dst := some 23, op := _, type := _, pos := _, after := _, guard := _ }) rfl (fun K hK => ?o5_13) (AllReadyH.cons (o := { dst := some 27, op := _, type := _, pos := _, after := _, guard := _ }) rfl (fun K hK => ?o5_17) AllReadyH.nil)))
      case o5_9 =>
        go_simp
        refine hK.out _ _ (SK.alloc hHeld _) (fun hHeld2 => ?_)
        clear hK K hHeld
        try simp only [Act.put, List.setIfInBounds_toArray, List.set_cons_zero, List.set_cons_succ]
        have hHeld := hHeld2
        clear hHeld2
        refine wpAnyH_ready (rs := [13, 17]) (by kernel_rfl) (by simp) ?_
        refine (AllReadyH.cons (o := { dst := some 23, op := _, type := _, pos := _, after := _, guard := _ }) rfl (fun K hK => ?o5_9_13) (AllReadyH.cons (o := { dst := some 27, op := _, type := _, pos := _, after := _, guard := _ }) rfl (fun K hK => ?o5_9_17) AllReadyH.nil))
        case o5_9_13 =>
          go_simp
          refine hK.out _ _ (SK.alloc hHeld _) (fun hHeld2 => ?_)
          clear hK K hHeld
          try simp only [Act.put, List.setIfInBounds_toArray, List.set_cons_zero, List.set_cons_succ]
          have hHeld := hHeld2
          clear hHeld2
          refine wpAnyH_ready (rs := [17]) (by kernel_rfl) (by simp) ?_
          refine (AllReadyH.cons (o := { dst := some 27, op := _, type := _, pos := _, after := _, guard := _ }) rfl (fun K hK => ?o5_9_13_17) AllReadyH.nil)
          case o5_9_13_17 =>
            go_simp
            refine hK.out _ _ (SK.alloc hHeld _) (fun hHeld2 => ?_)
            clear hK K hHeld
            try simp only [Act.put, List.setIfInBounds_toArray, List.set_cons_zero, List.set_cons_succ]
            have hHeld := hHeld2
            clear hHeld2
            refine takeD (i := 18) (oi := { dst := some 28, op := _, type := _, pos := _, after := _, guard := _ }) (d := some 28) (v := ?vvx0a28) rfl rfl (by kernel_rfl) (by kernel_rfl) (by kernel_rfl) ?ddx0a28 (by rfl) ?yyx0a28 hHeld ?rrx0a28
            case ddx0a28 => exact fun _ _ _ h => h
            case yyx0a28 => (intro wx hSw; obtain ⟨y0, y1⟩ := hSw; go_simp; try (with_reducible rfl))
            try simp only [Act.put, List.setIfInBounds_toArray, List.set_cons_zero, List.set_cons_succ]
            refine wpAnyH_ready (rs := [19]) (by kernel_rfl) (by simp) ?_
            refine AllReadyH.cons (o := { dst := some 29, op := _, type := _, pos := _, after := _, guard := _ }) rfl (fun K hK => ?_) AllReadyH.nil
            go_simp
            refine hK.out _ _ (SK.alloc hHeld _) (fun hHeld2 => ?_)
            clear hK K hHeld
            try simp only [Act.put, List.setIfInBounds_toArray, List.set_cons_zero, List.set_cons_succ]
            refine takeD (i := 20) (oi := { dst := some 5, op := _, type := _, pos := _, after := _, guard := _ }) (d := some 5) (v := ?vvx0b5) rfl rfl (by kernel_rfl) (by kernel_rfl) (by kernel_rfl) ?ddx0b5 (by rfl) ?yyx0b5 hHeld2 ?rrx0b5
            case ddx0b5 => exact fun _ _ _ h => h
            case yyx0b5 => (intro wx hSw; obtain ⟨y0, y1⟩ := hSw; go_simp; try (with_reducible rfl))
            try simp only [Act.put, List.setIfInBounds_toArray, List.set_cons_zero, List.set_cons_succ]
            refine wpAnyH_done (by kernel_rfl) ?_ _
            go_wp2_with fail
            go_meet
            refine ⟨_, _, _, _, _, rfl, ⟨Blk.drew (made5 w0 _ _ _ _ _ _).2.2.2.2, ?_, ?_, ?_, ?_, ⟨by omega, by omega, by omega, by omega, by omega, by omega, by omega, by omega, by omega, by omega⟩, by omega, by omega, by omega, by omega, by omega⟩, ?_⟩
            all_goals first | exact OwnF.drew (made5 w0 _ _ _ _ _ _).1 | exact OwnF.drew (made5 w0 _ _ _ _ _ _).2.1 | exact OwnF.drew (made5 w0 _ _ _ _ _ _).2.2.1 | exact OwnF.drew (made5 w0 _ _ _ _ _ _).2.2.2.1 | exact (((((hb0.alloc hs0 _).alloc (by simp; omega) _).alloc (by simp; omega) _).alloc (by simp; omega) _).alloc (by simp; omega) _).drew
        case o5_9_17 =>
          go_simp
          refine hK.out _ _ (SK.alloc hHeld _) (fun hHeld2 => ?_)
          clear hK K hHeld
          try simp only [Act.put, List.setIfInBounds_toArray, List.set_cons_zero, List.set_cons_succ]
          have hHeld := hHeld2
          clear hHeld2
          refine wpAnyH_ready (rs := [13]) (by kernel_rfl) (by simp) ?_
          refine (AllReadyH.cons (o := { dst := some 23, op := _, type := _, pos := _, after := _, guard := _ }) rfl (fun K hK => ?o5_9_17_13) AllReadyH.nil)
          case o5_9_17_13 =>
            go_simp
            refine hK.out _ _ (SK.alloc hHeld _) (fun hHeld2 => ?_)
            clear hK K hHeld
            try simp only [Act.put, List.setIfInBounds_toArray, List.set_cons_zero, List.set_cons_succ]
            have hHeld := hHeld2
            clear hHeld2
            refine takeD (i := 18) (oi := { dst := some 28, op := _, type := _, pos := _, after := _, guard := _ }) (d := some 28) (v := ?vvx1a28) rfl rfl (by kernel_rfl) (by kernel_rfl) (by kernel_rfl) ?ddx1a28 (by rfl) ?yyx1a28 hHeld ?rrx1a28
            case ddx1a28 => exact fun _ _ _ h => h
            case yyx1a28 => (intro wx hSw; obtain ⟨y0, y1⟩ := hSw; go_simp; try (with_reducible rfl))
            try simp only [Act.put, List.setIfInBounds_toArray, List.set_cons_zero, List.set_cons_succ]
            refine wpAnyH_ready (rs := [19]) (by kernel_rfl) (by simp) ?_
            refine AllReadyH.cons (o := { dst := some 29, op := _, type := _, pos := _, after := _, guard := _ }) rfl (fun K hK => ?_) AllReadyH.nil
            go_simp
            refine hK.out _ _ (SK.alloc hHeld _) (fun hHeld2 => ?_)
            clear hK K hHeld
            try simp only [Act.put, List.setIfInBounds_toArray, List.set_cons_zero, List.set_cons_succ]
            refine takeD (i := 20) (oi := { dst := some 5, op := _, type := _, pos := _, after := _, guard := _ }) (d := some 5) (v := ?vvx1b5) rfl rfl (by kernel_rfl) (by kernel_rfl) (by kernel_rfl) ?ddx1b5 (by rfl) ?yyx1b5 hHeld2 ?rrx1b5
            case ddx1b5 => exact fun _ _ _ h => h
            case yyx1b5 => (intro wx hSw; obtain ⟨y0, y1⟩ := hSw; go_simp; try (with_reducible rfl))
            try simp only [Act.put, List.setIfInBounds_toArray, List.set_cons_zero, List.set_cons_succ]
            refine wpAnyH_done (by kernel_rfl) ?_ _
            go_wp2_with fail
            go_meet
            refine ⟨_, _, _, _, _, rfl, ⟨Blk.drew (made5 w0 _ _ _ _ _ _).2.2.2.2, ?_, ?_, ?_, ?_, ⟨by omega, by omega, by omega, by omega, by omega, by omega, by omega, by omega, by omega, by omega⟩, by omega, by omega, by omega, by omega, by omega⟩, ?_⟩
            all_goals first | exact OwnF.drew (made5 w0 _ _ _ _ _ _).1 | exact OwnF.drew (made5 w0 _ _ _ _ _ _).2.1 | exact OwnF.drew (made5 w0 _ _ _ _ _ _).2.2.1 | exact OwnF.drew (made5 w0 _ _ _ _ _ _).2.2.2.1 | exact (((((hb0.alloc hs0 _).alloc (by simp; omega) _).alloc (by simp; omega) _).alloc (by simp; omega) _).alloc (by simp; omega) _).drew
      case o5_13 =>
        go_simp
        refine hK.out _ _ (SK.alloc hHeld _) (fun hHeld2 => ?_)
        clear hK K hHeld
        try simp only [Act.put, List.setIfInBounds_toArray, List.set_cons_zero, List.set_cons_succ]
        have hHeld := hHeld2
        clear hHeld2
        refine wpAnyH_ready (rs := [9, 17]) (by kernel_rfl) (by simp) ?_
        refine (AllReadyH.cons (o := { dst := some 19, op := _, type := _, pos := _, after := _, guard := _ }) rfl (fun K hK => ?o5_13_9) (AllReadyH.cons (o := { dst := some 27, op := _, type := _, pos := _, after := _, guard := _ }) rfl (fun K hK => ?o5_13_17) AllReadyH.nil))
        case o5_13_9 =>
          go_simp
          refine hK.out _ _ (SK.alloc hHeld _) (fun hHeld2 => ?_)
          clear hK K hHeld
          try simp only [Act.put, List.setIfInBounds_toArray, List.set_cons_zero, List.set_cons_succ]
          have hHeld := hHeld2
          clear hHeld2
          refine wpAnyH_ready (rs := [17]) (by kernel_rfl) (by simp) ?_
          refine (AllReadyH.cons (o := { dst := some 27, op := _, type := _, pos := _, after := _, guard := _ }) rfl (fun K hK => ?o5_13_9_17) AllReadyH.nil)
          case o5_13_9_17 =>
            go_simp
            refine hK.out _ _ (SK.alloc hHeld _) (fun hHeld2 => ?_)
            clear hK K hHeld
            try simp only [Act.put, List.setIfInBounds_toArray, List.set_cons_zero, List.set_cons_succ]
            have hHeld := hHeld2
            clear hHeld2
            refine takeD (i := 18) (oi := { dst := some 28, op := _, type := _, pos := _, after := _, guard := _ }) (d := some 28) (v := ?vvx2a28) rfl rfl (by kernel_rfl) (by kernel_rfl) (by kernel_rfl) ?ddx2a28 (by rfl) ?yyx2a28 hHeld ?rrx2a28
            case ddx2a28 => exact fun _ _ _ h => h
            case yyx2a28 => (intro wx hSw; obtain ⟨y0, y1⟩ := hSw; go_simp; try (with_reducible rfl))
            try simp only [Act.put, List.setIfInBounds_toArray, List.set_cons_zero, List.set_cons_succ]
            refine wpAnyH_ready (rs := [19]) (by kernel_rfl) (by simp) ?_
            refine AllReadyH.cons (o := { dst := some 29, op := _, type := _, pos := _, after := _, guard := _ }) rfl (fun K hK => ?_) AllReadyH.nil
            go_simp
            refine hK.out _ _ (SK.alloc hHeld _) (fun hHeld2 => ?_)
            clear hK K hHeld
            try simp only [Act.put, List.setIfInBounds_toArray, List.set_cons_zero, List.set_cons_succ]
            refine takeD (i := 20) (oi := { dst := some 5, op := _, type := _, pos := _, after := _, guard := _ }) (d := some 5) (v := ?vvx2b5) rfl rfl (by kernel_rfl) (by kernel_rfl) (by kernel_rfl) ?ddx2b5 (by rfl) ?yyx2b5 hHeld2 ?rrx2b5
            case ddx2b5 => exact fun _ _ _ h => h
            case yyx2b5 => (intro wx hSw; obtain ⟨y0, y1⟩ := hSw; go_simp; try (with_reducible rfl))
            try simp only [Act.put, List.setIfInBounds_toArray, List.set_cons_zero, List.set_cons_succ]
            refine wpAnyH_done (by kernel_rfl) ?_ _
            go_wp2_with fail
            go_meet
            refine ⟨_, _, _, _, _, rfl, ⟨Blk.drew (made5 w0 _ _ _ _ _ _).2.2.2.2, ?_, ?_, ?_, ?_, ⟨by omega, by omega, by omega, by omega, by omega, by omega, by omega, by omega, by omega, by omega⟩, by omega, by omega, by omega, by omega, by omega⟩, ?_⟩
            all_goals first | exact OwnF.drew (made5 w0 _ _ _ _ _ _).1 | exact OwnF.drew (made5 w0 _ _ _ _ _ _).2.1 | exact OwnF.drew (made5 w0 _ _ _ _ _ _).2.2.1 | exact OwnF.drew (made5 w0 _ _ _ _ _ _).2.2.2.1 | exact (((((hb0.alloc hs0 _).alloc (by simp; omega) _).alloc (by simp; omega) _).alloc (by simp; omega) _).alloc (by simp; omega) _).drew
        case o5_13_17 =>
          go_simp
          refine hK.out _ _ (SK.alloc hHeld _) (fun hHeld2 => ?_)
          clear hK K hHeld
          try simp only [Act.put, List.setIfInBounds_toArray, List.set_cons_zero, List.set_cons_succ]
          have hHeld := hHeld2
          clear hHeld2
          refine wpAnyH_ready (rs := [9]) (by kernel_rfl) (by simp) ?_
          refine (AllReadyH.cons (o := { dst := some 19, op := _, type := _, pos := _, after := _, guard := _ }) rfl (fun K hK => ?o5_13_17_9) AllReadyH.nil)
          case o5_13_17_9 =>
            go_simp
            refine hK.out _ _ (SK.alloc hHeld _) (fun hHeld2 => ?_)
            clear hK K hHeld
            try simp only [Act.put, List.setIfInBounds_toArray, List.set_cons_zero, List.set_cons_succ]
            have hHeld := hHeld2
            clear hHeld2
            refine takeD (i := 18) (oi := { dst := some 28, op := _, type := _, pos := _, after := _, guard := _ }) (d := some 28) (v := ?vvx3a28) rfl rfl (by kernel_rfl) (by kernel_rfl) (by kernel_rfl) ?ddx3a28 (by rfl) ?yyx3a28 hHeld ?rrx3a28
            case ddx3a28 => exact fun _ _ _ h => h
            case yyx3a28 => (intro wx hSw; obtain ⟨y0, y1⟩ := hSw; go_simp; try (with_reducible rfl))
            try simp only [Act.put, List.setIfInBounds_toArray, List.set_cons_zero, List.set_cons_succ]
            refine wpAnyH_ready (rs := [19]) (by kernel_rfl) (by simp) ?_
            refine AllReadyH.cons (o := { dst := some 29, op := _, type := _, pos := _, after := _, guard := _ }) rfl (fun K hK => ?_) AllReadyH.nil
            go_simp
            refine hK.out _ _ (SK.alloc hHeld _) (fun hHeld2 => ?_)
            clear hK K hHeld
            try simp only [Act.put, List.setIfInBounds_toArray, List.set_cons_zero, List.set_cons_succ]
            refine takeD (i := 20) (oi := { dst := some 5, op := _, type := _, pos := _, after := _, guard := _ }) (d := some 5) (v := ?vvx3b5) rfl rfl (by kernel_rfl) (by kernel_rfl) (by kernel_rfl) ?ddx3b5 (by rfl) ?yyx3b5 hHeld2 ?rrx3b5
            case ddx3b5 => exact fun _ _ _ h => h
            case yyx3b5 => (intro wx hSw; obtain ⟨y0, y1⟩ := hSw; go_simp; try (with_reducible rfl))
            try simp only [Act.put, List.setIfInBounds_toArray, List.set_cons_zero, List.set_cons_succ]
            refine wpAnyH_done (by kernel_rfl) ?_ _
            go_wp2_with fail
            go_meet
            refine ⟨_, _, _, _, _, rfl, ⟨Blk.drew (made5 w0 _ _ _ _ _ _).2.2.2.2, ?_, ?_, ?_, ?_, ⟨by omega, by omega, by omega, by omega, by omega, by omega, by omega, by omega, by omega, by omega⟩, by omega, by omega, by omega, by omega, by omega⟩, ?_⟩
            all_goals first | exact OwnF.drew (made5 w0 _ _ _ _ _ _).1 | exact OwnF.drew (made5 w0 _ _ _ _ _ _).2.1 | exact OwnF.drew (made5 w0 _ _ _ _ _ _).2.2.1 | exact OwnF.drew (made5 w0 _ _ _ _ _ _).2.2.2.1 | exact (((((hb0.alloc hs0 _).alloc (by simp; omega) _).alloc (by simp; omega) _).alloc (by simp; omega) _).alloc (by simp; omega) _).drew
      case o5_17 =>
        go_simp
        refine hK.out _ _ (SK.alloc hHeld _) (fun hHeld2 => ?_)
        clear hK K hHeld
        try simp only [Act.put, List.setIfInBounds_toArray, List.set_cons_zero, List.set_cons_succ]
        have hHeld := hHeld2
        clear hHeld2
        refine wpAnyH_ready (rs := [9, 13]) (by kernel_rfl) (by simp) ?_
        refine (AllReadyH.cons (o := { dst := some 19, op := _, type := _, pos := _, after := _, guard := _ }) rfl (fun K hK => ?o5_17_9) (AllReadyH.cons (o := { dst := some 23, op := _, type := _, pos := _, after := _, guard := _ }) rfl (fun K hK => ?o5_17_13) AllReadyH.nil))
        case o5_17_9 =>
          go_simp
          refine hK.out _ _ (SK.alloc hHeld _) (fun hHeld2 => ?_)
          clear hK K hHeld
          try simp only [Act.put, List.setIfInBounds_toArray, List.set_cons_zero, List.set_cons_succ]
          have hHeld := hHeld2
          clear hHeld2
          refine wpAnyH_ready (rs := [13]) (by kernel_rfl) (by simp) ?_
          refine (AllReadyH.cons (o := { dst := some 23, op := _, type := _, pos := _, after := _, guard := _ }) rfl (fun K hK => ?o5_17_9_13) AllReadyH.nil)
          case o5_17_9_13 =>
            go_simp
            refine hK.out _ _ (SK.alloc hHeld _) (fun hHeld2 => ?_)
            clear hK K hHeld
            try simp only [Act.put, List.setIfInBounds_toArray, List.set_cons_zero, List.set_cons_succ]
            have hHeld := hHeld2
            clear hHeld2
            refine takeD (i := 18) (oi := { dst := some 28, op := _, type := _, pos := _, after := _, guard := _ }) (d := some 28) (v := ?vvx4a28) rfl rfl (by kernel_rfl) (by kernel_rfl) (by kernel_rfl) ?ddx4a28 (by rfl) ?yyx4a28 hHeld ?rrx4a28
            case ddx4a28 => exact fun _ _ _ h => h
            case yyx4a28 => (intro wx hSw; obtain ⟨y0, y1⟩ := hSw; go_simp; try (with_reducible rfl))
            try simp only [Act.put, List.setIfInBounds_toArray, List.set_cons_zero, List.set_cons_succ]
            refine wpAnyH_ready (rs := [19]) (by kernel_rfl) (by simp) ?_
            refine AllReadyH.cons (o := { dst := some 29, op := _, type := _, pos := _, after := _, guard := _ }) rfl (fun K hK => ?_) AllReadyH.nil
            go_simp
            refine hK.out _ _ (SK.alloc hHeld _) (fun hHeld2 => ?_)
            clear hK K hHeld
            try simp only [Act.put, List.setIfInBounds_toArray, List.set_cons_zero, List.set_cons_succ]
            refine takeD (i := 20) (oi := { dst := some 5, op := _, type := _, pos := _, after := _, guard := _ }) (d := some 5) (v := ?vvx4b5) rfl rfl (by kernel_rfl) (by kernel_rfl) (by kernel_rfl) ?ddx4b5 (by rfl) ?yyx4b5 hHeld2 ?rrx4b5
            case ddx4b5 => exact fun _ _ _ h => h
            case yyx4b5 => (intro wx hSw; obtain ⟨y0, y1⟩ := hSw; go_simp; try (with_reducible rfl))
            try simp only [Act.put, List.setIfInBounds_toArray, List.set_cons_zero, List.set_cons_succ]
            refine wpAnyH_done (by kernel_rfl) ?_ _
            go_wp2_with fail
            go_meet
            refine ⟨_, _, _, _, _, rfl, ⟨Blk.drew (made5 w0 _ _ _ _ _ _).2.2.2.2, ?_, ?_, ?_, ?_, ⟨by omega, by omega, by omega, by omega, by omega, by omega, by omega, by omega, by omega, by omega⟩, by omega, by omega, by omega, by omega, by omega⟩, ?_⟩
            all_goals first | exact OwnF.drew (made5 w0 _ _ _ _ _ _).1 | exact OwnF.drew (made5 w0 _ _ _ _ _ _).2.1 | exact OwnF.drew (made5 w0 _ _ _ _ _ _).2.2.1 | exact OwnF.drew (made5 w0 _ _ _ _ _ _).2.2.2.1 | exact (((((hb0.alloc hs0 _).alloc (by simp; omega) _).alloc (by simp; omega) _).alloc (by simp; omega) _).alloc (by simp; omega) _).drew
        case o5_17_13 =>
          go_simp
          refine hK.out _ _ (SK.alloc hHeld _) (fun hHeld2 => ?_)
          clear hK K hHeld
          try simp only [Act.put, List.setIfInBounds_toArray, List.set_cons_zero, List.set_cons_succ]
          have hHeld := hHeld2
          clear hHeld2
          refine wpAnyH_ready (rs := [9]) (by kernel_rfl) (by simp) ?_
          refine (AllReadyH.cons (o := { dst := some 19, op := _, type := _, pos := _, after := _, guard := _ }) rfl (fun K hK => ?o5_17_13_9) AllReadyH.nil)
          case o5_17_13_9 =>
            go_simp
            refine hK.out _ _ (SK.alloc hHeld _) (fun hHeld2 => ?_)
            clear hK K hHeld
            try simp only [Act.put, List.setIfInBounds_toArray, List.set_cons_zero, List.set_cons_succ]
            have hHeld := hHeld2
            clear hHeld2
            refine takeD (i := 18) (oi := { dst := some 28, op := _, type := _, pos := _, after := _, guard := _ }) (d := some 28) (v := ?vvx5a28) rfl rfl (by kernel_rfl) (by kernel_rfl) (by kernel_rfl) ?ddx5a28 (by rfl) ?yyx5a28 hHeld ?rrx5a28
            case ddx5a28 => exact fun _ _ _ h => h
            case yyx5a28 => (intro wx hSw; obtain ⟨y0, y1⟩ := hSw; go_simp; try (with_reducible rfl))
            try simp only [Act.put, List.setIfInBounds_toArray, List.set_cons_zero, List.set_cons_succ]
            refine wpAnyH_ready (rs := [19]) (by kernel_rfl) (by simp) ?_
            refine AllReadyH.cons (o := { dst := some 29, op := _, type := _, pos := _, after := _, guard := _ }) rfl (fun K hK => ?_) AllReadyH.nil
            go_simp
            refine hK.out _ _ (SK.alloc hHeld _) (fun hHeld2 => ?_)
            clear hK K hHeld
            try simp only [Act.put, List.setIfInBounds_toArray, List.set_cons_zero, List.set_cons_succ]
            refine takeD (i := 20) (oi := { dst := some 5, op := _, type := _, pos := _, after := _, guard := _ }) (d := some 5) (v := ?vvx5b5) rfl rfl (by kernel_rfl) (by kernel_rfl) (by kernel_rfl) ?ddx5b5 (by rfl) ?yyx5b5 hHeld2 ?rrx5b5
            case ddx5b5 => exact fun _ _ _ h => h
            case yyx5b5 => (intro wx hSw; obtain ⟨y0, y1⟩ := hSw; go_simp; try (with_reducible rfl))
            try simp only [Act.put, List.setIfInBounds_toArray, List.set_cons_zero, List.set_cons_succ]
            refine wpAnyH_done (by kernel_rfl) ?_ _
            go_wp2_with fail
            go_meet
            refine ⟨_, _, _, _, _, rfl, ⟨Blk.drew (made5 w0 _ _ _ _ _ _).2.2.2.2, ?_, ?_, ?_, ?_, ⟨by omega, by omega, by omega, by omega, by omega, by omega, by omega, by omega, by omega, by omega⟩, by omega, by omega, by omega, by omega, by omega⟩, ?_⟩
            all_goals first | exact OwnF.drew (made5 w0 _ _ _ _ _ _).1 | exact OwnF.drew (made5 w0 _ _ _ _ _ _).2.1 | exact OwnF.drew (made5 w0 _ _ _ _ _ _).2.2.1 | exact OwnF.drew (made5 w0 _ _ _ _ _ _).2.2.2.1 | exact (((((hb0.alloc hs0 _).alloc (by simp; omega) _).alloc (by simp; omega) _).alloc (by simp; omega) _).alloc (by simp; omega) _).drew
    case o9 =>
      go_simp
      refine hK.out _ _ (SK.alloc hHeld _) (fun hHeld2 => ?_)
      clear hK K hHeld
      try simp only [Act.put, List.setIfInBounds_toArray, List.set_cons_zero, List.set_cons_succ]
      have hHeld := hHeld2
      clear hHeld2
      refine wpAnyH_ready (rs := [5, 13, 17]) (by kernel_rfl) (by simp) ?_
      refine (AllReadyH.cons (o := { dst := some 15, op := _, type := _, pos := _, after := _, guard := _ }) rfl (fun K hK => ?o9_5) (AllReadyH.cons (o := { dst := some 23, op := _, type := _, pos := _, after := _, guard := _ }) rfl (fun K hK => ?o9_13) (AllReadyH.cons (o := { dst := some 27, op := _, type := _, pos := _, after := _, guard := _ }) rfl (fun K hK => ?o9_17) AllReadyH.nil)))
      case o9_5 =>
        go_simp
        refine hK.out _ _ (SK.alloc hHeld _) (fun hHeld2 => ?_)
        clear hK K hHeld
        try simp only [Act.put, List.setIfInBounds_toArray, List.set_cons_zero, List.set_cons_succ]
        have hHeld := hHeld2
        clear hHeld2
        refine wpAnyH_ready (rs := [13, 17]) (by kernel_rfl) (by simp) ?_
        refine (AllReadyH.cons (o := { dst := some 23, op := _, type := _, pos := _, after := _, guard := _ }) rfl (fun K hK => ?o9_5_13) (AllReadyH.cons (o := { dst := some 27, op := _, type := _, pos := _, after := _, guard := _ }) rfl (fun K hK => ?o9_5_17) AllReadyH.nil))
        case o9_5_13 =>
          go_simp
          refine hK.out _ _ (SK.alloc hHeld _) (fun hHeld2 => ?_)
          clear hK K hHeld
          try simp only [Act.put, List.setIfInBounds_toArray, List.set_cons_zero, List.set_cons_succ]
          have hHeld := hHeld2
          clear hHeld2
          refine wpAnyH_ready (rs := [17]) (by kernel_rfl) (by simp) ?_
          refine (AllReadyH.cons (o := { dst := some 27, op := _, type := _, pos := _, after := _, guard := _ }) rfl (fun K hK => ?o9_5_13_17) AllReadyH.nil)
          case o9_5_13_17 =>
            go_simp
            refine hK.out _ _ (SK.alloc hHeld _) (fun hHeld2 => ?_)
            clear hK K hHeld
            try simp only [Act.put, List.setIfInBounds_toArray, List.set_cons_zero, List.set_cons_succ]
            have hHeld := hHeld2
            clear hHeld2
            refine takeD (i := 18) (oi := { dst := some 28, op := _, type := _, pos := _, after := _, guard := _ }) (d := some 28) (v := ?vvx6a28) rfl rfl (by kernel_rfl) (by kernel_rfl) (by kernel_rfl) ?ddx6a28 (by rfl) ?yyx6a28 hHeld ?rrx6a28
            case ddx6a28 => exact fun _ _ _ h => h
            case yyx6a28 => (intro wx hSw; obtain ⟨y0, y1⟩ := hSw; go_simp; try (with_reducible rfl))
            try simp only [Act.put, List.setIfInBounds_toArray, List.set_cons_zero, List.set_cons_succ]
            refine wpAnyH_ready (rs := [19]) (by kernel_rfl) (by simp) ?_
            refine AllReadyH.cons (o := { dst := some 29, op := _, type := _, pos := _, after := _, guard := _ }) rfl (fun K hK => ?_) AllReadyH.nil
            go_simp
            refine hK.out _ _ (SK.alloc hHeld _) (fun hHeld2 => ?_)
            clear hK K hHeld
            try simp only [Act.put, List.setIfInBounds_toArray, List.set_cons_zero, List.set_cons_succ]
            refine takeD (i := 20) (oi := { dst := some 5, op := _, type := _, pos := _, after := _, guard := _ }) (d := some 5) (v := ?vvx6b5) rfl rfl (by kernel_rfl) (by kernel_rfl) (by kernel_rfl) ?ddx6b5 (by rfl) ?yyx6b5 hHeld2 ?rrx6b5
            case ddx6b5 => exact fun _ _ _ h => h
            case yyx6b5 => (intro wx hSw; obtain ⟨y0, y1⟩ := hSw; go_simp; try (with_reducible rfl))
            try simp only [Act.put, List.setIfInBounds_toArray, List.set_cons_zero, List.set_cons_succ]
            refine wpAnyH_done (by kernel_rfl) ?_ _
            go_wp2_with fail
            go_meet
            refine ⟨_, _, _, _, _, rfl, ⟨Blk.drew (made5 w0 _ _ _ _ _ _).2.2.2.2, ?_, ?_, ?_, ?_, ⟨by omega, by omega, by omega, by omega, by omega, by omega, by omega, by omega, by omega, by omega⟩, by omega, by omega, by omega, by omega, by omega⟩, ?_⟩
            all_goals first | exact OwnF.drew (made5 w0 _ _ _ _ _ _).1 | exact OwnF.drew (made5 w0 _ _ _ _ _ _).2.1 | exact OwnF.drew (made5 w0 _ _ _ _ _ _).2.2.1 | exact OwnF.drew (made5 w0 _ _ _ _ _ _).2.2.2.1 | exact (((((hb0.alloc hs0 _).alloc (by simp; omega) _).alloc (by simp; omega) _).alloc (by simp; omega) _).alloc (by simp; omega) _).drew
        case o9_5_17 =>
          go_simp
          refine hK.out _ _ (SK.alloc hHeld _) (fun hHeld2 => ?_)
          clear hK K hHeld
          try simp only [Act.put, List.setIfInBounds_toArray, List.set_cons_zero, List.set_cons_succ]
          have hHeld := hHeld2
          clear hHeld2
          refine wpAnyH_ready (rs := [13]) (by kernel_rfl) (by simp) ?_
          refine (AllReadyH.cons (o := { dst := some 23, op := _, type := _, pos := _, after := _, guard := _ }) rfl (fun K hK => ?o9_5_17_13) AllReadyH.nil)
          case o9_5_17_13 =>
            go_simp
            refine hK.out _ _ (SK.alloc hHeld _) (fun hHeld2 => ?_)
            clear hK K hHeld
            try simp only [Act.put, List.setIfInBounds_toArray, List.set_cons_zero, List.set_cons_succ]
            have hHeld := hHeld2
            clear hHeld2
            refine takeD (i := 18) (oi := { dst := some 28, op := _, type := _, pos := _, after := _, guard := _ }) (d := some 28) (v := ?vvx7a28) rfl rfl (by kernel_rfl) (by kernel_rfl) (by kernel_rfl) ?ddx7a28 (by rfl) ?yyx7a28 hHeld ?rrx7a28
            case ddx7a28 => exact fun _ _ _ h => h
            case yyx7a28 => (intro wx hSw; obtain ⟨y0, y1⟩ := hSw; go_simp; try (with_reducible rfl))
            try simp only [Act.put, List.setIfInBounds_toArray, List.set_cons_zero, List.set_cons_succ]
            refine wpAnyH_ready (rs := [19]) (by kernel_rfl) (by simp) ?_
            refine AllReadyH.cons (o := { dst := some 29, op := _, type := _, pos := _, after := _, guard := _ }) rfl (fun K hK => ?_) AllReadyH.nil
            go_simp
            refine hK.out _ _ (SK.alloc hHeld _) (fun hHeld2 => ?_)
            clear hK K hHeld
            try simp only [Act.put, List.setIfInBounds_toArray, List.set_cons_zero, List.set_cons_succ]
            refine takeD (i := 20) (oi := { dst := some 5, op := _, type := _, pos := _, after := _, guard := _ }) (d := some 5) (v := ?vvx7b5) rfl rfl (by kernel_rfl) (by kernel_rfl) (by kernel_rfl) ?ddx7b5 (by rfl) ?yyx7b5 hHeld2 ?rrx7b5
            case ddx7b5 => exact fun _ _ _ h => h
            case yyx7b5 => (intro wx hSw; obtain ⟨y0, y1⟩ := hSw; go_simp; try (with_reducible rfl))
            try simp only [Act.put, List.setIfInBounds_toArray, List.set_cons_zero, List.set_cons_succ]
            refine wpAnyH_done (by kernel_rfl) ?_ _
            go_wp2_with fail
            go_meet
            refine ⟨_, _, _, _, _, rfl, ⟨Blk.drew (made5 w0 _ _ _ _ _ _).2.2.2.2, ?_, ?_, ?_, ?_, ⟨by omega, by omega, by omega, by omega, by omega, by omega, by omega, by omega, by omega, by omega⟩, by omega, by omega, by omega, by omega, by omega⟩, ?_⟩
            all_goals first | exact OwnF.drew (made5 w0 _ _ _ _ _ _).1 | exact OwnF.drew (made5 w0 _ _ _ _ _ _).2.1 | exact OwnF.drew (made5 w0 _ _ _ _ _ _).2.2.1 | exact OwnF.drew (made5 w0 _ _ _ _ _ _).2.2.2.1 | exact (((((hb0.alloc hs0 _).alloc (by simp; omega) _).alloc (by simp; omega) _).alloc (by simp; omega) _).alloc (by simp; omega) _).drew
      case o9_13 =>
        go_simp
        refine hK.out _ _ (SK.alloc hHeld _) (fun hHeld2 => ?_)
        clear hK K hHeld
        try simp only [Act.put, List.setIfInBounds_toArray, List.set_cons_zero, List.set_cons_succ]
        have hHeld := hHeld2
        clear hHeld2
        refine wpAnyH_ready (rs := [5, 17]) (by kernel_rfl) (by simp) ?_
        refine (AllReadyH.cons (o := { dst := some 15, op := _, type := _, pos := _, after := _, guard := _ }) rfl (fun K hK => ?o9_13_5) (AllReadyH.cons (o := { dst := some 27, op := _, type := _, pos := _, after := _, guard := _ }) rfl (fun K hK => ?o9_13_17) AllReadyH.nil))
        case o9_13_5 =>
          go_simp
          refine hK.out _ _ (SK.alloc hHeld _) (fun hHeld2 => ?_)
          clear hK K hHeld
          try simp only [Act.put, List.setIfInBounds_toArray, List.set_cons_zero, List.set_cons_succ]
          have hHeld := hHeld2
          clear hHeld2
          refine wpAnyH_ready (rs := [17]) (by kernel_rfl) (by simp) ?_
          refine (AllReadyH.cons (o := { dst := some 27, op := _, type := _, pos := _, after := _, guard := _ }) rfl (fun K hK => ?o9_13_5_17) AllReadyH.nil)
          case o9_13_5_17 =>
            go_simp
            refine hK.out _ _ (SK.alloc hHeld _) (fun hHeld2 => ?_)
            clear hK K hHeld
            try simp only [Act.put, List.setIfInBounds_toArray, List.set_cons_zero, List.set_cons_succ]
            have hHeld := hHeld2
            clear hHeld2
            refine takeD (i := 18) (oi := { dst := some 28, op := _, type := _, pos := _, after := _, guard := _ }) (d := some 28) (v := ?vvx8a28) rfl rfl (by kernel_rfl) (by kernel_rfl) (by kernel_rfl) ?ddx8a28 (by rfl) ?yyx8a28 hHeld ?rrx8a28
            case ddx8a28 => exact fun _ _ _ h => h
            case yyx8a28 => (intro wx hSw; obtain ⟨y0, y1⟩ := hSw; go_simp; try (with_reducible rfl))
            try simp only [Act.put, List.setIfInBounds_toArray, List.set_cons_zero, List.set_cons_succ]
            refine wpAnyH_ready (rs := [19]) (by kernel_rfl) (by simp) ?_
            refine AllReadyH.cons (o := { dst := some 29, op := _, type := _, pos := _, after := _, guard := _ }) rfl (fun K hK => ?_) AllReadyH.nil
            go_simp
            refine hK.out _ _ (SK.alloc hHeld _) (fun hHeld2 => ?_)
            clear hK K hHeld
            try simp only [Act.put, List.setIfInBounds_toArray, List.set_cons_zero, List.set_cons_succ]
            refine takeD (i := 20) (oi := { dst := some 5, op := _, type := _, pos := _, after := _, guard := _ }) (d := some 5) (v := ?vvx8b5) rfl rfl (by kernel_rfl) (by kernel_rfl) (by kernel_rfl) ?ddx8b5 (by rfl) ?yyx8b5 hHeld2 ?rrx8b5
            case ddx8b5 => exact fun _ _ _ h => h
            case yyx8b5 => (intro wx hSw; obtain ⟨y0, y1⟩ := hSw; go_simp; try (with_reducible rfl))
            try simp only [Act.put, List.setIfInBounds_toArray, List.set_cons_zero, List.set_cons_succ]
            refine wpAnyH_done (by kernel_rfl) ?_ _
            go_wp2_with fail
            go_meet
            refine ⟨_, _, _, _, _, rfl, ⟨Blk.drew (made5 w0 _ _ _ _ _ _).2.2.2.2, ?_, ?_, ?_, ?_, ⟨by omega, by omega, by omega, by omega, by omega, by omega, by omega, by omega, by omega, by omega⟩, by omega, by omega, by omega, by omega, by omega⟩, ?_⟩
            all_goals first | exact OwnF.drew (made5 w0 _ _ _ _ _ _).1 | exact OwnF.drew (made5 w0 _ _ _ _ _ _).2.1 | exact OwnF.drew (made5 w0 _ _ _ _ _ _).2.2.1 | exact OwnF.drew (made5 w0 _ _ _ _ _ _).2.2.2.1 | exact (((((hb0.alloc hs0 _).alloc (by simp; omega) _).alloc (by simp; omega) _).alloc (by simp; omega) _).alloc (by simp; omega) _).drew
        case o9_13_17 =>
          go_simp
          refine hK.out _ _ (SK.alloc hHeld _) (fun hHeld2 => ?_)
          clear hK K hHeld
          try simp only [Act.put, List.setIfInBounds_toArray, List.set_cons_zero, List.set_cons_succ]
          have hHeld := hHeld2
          clear hHeld2
          refine wpAnyH_ready (rs := [5]) (by kernel_rfl) (by simp) ?_
          refine (AllReadyH.cons (o := { dst := some 15, op := _, type := _, pos := _, after := _, guard := _ }) rfl (fun K hK => ?o9_13_17_5) AllReadyH.nil)
          case o9_13_17_5 =>
            go_simp
            refine hK.out _ _ (SK.alloc hHeld _) (fun hHeld2 => ?_)
            clear hK K hHeld
            try simp only [Act.put, List.setIfInBounds_toArray, List.set_cons_zero, List.set_cons_succ]
            have hHeld := hHeld2
            clear hHeld2
            refine takeD (i := 18) (oi := { dst := some 28, op := _, type := _, pos := _, after := _, guard := _ }) (d := some 28) (v := ?vvx9a28) rfl rfl (by kernel_rfl) (by kernel_rfl) (by kernel_rfl) ?ddx9a28 (by rfl) ?yyx9a28 hHeld ?rrx9a28
            case ddx9a28 => exact fun _ _ _ h => h
            case yyx9a28 => (intro wx hSw; obtain ⟨y0, y1⟩ := hSw; go_simp; try (with_reducible rfl))
            try simp only [Act.put, List.setIfInBounds_toArray, List.set_cons_zero, List.set_cons_succ]
            refine wpAnyH_ready (rs := [19]) (by kernel_rfl) (by simp) ?_
            refine AllReadyH.cons (o := { dst := some 29, op := _, type := _, pos := _, after := _, guard := _ }) rfl (fun K hK => ?_) AllReadyH.nil
            go_simp
            refine hK.out _ _ (SK.alloc hHeld _) (fun hHeld2 => ?_)
            clear hK K hHeld
            try simp only [Act.put, List.setIfInBounds_toArray, List.set_cons_zero, List.set_cons_succ]
            refine takeD (i := 20) (oi := { dst := some 5, op := _, type := _, pos := _, after := _, guard := _ }) (d := some 5) (v := ?vvx9b5) rfl rfl (by kernel_rfl) (by kernel_rfl) (by kernel_rfl) ?ddx9b5 (by rfl) ?yyx9b5 hHeld2 ?rrx9b5
            case ddx9b5 => exact fun _ _ _ h => h
            case yyx9b5 => (intro wx hSw; obtain ⟨y0, y1⟩ := hSw; go_simp; try (with_reducible rfl))
            try simp only [Act.put, List.setIfInBounds_toArray, List.set_cons_zero, List.set_cons_succ]
            refine wpAnyH_done (by kernel_rfl) ?_ _
            go_wp2_with fail
            go_meet
            refine ⟨_, _, _, _, _, rfl, ⟨Blk.drew (made5 w0 _ _ _ _ _ _).2.2.2.2, ?_, ?_, ?_, ?_, ⟨by omega, by omega, by omega, by omega, by omega, by omega, by omega, by omega, by omega, by omega⟩, by omega, by omega, by omega, by omega, by omega⟩, ?_⟩
            all_goals first | exact OwnF.drew (made5 w0 _ _ _ _ _ _).1 | exact OwnF.drew (made5 w0 _ _ _ _ _ _).2.1 | exact OwnF.drew (made5 w0 _ _ _ _ _ _).2.2.1 | exact OwnF.drew (made5 w0 _ _ _ _ _ _).2.2.2.1 | exact (((((hb0.alloc hs0 _).alloc (by simp; omega) _).alloc (by simp; omega) _).alloc (by simp; omega) _).alloc (by simp; omega) _).drew
      case o9_17 =>
        go_simp
        refine hK.out _ _ (SK.alloc hHeld _) (fun hHeld2 => ?_)
        clear hK K hHeld
        try simp only [Act.put, List.setIfInBounds_toArray, List.set_cons_zero, List.set_cons_succ]
        have hHeld := hHeld2
        clear hHeld2
        refine wpAnyH_ready (rs := [5, 13]) (by kernel_rfl) (by simp) ?_
        refine (AllReadyH.cons (o := { dst := some 15, op := _, type := _, pos := _, after := _, guard := _ }) rfl (fun K hK => ?o9_17_5) (AllReadyH.cons (o := { dst := some 23, op := _, type := _, pos := _, after := _, guard := _ }) rfl (fun K hK => ?o9_17_13) AllReadyH.nil))
        case o9_17_5 =>
          go_simp
          refine hK.out _ _ (SK.alloc hHeld _) (fun hHeld2 => ?_)
          clear hK K hHeld
          try simp only [Act.put, List.setIfInBounds_toArray, List.set_cons_zero, List.set_cons_succ]
          have hHeld := hHeld2
          clear hHeld2
          refine wpAnyH_ready (rs := [13]) (by kernel_rfl) (by simp) ?_
          refine (AllReadyH.cons (o := { dst := some 23, op := _, type := _, pos := _, after := _, guard := _ }) rfl (fun K hK => ?o9_17_5_13) AllReadyH.nil)
          case o9_17_5_13 =>
            go_simp
            refine hK.out _ _ (SK.alloc hHeld _) (fun hHeld2 => ?_)
            clear hK K hHeld
            try simp only [Act.put, List.setIfInBounds_toArray, List.set_cons_zero, List.set_cons_succ]
            have hHeld := hHeld2
            clear hHeld2
            refine takeD (i := 18) (oi := { dst := some 28, op := _, type := _, pos := _, after := _, guard := _ }) (d := some 28) (v := ?vvx10a28) rfl rfl (by kernel_rfl) (by kernel_rfl) (by kernel_rfl) ?ddx10a28 (by rfl) ?yyx10a28 hHeld ?rrx10a28
            case ddx10a28 => exact fun _ _ _ h => h
            case yyx10a28 => (intro wx hSw; obtain ⟨y0, y1⟩ := hSw; go_simp; try (with_reducible rfl))
            try simp only [Act.put, List.setIfInBounds_toArray, List.set_cons_zero, List.set_cons_succ]
            refine wpAnyH_ready (rs := [19]) (by kernel_rfl) (by simp) ?_
            refine AllReadyH.cons (o := { dst := some 29, op := _, type := _, pos := _, after := _, guard := _ }) rfl (fun K hK => ?_) AllReadyH.nil
            go_simp
            refine hK.out _ _ (SK.alloc hHeld _) (fun hHeld2 => ?_)
            clear hK K hHeld
            try simp only [Act.put, List.setIfInBounds_toArray, List.set_cons_zero, List.set_cons_succ]
            refine takeD (i := 20) (oi := { dst := some 5, op := _, type := _, pos := _, after := _, guard := _ }) (d := some 5) (v := ?vvx10b5) rfl rfl (by kernel_rfl) (by kernel_rfl) (by kernel_rfl) ?ddx10b5 (by rfl) ?yyx10b5 hHeld2 ?rrx10b5
            case ddx10b5 => exact fun _ _ _ h => h
            case yyx10b5 => (intro wx hSw; obtain ⟨y0, y1⟩ := hSw; go_simp; try (with_reducible rfl))
            try simp only [Act.put, List.setIfInBounds_toArray, List.set_cons_zero, List.set_cons_succ]
            refine wpAnyH_done (by kernel_rfl) ?_ _
            go_wp2_with fail
            go_meet
            refine ⟨_, _, _, _, _, rfl, ⟨Blk.drew (made5 w0 _ _ _ _ _ _).2.2.2.2, ?_, ?_, ?_, ?_, ⟨by omega, by omega, by omega, by omega, by omega, by omega, by omega, by omega, by omega, by omega⟩, by omega, by omega, by omega, by omega, by omega⟩, ?_⟩
            all_goals first | exact OwnF.drew (made5 w0 _ _ _ _ _ _).1 | exact OwnF.drew (made5 w0 _ _ _ _ _ _).2.1 | exact OwnF.drew (made5 w0 _ _ _ _ _ _).2.2.1 | exact OwnF.drew (made5 w0 _ _ _ _ _ _).2.2.2.1 | exact (((((hb0.alloc hs0 _).alloc (by simp; omega) _).alloc (by simp; omega) _).alloc (by simp; omega) _).alloc (by simp; omega) _).drew
        case o9_17_13 =>
          go_simp
          refine hK.out _ _ (SK.alloc hHeld _) (fun hHeld2 => ?_)
          clear hK K hHeld
          try simp only [Act.put, List.setIfInBounds_toArray, List.set_cons_zero, List.set_cons_succ]
          have hHeld := hHeld2
          clear hHeld2
          refine wpAnyH_ready (rs := [5]) (by kernel_rfl) (by simp) ?_
          refine (AllReadyH.cons (o := { dst := some 15, op := _, type := _, pos := _, after := _, guard := _ }) rfl (fun K hK => ?o9_17_13_5) AllReadyH.nil)
          case o9_17_13_5 =>
            go_simp
            refine hK.out _ _ (SK.alloc hHeld _) (fun hHeld2 => ?_)
            clear hK K hHeld
            try simp only [Act.put, List.setIfInBounds_toArray, List.set_cons_zero, List.set_cons_succ]
            have hHeld := hHeld2
            clear hHeld2
            refine takeD (i := 18) (oi := { dst := some 28, op := _, type := _, pos := _, after := _, guard := _ }) (d := some 28) (v := ?vvx11a28) rfl rfl (by kernel_rfl) (by kernel_rfl) (by kernel_rfl) ?ddx11a28 (by rfl) ?yyx11a28 hHeld ?rrx11a28
            case ddx11a28 => exact fun _ _ _ h => h
            case yyx11a28 => (intro wx hSw; obtain ⟨y0, y1⟩ := hSw; go_simp; try (with_reducible rfl))
            try simp only [Act.put, List.setIfInBounds_toArray, List.set_cons_zero, List.set_cons_succ]
            refine wpAnyH_ready (rs := [19]) (by kernel_rfl) (by simp) ?_
            refine AllReadyH.cons (o := { dst := some 29, op := _, type := _, pos := _, after := _, guard := _ }) rfl (fun K hK => ?_) AllReadyH.nil
            go_simp
            refine hK.out _ _ (SK.alloc hHeld _) (fun hHeld2 => ?_)
            clear hK K hHeld
            try simp only [Act.put, List.setIfInBounds_toArray, List.set_cons_zero, List.set_cons_succ]
            refine takeD (i := 20) (oi := { dst := some 5, op := _, type := _, pos := _, after := _, guard := _ }) (d := some 5) (v := ?vvx11b5) rfl rfl (by kernel_rfl) (by kernel_rfl) (by kernel_rfl) ?ddx11b5 (by rfl) ?yyx11b5 hHeld2 ?rrx11b5
            case ddx11b5 => exact fun _ _ _ h => h
            case yyx11b5 => (intro wx hSw; obtain ⟨y0, y1⟩ := hSw; go_simp; try (with_reducible rfl))
            try simp only [Act.put, List.setIfInBounds_toArray, List.set_cons_zero, List.set_cons_succ]
            refine wpAnyH_done (by kernel_rfl) ?_ _
            go_wp2_with fail
            go_meet
            refine ⟨_, _, _, _, _, rfl, ⟨Blk.drew (made5 w0 _ _ _ _ _ _).2.2.2.2, ?_, ?_, ?_, ?_, ⟨by omega, by omega, by omega, by omega, by omega, by omega, by omega, by omega, by omega, by omega⟩, by omega, by omega, by omega, by omega, by omega⟩, ?_⟩
            all_goals first | exact OwnF.drew (made5 w0 _ _ _ _ _ _).1 | exact OwnF.drew (made5 w0 _ _ _ _ _ _).2.1 | exact OwnF.drew (made5 w0 _ _ _ _ _ _).2.2.1 | exact OwnF.drew (made5 w0 _ _ _ _ _ _).2.2.2.1 | exact (((((hb0.alloc hs0 _).alloc (by simp; omega) _).alloc (by simp; omega) _).alloc (by simp; omega) _).alloc (by simp; omega) _).drew
    case o13 =>
      go_simp
      refine hK.out _ _ (SK.alloc hHeld _) (fun hHeld2 => ?_)
      clear hK K hHeld
      try simp only [Act.put, List.setIfInBounds_toArray, List.set_cons_zero, List.set_cons_succ]
      have hHeld := hHeld2
      clear hHeld2
      refine wpAnyH_ready (rs := [5, 9, 17]) (by kernel_rfl) (by simp) ?_
      refine (AllReadyH.cons (o := { dst := some 15, op := _, type := _, pos := _, after := _, guard := _ }) rfl (fun K hK => ?o13_5) (AllReadyH.cons (o := { dst := some 19, op := _, type := _, pos := _, after := _, guard := _ }) rfl (fun K hK => ?o13_9) (AllReadyH.cons (o := { dst := some 27, op := _, type := _, pos := _, after := _, guard := _ }) rfl (fun K hK => ?o13_17) AllReadyH.nil)))
      case o13_5 =>
        go_simp
        refine hK.out _ _ (SK.alloc hHeld _) (fun hHeld2 => ?_)
        clear hK K hHeld
        try simp only [Act.put, List.setIfInBounds_toArray, List.set_cons_zero, List.set_cons_succ]
        have hHeld := hHeld2
        clear hHeld2
        refine wpAnyH_ready (rs := [9, 17]) (by kernel_rfl) (by simp) ?_
        refine (AllReadyH.cons (o := { dst := some 19, op := _, type := _, pos := _, after := _, guard := _ }) rfl (fun K hK => ?o13_5_9) (AllReadyH.cons (o := { dst := some 27, op := _, type := _, pos := _, after := _, guard := _ }) rfl (fun K hK => ?o13_5_17) AllReadyH.nil))
        case o13_5_9 =>
          go_simp
          refine hK.out _ _ (SK.alloc hHeld _) (fun hHeld2 => ?_)
          clear hK K hHeld
          try simp only [Act.put, List.setIfInBounds_toArray, List.set_cons_zero, List.set_cons_succ]
          have hHeld := hHeld2
          clear hHeld2
          refine wpAnyH_ready (rs := [17]) (by kernel_rfl) (by simp) ?_
          refine (AllReadyH.cons (o := { dst := some 27, op := _, type := _, pos := _, after := _, guard := _ }) rfl (fun K hK => ?o13_5_9_17) AllReadyH.nil)
          case o13_5_9_17 =>
            go_simp
            refine hK.out _ _ (SK.alloc hHeld _) (fun hHeld2 => ?_)
            clear hK K hHeld
            try simp only [Act.put, List.setIfInBounds_toArray, List.set_cons_zero, List.set_cons_succ]
            have hHeld := hHeld2
            clear hHeld2
            refine takeD (i := 18) (oi := { dst := some 28, op := _, type := _, pos := _, after := _, guard := _ }) (d := some 28) (v := ?vvx12a28) rfl rfl (by kernel_rfl) (by kernel_rfl) (by kernel_rfl) ?ddx12a28 (by rfl) ?yyx12a28 hHeld ?rrx12a28
            case ddx12a28 => exact fun _ _ _ h => h
            case yyx12a28 => (intro wx hSw; obtain ⟨y0, y1⟩ := hSw; go_simp; try (with_reducible rfl))
            try simp only [Act.put, List.setIfInBounds_toArray, List.set_cons_zero, List.set_cons_succ]
            refine wpAnyH_ready (rs := [19]) (by kernel_rfl) (by simp) ?_
            refine AllReadyH.cons (o := { dst := some 29, op := _, type := _, pos := _, after := _, guard := _ }) rfl (fun K hK => ?_) AllReadyH.nil
            go_simp
            refine hK.out _ _ (SK.alloc hHeld _) (fun hHeld2 => ?_)
            clear hK K hHeld
            try simp only [Act.put, List.setIfInBounds_toArray, List.set_cons_zero, List.set_cons_succ]
            refine takeD (i := 20) (oi := { dst := some 5, op := _, type := _, pos := _, after := _, guard := _ }) (d := some 5) (v := ?vvx12b5) rfl rfl (by kernel_rfl) (by kernel_rfl) (by kernel_rfl) ?ddx12b5 (by rfl) ?yyx12b5 hHeld2 ?rrx12b5
            case ddx12b5 => exact fun _ _ _ h => h
            case yyx12b5 => (intro wx hSw; obtain ⟨y0, y1⟩ := hSw; go_simp; try (with_reducible rfl))
            try simp only [Act.put, List.setIfInBounds_toArray, List.set_cons_zero, List.set_cons_succ]
            refine wpAnyH_done (by kernel_rfl) ?_ _
            go_wp2_with fail
            go_meet
            refine ⟨_, _, _, _, _, rfl, ⟨Blk.drew (made5 w0 _ _ _ _ _ _).2.2.2.2, ?_, ?_, ?_, ?_, ⟨by omega, by omega, by omega, by omega, by omega, by omega, by omega, by omega, by omega, by omega⟩, by omega, by omega, by omega, by omega, by omega⟩, ?_⟩
            all_goals first | exact OwnF.drew (made5 w0 _ _ _ _ _ _).1 | exact OwnF.drew (made5 w0 _ _ _ _ _ _).2.1 | exact OwnF.drew (made5 w0 _ _ _ _ _ _).2.2.1 | exact OwnF.drew (made5 w0 _ _ _ _ _ _).2.2.2.1 | exact (((((hb0.alloc hs0 _).alloc (by simp; omega) _).alloc (by simp; omega) _).alloc (by simp; omega) _).alloc (by simp; omega) _).drew
        case o13_5_17 =>
          go_simp
          refine hK.out _ _ (SK.alloc hHeld _) (fun hHeld2 => ?_)
          clear hK K hHeld
          try simp only [Act.put, List.setIfInBounds_toArray, List.set_cons_zero, List.set_cons_succ]
          have hHeld := hHeld2
          clear hHeld2
          refine wpAnyH_ready (rs := [9]) (by kernel_rfl) (by simp) ?_
          refine (AllReadyH.cons (o := { dst := some 19, op := _, type := _, pos := _, after := _, guard := _ }) rfl (fun K hK => ?o13_5_17_9) AllReadyH.nil)
          case o13_5_17_9 =>
            go_simp
            refine hK.out _ _ (SK.alloc hHeld _) (fun hHeld2 => ?_)
            clear hK K hHeld
            try simp only [Act.put, List.setIfInBounds_toArray, List.set_cons_zero, List.set_cons_succ]
            have hHeld := hHeld2
            clear hHeld2
            refine takeD (i := 18) (oi := { dst := some 28, op := _, type := _, pos := _, after := _, guard := _ }) (d := some 28) (v := ?vvx13a28) rfl rfl (by kernel_rfl) (by kernel_rfl) (by kernel_rfl) ?ddx13a28 (by rfl) ?yyx13a28 hHeld ?rrx13a28
            case ddx13a28 => exact fun _ _ _ h => h
            case yyx13a28 => (intro wx hSw; obtain ⟨y0, y1⟩ := hSw; go_simp; try (with_reducible rfl))
            try simp only [Act.put, List.setIfInBounds_toArray, List.set_cons_zero, List.set_cons_succ]
            refine wpAnyH_ready (rs := [19]) (by kernel_rfl) (by simp) ?_
            refine AllReadyH.cons (o := { dst := some 29, op := _, type := _, pos := _, after := _, guard := _ }) rfl (fun K hK => ?_) AllReadyH.nil
            go_simp
            refine hK.out _ _ (SK.alloc hHeld _) (fun hHeld2 => ?_)
            clear hK K hHeld
            try simp only [Act.put, List.setIfInBounds_toArray, List.set_cons_zero, List.set_cons_succ]
            refine takeD (i := 20) (oi := { dst := some 5, op := _, type := _, pos := _, after := _, guard := _ }) (d := some 5) (v := ?vvx13b5) rfl rfl (by kernel_rfl) (by kernel_rfl) (by kernel_rfl) ?ddx13b5 (by rfl) ?yyx13b5 hHeld2 ?rrx13b5
            case ddx13b5 => exact fun _ _ _ h => h
            case yyx13b5 => (intro wx hSw; obtain ⟨y0, y1⟩ := hSw; go_simp; try (with_reducible rfl))
            try simp only [Act.put, List.setIfInBounds_toArray, List.set_cons_zero, List.set_cons_succ]
            refine wpAnyH_done (by kernel_rfl) ?_ _
            go_wp2_with fail
            go_meet
            refine ⟨_, _, _, _, _, rfl, ⟨Blk.drew (made5 w0 _ _ _ _ _ _).2.2.2.2, ?_, ?_, ?_, ?_, ⟨by omega, by omega, by omega, by omega, by omega, by omega, by omega, by omega, by omega, by omega⟩, by omega, by omega, by omega, by omega, by omega⟩, ?_⟩
            all_goals first | exact OwnF.drew (made5 w0 _ _ _ _ _ _).1 | exact OwnF.drew (made5 w0 _ _ _ _ _ _).2.1 | exact OwnF.drew (made5 w0 _ _ _ _ _ _).2.2.1 | exact OwnF.drew (made5 w0 _ _ _ _ _ _).2.2.2.1 | exact (((((hb0.alloc hs0 _).alloc (by simp; omega) _).alloc (by simp; omega) _).alloc (by simp; omega) _).alloc (by simp; omega) _).drew
      case o13_9 =>
        go_simp
        refine hK.out _ _ (SK.alloc hHeld _) (fun hHeld2 => ?_)
        clear hK K hHeld
        try simp only [Act.put, List.setIfInBounds_toArray, List.set_cons_zero, List.set_cons_succ]
        have hHeld := hHeld2
        clear hHeld2
        refine wpAnyH_ready (rs := [5, 17]) (by kernel_rfl) (by simp) ?_
        refine (AllReadyH.cons (o := { dst := some 15, op := _, type := _, pos := _, after := _, guard := _ }) rfl (fun K hK => ?o13_9_5) (AllReadyH.cons (o := { dst := some 27, op := _, type := _, pos := _, after := _, guard := _ }) rfl (fun K hK => ?o13_9_17) AllReadyH.nil))
        case o13_9_5 =>
          go_simp
          refine hK.out _ _ (SK.alloc hHeld _) (fun hHeld2 => ?_)
          clear hK K hHeld
          try simp only [Act.put, List.setIfInBounds_toArray, List.set_cons_zero, List.set_cons_succ]
          have hHeld := hHeld2
          clear hHeld2
          refine wpAnyH_ready (rs := [17]) (by kernel_rfl) (by simp) ?_
          refine (AllReadyH.cons (o := { dst := some 27, op := _, type := _, pos := _, after := _, guard := _ }) rfl (fun K hK => ?o13_9_5_17) AllReadyH.nil)
          case o13_9_5_17 =>
            go_simp
            refine hK.out _ _ (SK.alloc hHeld _) (fun hHeld2 => ?_)
            clear hK K hHeld
            try simp only [Act.put, List.setIfInBounds_toArray, List.set_cons_zero, List.set_cons_succ]
            have hHeld := hHeld2
            clear hHeld2
            refine takeD (i := 18) (oi := { dst := some 28, op := _, type := _, pos := _, after := _, guard := _ }) (d := some 28) (v := ?vvx14a28) rfl rfl (by kernel_rfl) (by kernel_rfl) (by kernel_rfl) ?ddx14a28 (by rfl) ?yyx14a28 hHeld ?rrx14a28
            case ddx14a28 => exact fun _ _ _ h => h
            case yyx14a28 => (intro wx hSw; obtain ⟨y0, y1⟩ := hSw; go_simp; try (with_reducible rfl))
            try simp only [Act.put, List.setIfInBounds_toArray, List.set_cons_zero, List.set_cons_succ]
            refine wpAnyH_ready (rs := [19]) (by kernel_rfl) (by simp) ?_
            refine AllReadyH.cons (o := { dst := some 29, op := _, type := _, pos := _, after := _, guard := _ }) rfl (fun K hK => ?_) AllReadyH.nil
            go_simp
            refine hK.out _ _ (SK.alloc hHeld _) (fun hHeld2 => ?_)
            clear hK K hHeld
            try simp only [Act.put, List.setIfInBounds_toArray, List.set_cons_zero, List.set_cons_succ]
            refine takeD (i := 20) (oi := { dst := some 5, op := _, type := _, pos := _, after := _, guard := _ }) (d := some 5) (v := ?vvx14b5) rfl rfl (by kernel_rfl) (by kernel_rfl) (by kernel_rfl) ?ddx14b5 (by rfl) ?yyx14b5 hHeld2 ?rrx14b5
            case ddx14b5 => exact fun _ _ _ h => h
            case yyx14b5 => (intro wx hSw; obtain ⟨y0, y1⟩ := hSw; go_simp; try (with_reducible rfl))
            try simp only [Act.put, List.setIfInBounds_toArray, List.set_cons_zero, List.set_cons_succ]
            refine wpAnyH_done (by kernel_rfl) ?_ _
            go_wp2_with fail
            go_meet
            refine ⟨_, _, _, _, _, rfl, ⟨Blk.drew (made5 w0 _ _ _ _ _ _).2.2.2.2, ?_, ?_, ?_, ?_, ⟨by omega, by omega, by omega, by omega, by omega, by omega, by omega, by omega, by omega, by omega⟩, by omega, by omega, by omega, by omega, by omega⟩, ?_⟩
            all_goals first | exact OwnF.drew (made5 w0 _ _ _ _ _ _).1 | exact OwnF.drew (made5 w0 _ _ _ _ _ _).2.1 | exact OwnF.drew (made5 w0 _ _ _ _ _ _).2.2.1 | exact OwnF.drew (made5 w0 _ _ _ _ _ _).2.2.2.1 | exact (((((hb0.alloc hs0 _).alloc (by simp; omega) _).alloc (by simp; omega) _).alloc (by simp; omega) _).alloc (by simp; omega) _).drew
        case o13_9_17 =>
          go_simp
          refine hK.out _ _ (SK.alloc hHeld _) (fun hHeld2 => ?_)
          clear hK K hHeld
          try simp only [Act.put, List.setIfInBounds_toArray, List.set_cons_zero, List.set_cons_succ]
          have hHeld := hHeld2
          clear hHeld2
          refine wpAnyH_ready (rs := [5]) (by kernel_rfl) (by simp) ?_
          refine (AllReadyH.cons (o := { dst := some 15, op := _, type := _, pos := _, after := _, guard := _ }) rfl (fun K hK => ?o13_9_17_5) AllReadyH.nil)
          case o13_9_17_5 =>
            go_simp
            refine hK.out _ _ (SK.alloc hHeld _) (fun hHeld2 => ?_)
            clear hK K hHeld
            try simp only [Act.put, List.setIfInBounds_toArray, List.set_cons_zero, List.set_cons_succ]
            have hHeld := hHeld2
            clear hHeld2
            refine takeD (i := 18) (oi := { dst := some 28, op := _, type := _, pos := _, after := _, guard := _ }) (d := some 28) (v := ?vvx15a28) rfl rfl (by kernel_rfl) (by kernel_rfl) (by kernel_rfl) ?ddx15a28 (by rfl) ?yyx15a28 hHeld ?rrx15a28
            case ddx15a28 => exact fun _ _ _ h => h
            case yyx15a28 => (intro wx hSw; obtain ⟨y0, y1⟩ := hSw; go_simp; try (with_reducible rfl))
            try simp only [Act.put, List.setIfInBounds_toArray, List.set_cons_zero, List.set_cons_succ]
            refine wpAnyH_ready (rs := [19]) (by kernel_rfl) (by simp) ?_
            refine AllReadyH.cons (o := { dst := some 29, op := _, type := _, pos := _, after := _, guard := _ }) rfl (fun K hK => ?_) AllReadyH.nil
            go_simp
            refine hK.out _ _ (SK.alloc hHeld _) (fun hHeld2 => ?_)
            clear hK K hHeld
            try simp only [Act.put, List.setIfInBounds_toArray, List.set_cons_zero, List.set_cons_succ]
            refine takeD (i := 20) (oi := { dst := some 5, op := _, type := _, pos := _, after := _, guard := _ }) (d := some 5) (v := ?vvx15b5) rfl rfl (by kernel_rfl) (by kernel_rfl) (by kernel_rfl) ?ddx15b5 (by rfl) ?yyx15b5 hHeld2 ?rrx15b5
            case ddx15b5 => exact fun _ _ _ h => h
            case yyx15b5 => (intro wx hSw; obtain ⟨y0, y1⟩ := hSw; go_simp; try (with_reducible rfl))
            try simp only [Act.put, List.setIfInBounds_toArray, List.set_cons_zero, List.set_cons_succ]
            refine wpAnyH_done (by kernel_rfl) ?_ _
            go_wp2_with fail
            go_meet
            refine ⟨_, _, _, _, _, rfl, ⟨Blk.drew (made5 w0 _ _ _ _ _ _).2.2.2.2, ?_, ?_, ?_, ?_, ⟨by omega, by omega, by omega, by omega, by omega, by omega, by omega, by omega, by omega, by omega⟩, by omega, by omega, by omega, by omega, by omega⟩, ?_⟩
            all_goals first | exact OwnF.drew (made5 w0 _ _ _ _ _ _).1 | exact OwnF.drew (made5 w0 _ _ _ _ _ _).2.1 | exact OwnF.drew (made5 w0 _ _ _ _ _ _).2.2.1 | exact OwnF.drew (made5 w0 _ _ _ _ _ _).2.2.2.1 | exact (((((hb0.alloc hs0 _).alloc (by simp; omega) _).alloc (by simp; omega) _).alloc (by simp; omega) _).alloc (by simp; omega) _).drew
      case o13_17 =>
        go_simp
        refine hK.out _ _ (SK.alloc hHeld _) (fun hHeld2 => ?_)
        clear hK K hHeld
        try simp only [Act.put, List.setIfInBounds_toArray, List.set_cons_zero, List.set_cons_succ]
        have hHeld := hHeld2
        clear hHeld2
        refine wpAnyH_ready (rs := [5, 9]) (by kernel_rfl) (by simp) ?_
        refine (AllReadyH.cons (o := { dst := some 15, op := _, type := _, pos := _, after := _, guard := _ }) rfl (fun K hK => ?o13_17_5) (AllReadyH.cons (o := { dst := some 19, op := _, type := _, pos := _, after := _, guard := _ }) rfl (fun K hK => ?o13_17_9) AllReadyH.nil))
        case o13_17_5 =>
          go_simp
          refine hK.out _ _ (SK.alloc hHeld _) (fun hHeld2 => ?_)
          clear hK K hHeld
          try simp only [Act.put, List.setIfInBounds_toArray, List.set_cons_zero, List.set_cons_succ]
          have hHeld := hHeld2
          clear hHeld2
          refine wpAnyH_ready (rs := [9]) (by kernel_rfl) (by simp) ?_
          refine (AllReadyH.cons (o := { dst := some 19, op := _, type := _, pos := _, after := _, guard := _ }) rfl (fun K hK => ?o13_17_5_9) AllReadyH.nil)
          case o13_17_5_9 =>
            go_simp
            refine hK.out _ _ (SK.alloc hHeld _) (fun hHeld2 => ?_)
            clear hK K hHeld
            try simp only [Act.put, List.setIfInBounds_toArray, List.set_cons_zero, List.set_cons_succ]
            have hHeld := hHeld2
            clear hHeld2
            refine takeD (i := 18) (oi := { dst := some 28, op := _, type := _, pos := _, after := _, guard := _ }) (d := some 28) (v := ?vvx16a28) rfl rfl (by kernel_rfl) (by kernel_rfl) (by kernel_rfl) ?ddx16a28 (by rfl) ?yyx16a28 hHeld ?rrx16a28
            case ddx16a28 => exact fun _ _ _ h => h
            case yyx16a28 => (intro wx hSw; obtain ⟨y0, y1⟩ := hSw; go_simp; try (with_reducible rfl))
            try simp only [Act.put, List.setIfInBounds_toArray, List.set_cons_zero, List.set_cons_succ]
            refine wpAnyH_ready (rs := [19]) (by kernel_rfl) (by simp) ?_
            refine AllReadyH.cons (o := { dst := some 29, op := _, type := _, pos := _, after := _, guard := _ }) rfl (fun K hK => ?_) AllReadyH.nil
            go_simp
            refine hK.out _ _ (SK.alloc hHeld _) (fun hHeld2 => ?_)
            clear hK K hHeld
            try simp only [Act.put, List.setIfInBounds_toArray, List.set_cons_zero, List.set_cons_succ]
            refine takeD (i := 20) (oi := { dst := some 5, op := _, type := _, pos := _, after := _, guard := _ }) (d := some 5) (v := ?vvx16b5) rfl rfl (by kernel_rfl) (by kernel_rfl) (by kernel_rfl) ?ddx16b5 (by rfl) ?yyx16b5 hHeld2 ?rrx16b5
            case ddx16b5 => exact fun _ _ _ h => h
            case yyx16b5 => (intro wx hSw; obtain ⟨y0, y1⟩ := hSw; go_simp; try (with_reducible rfl))
            try simp only [Act.put, List.setIfInBounds_toArray, List.set_cons_zero, List.set_cons_succ]
            refine wpAnyH_done (by kernel_rfl) ?_ _
            go_wp2_with fail
            go_meet
            refine ⟨_, _, _, _, _, rfl, ⟨Blk.drew (made5 w0 _ _ _ _ _ _).2.2.2.2, ?_, ?_, ?_, ?_, ⟨by omega, by omega, by omega, by omega, by omega, by omega, by omega, by omega, by omega, by omega⟩, by omega, by omega, by omega, by omega, by omega⟩, ?_⟩
            all_goals first | exact OwnF.drew (made5 w0 _ _ _ _ _ _).1 | exact OwnF.drew (made5 w0 _ _ _ _ _ _).2.1 | exact OwnF.drew (made5 w0 _ _ _ _ _ _).2.2.1 | exact OwnF.drew (made5 w0 _ _ _ _ _ _).2.2.2.1 | exact (((((hb0.alloc hs0 _).alloc (by simp; omega) _).alloc (by simp; omega) _).alloc (by simp; omega) _).alloc (by simp; omega) _).drew
        case o13_17_9 =>
          go_simp
          refine hK.out _ _ (SK.alloc hHeld _) (fun hHeld2 => ?_)
          clear hK K hHeld
          try simp only [Act.put, List.setIfInBounds_toArray, List.set_cons_zero, List.set_cons_succ]
          have hHeld := hHeld2
          clear hHeld2
          refine wpAnyH_ready (rs := [5]) (by kernel_rfl) (by simp) ?_
          refine (AllReadyH.cons (o := { dst := some 15, op := _, type := _, pos := _, after := _, guard := _ }) rfl (fun K hK => ?o13_17_9_5) AllReadyH.nil)
          case o13_17_9_5 =>
            go_simp
            refine hK.out _ _ (SK.alloc hHeld _) (fun hHeld2 => ?_)
            clear hK K hHeld
            try simp only [Act.put, List.setIfInBounds_toArray, List.set_cons_zero, List.set_cons_succ]
            have hHeld := hHeld2
            clear hHeld2
            refine takeD (i := 18) (oi := { dst := some 28, op := _, type := _, pos := _, after := _, guard := _ }) (d := some 28) (v := ?vvx17a28) rfl rfl (by kernel_rfl) (by kernel_rfl) (by kernel_rfl) ?ddx17a28 (by rfl) ?yyx17a28 hHeld ?rrx17a28
            case ddx17a28 => exact fun _ _ _ h => h
            case yyx17a28 => (intro wx hSw; obtain ⟨y0, y1⟩ := hSw; go_simp; try (with_reducible rfl))
            try simp only [Act.put, List.setIfInBounds_toArray, List.set_cons_zero, List.set_cons_succ]
            refine wpAnyH_ready (rs := [19]) (by kernel_rfl) (by simp) ?_
            refine AllReadyH.cons (o := { dst := some 29, op := _, type := _, pos := _, after := _, guard := _ }) rfl (fun K hK => ?_) AllReadyH.nil
            go_simp
            refine hK.out _ _ (SK.alloc hHeld _) (fun hHeld2 => ?_)
            clear hK K hHeld
            try simp only [Act.put, List.setIfInBounds_toArray, List.set_cons_zero, List.set_cons_succ]
            refine takeD (i := 20) (oi := { dst := some 5, op := _, type := _, pos := _, after := _, guard := _ }) (d := some 5) (v := ?vvx17b5) rfl rfl (by kernel_rfl) (by kernel_rfl) (by kernel_rfl) ?ddx17b5 (by rfl) ?yyx17b5 hHeld2 ?rrx17b5
            case ddx17b5 => exact fun _ _ _ h => h
            case yyx17b5 => (intro wx hSw; obtain ⟨y0, y1⟩ := hSw; go_simp; try (with_reducible rfl))
            try simp only [Act.put, List.setIfInBounds_toArray, List.set_cons_zero, List.set_cons_succ]
            refine wpAnyH_done (by kernel_rfl) ?_ _
            go_wp2_with fail
            go_meet
            refine ⟨_, _, _, _, _, rfl, ⟨Blk.drew (made5 w0 _ _ _ _ _ _).2.2.2.2, ?_, ?_, ?_, ?_, ⟨by omega, by omega, by omega, by omega, by omega, by omega, by omega, by omega, by omega, by omega⟩, by omega, by omega, by omega, by omega, by omega⟩, ?_⟩
            all_goals first | exact OwnF.drew (made5 w0 _ _ _ _ _ _).1 | exact OwnF.drew (made5 w0 _ _ _ _ _ _).2.1 | exact OwnF.drew (made5 w0 _ _ _ _ _ _).2.2.1 | exact OwnF.drew (made5 w0 _ _ _ _ _ _).2.2.2.1 | exact (((((hb0.alloc hs0 _).alloc (by simp; omega) _).alloc (by simp; omega) _).alloc (by simp; omega) _).alloc (by simp; omega) _).drew
    case o17 =>
      go_simp
      refine hK.out _ _ (SK.alloc hHeld _) (fun hHeld2 => ?_)
      clear hK K hHeld
      try simp only [Act.put, List.setIfInBounds_toArray, List.set_cons_zero, List.set_cons_succ]
      have hHeld := hHeld2
      clear hHeld2
      refine wpAnyH_ready (rs := [5, 9, 13]) (by kernel_rfl) (by simp) ?_
      refine (AllReadyH.cons (o := { dst := some 15, op := _, type := _, pos := _, after := _, guard := _ }) rfl (fun K hK => ?o17_5) (AllReadyH.cons (o := { dst := some 19, op := _, type := _, pos := _, after := _, guard := _ }) rfl (fun K hK => ?o17_9) (AllReadyH.cons (o := { dst := some 23, op := _, type := _, pos := _, after := _, guard := _ }) rfl (fun K hK => ?o17_13) AllReadyH.nil)))
      case o17_5 =>
        go_simp
        refine hK.out _ _ (SK.alloc hHeld _) (fun hHeld2 => ?_)
        clear hK K hHeld
        try simp only [Act.put, List.setIfInBounds_toArray, List.set_cons_zero, List.set_cons_succ]
        have hHeld := hHeld2
        clear hHeld2
        refine wpAnyH_ready (rs := [9, 13]) (by kernel_rfl) (by simp) ?_
        refine (AllReadyH.cons (o := { dst := some 19, op := _, type := _, pos := _, after := _, guard := _ }) rfl (fun K hK => ?o17_5_9) (AllReadyH.cons (o := { dst := some 23, op := _, type := _, pos := _, after := _, guard := _ }) rfl (fun K hK => ?o17_5_13) AllReadyH.nil))
        case o17_5_9 =>
          go_simp
          refine hK.out _ _ (SK.alloc hHeld _) (fun hHeld2 => ?_)
          clear hK K hHeld
          try simp only [Act.put, List.setIfInBounds_toArray, List.set_cons_zero, List.set_cons_succ]
          have hHeld := hHeld2
          clear hHeld2
          refine wpAnyH_ready (rs := [13]) (by kernel_rfl) (by simp) ?_
          refine (AllReadyH.cons (o := { dst := some 23, op := _, type := _, pos := _, after := _, guard := _ }) rfl (fun K hK => ?o17_5_9_13) AllReadyH.nil)
          case o17_5_9_13 =>
            go_simp
            refine hK.out _ _ (SK.alloc hHeld _) (fun hHeld2 => ?_)
            clear hK K hHeld
            try simp only [Act.put, List.setIfInBounds_toArray, List.set_cons_zero, List.set_cons_succ]
            have hHeld := hHeld2
            clear hHeld2
            refine takeD (i := 18) (oi := { dst := some 28, op := _, type := _, pos := _, after := _, guard := _ }) (d := some 28) (v := ?vvx18a28) rfl rfl (by kernel_rfl) (by kernel_rfl) (by kernel_rfl) ?ddx18a28 (by rfl) ?yyx18a28 hHeld ?rrx18a28
            case ddx18a28 => exact fun _ _ _ h => h
            case yyx18a28 => (intro wx hSw; obtain ⟨y0, y1⟩ := hSw; go_simp; try (with_reducible rfl))
            try simp only [Act.put, List.setIfInBounds_toArray, List.set_cons_zero, List.set_cons_succ]
            refine wpAnyH_ready (rs := [19]) (by kernel_rfl) (by simp) ?_
            refine AllReadyH.cons (o := { dst := some 29, op := _, type := _, pos := _, after := _, guard := _ }) rfl (fun K hK => ?_) AllReadyH.nil
            go_simp
            refine hK.out _ _ (SK.alloc hHeld _) (fun hHeld2 => ?_)
            clear hK K hHeld
            try simp only [Act.put, List.setIfInBounds_toArray, List.set_cons_zero, List.set_cons_succ]
            refine takeD (i := 20) (oi := { dst := some 5, op := _, type := _, pos := _, after := _, guard := _ }) (d := some 5) (v := ?vvx18b5) rfl rfl (by kernel_rfl) (by kernel_rfl) (by kernel_rfl) ?ddx18b5 (by rfl) ?yyx18b5 hHeld2 ?rrx18b5
            case ddx18b5 => exact fun _ _ _ h => h
            case yyx18b5 => (intro wx hSw; obtain ⟨y0, y1⟩ := hSw; go_simp; try (with_reducible rfl))
            try simp only [Act.put, List.setIfInBounds_toArray, List.set_cons_zero, List.set_cons_succ]
            refine wpAnyH_done (by kernel_rfl) ?_ _
            go_wp2_with fail
            go_meet
            refine ⟨_, _, _, _, _, rfl, ⟨Blk.drew (made5 w0 _ _ _ _ _ _).2.2.2.2, ?_, ?_, ?_, ?_, ⟨by omega, by omega, by omega, by omega, by omega, by omega, by omega, by omega, by omega, by omega⟩, by omega, by omega, by omega, by omega, by omega⟩, ?_⟩
            all_goals first | exact OwnF.drew (made5 w0 _ _ _ _ _ _).1 | exact OwnF.drew (made5 w0 _ _ _ _ _ _).2.1 | exact OwnF.drew (made5 w0 _ _ _ _ _ _).2.2.1 | exact OwnF.drew (made5 w0 _ _ _ _ _ _).2.2.2.1 | exact (((((hb0.alloc hs0 _).alloc (by simp; omega) _).alloc (by simp; omega) _).alloc (by simp; omega) _).alloc (by simp; omega) _).drew
        case o17_5_13 =>
          go_simp
          refine hK.out _ _ (SK.alloc hHeld _) (fun hHeld2 => ?_)
          clear hK K hHeld
          try simp only [Act.put, List.setIfInBounds_toArray, List.set_cons_zero, List.set_cons_succ]
          have hHeld := hHeld2
          clear hHeld2
          refine wpAnyH_ready (rs := [9]) (by kernel_rfl) (by simp) ?_
          refine (AllReadyH.cons (o := { dst := some 19, op := _, type := _, pos := _, after := _, guard := _ }) rfl (fun K hK => ?o17_5_13_9) AllReadyH.nil)
          case o17_5_13_9 =>
            go_simp
            refine hK.out _ _ (SK.alloc hHeld _) (fun hHeld2 => ?_)
            clear hK K hHeld
            try simp only [Act.put, List.setIfInBounds_toArray, List.set_cons_zero, List.set_cons_succ]
            have hHeld := hHeld2
            clear hHeld2
            refine takeD (i := 18) (oi := { dst := some 28, op := _, type := _, pos := _, after := _, guard := _ }) (d := some 28) (v := ?vvx19a28) rfl rfl (by kernel_rfl) (by kernel_rfl) (by kernel_rfl) ?ddx19a28 (by rfl) ?yyx19a28 hHeld ?rrx19a28
            case ddx19a28 => exact fun _ _ _ h => h
            case yyx19a28 => (intro wx hSw; obtain ⟨y0, y1⟩ := hSw; go_simp; try (with_reducible rfl))
            try simp only [Act.put, List.setIfInBounds_toArray, List.set_cons_zero, List.set_cons_succ]
            refine wpAnyH_ready (rs := [19]) (by kernel_rfl) (by simp) ?_
            refine AllReadyH.cons (o := { dst := some 29, op := _, type := _, pos := _, after := _, guard := _ }) rfl (fun K hK => ?_) AllReadyH.nil
            go_simp
            refine hK.out _ _ (SK.alloc hHeld _) (fun hHeld2 => ?_)
            clear hK K hHeld
            try simp only [Act.put, List.setIfInBounds_toArray, List.set_cons_zero, List.set_cons_succ]
            refine takeD (i := 20) (oi := { dst := some 5, op := _, type := _, pos := _, after := _, guard := _ }) (d := some 5) (v := ?vvx19b5) rfl rfl (by kernel_rfl) (by kernel_rfl) (by kernel_rfl) ?ddx19b5 (by rfl) ?yyx19b5 hHeld2 ?rrx19b5
            case ddx19b5 => exact fun _ _ _ h => h
            case yyx19b5 => (intro wx hSw; obtain ⟨y0, y1⟩ := hSw; go_simp; try (with_reducible rfl))
            try simp only [Act.put, List.setIfInBounds_toArray, List.set_cons_zero, List.set_cons_succ]
            refine wpAnyH_done (by kernel_rfl) ?_ _
            go_wp2_with fail
            go_meet
            refine ⟨_, _, _, _, _, rfl, ⟨Blk.drew (made5 w0 _ _ _ _ _ _).2.2.2.2, ?_, ?_, ?_, ?_, ⟨by omega, by omega, by omega, by omega, by omega, by omega, by omega, by omega, by omega, by omega⟩, by omega, by omega, by omega, by omega, by omega⟩, ?_⟩
            all_goals first | exact OwnF.drew (made5 w0 _ _ _ _ _ _).1 | exact OwnF.drew (made5 w0 _ _ _ _ _ _).2.1 | exact OwnF.drew (made5 w0 _ _ _ _ _ _).2.2.1 | exact OwnF.drew (made5 w0 _ _ _ _ _ _).2.2.2.1 | exact (((((hb0.alloc hs0 _).alloc (by simp; omega) _).alloc (by simp; omega) _).alloc (by simp; omega) _).alloc (by simp; omega) _).drew
      case o17_9 =>
        go_simp
        refine hK.out _ _ (SK.alloc hHeld _) (fun hHeld2 => ?_)
        clear hK K hHeld
        try simp only [Act.put, List.setIfInBounds_toArray, List.set_cons_zero, List.set_cons_succ]
        have hHeld := hHeld2
        clear hHeld2
        refine wpAnyH_ready (rs := [5, 13]) (by kernel_rfl) (by simp) ?_
        refine (AllReadyH.cons (o := { dst := some 15, op := _, type := _, pos := _, after := _, guard := _ }) rfl (fun K hK => ?o17_9_5) (AllReadyH.cons (o := { dst := some 23, op := _, type := _, pos := _, after := _, guard := _ }) rfl (fun K hK => ?o17_9_13) AllReadyH.nil))
        case o17_9_5 =>
          go_simp
          refine hK.out _ _ (SK.alloc hHeld _) (fun hHeld2 => ?_)
          clear hK K hHeld
          try simp only [Act.put, List.setIfInBounds_toArray, List.set_cons_zero, List.set_cons_succ]
          have hHeld := hHeld2
          clear hHeld2
          refine wpAnyH_ready (rs := [13]) (by kernel_rfl) (by simp) ?_
          refine (AllReadyH.cons (o := { dst := some 23, op := _, type := _, pos := _, after := _, guard := _ }) rfl (fun K hK => ?o17_9_5_13) AllReadyH.nil)
          case o17_9_5_13 =>
            go_simp
            refine hK.out _ _ (SK.alloc hHeld _) (fun hHeld2 => ?_)
            clear hK K hHeld
            try simp only [Act.put, List.setIfInBounds_toArray, List.set_cons_zero, List.set_cons_succ]
            have hHeld := hHeld2
            clear hHeld2
            refine takeD (i := 18) (oi := { dst := some 28, op := _, type := _, pos := _, after := _, guard := _ }) (d := some 28) (v := ?vvx20a28) rfl rfl (by kernel_rfl) (by kernel_rfl) (by kernel_rfl) ?ddx20a28 (by rfl) ?yyx20a28 hHeld ?rrx20a28
            case ddx20a28 => exact fun _ _ _ h => h
            case yyx20a28 => (intro wx hSw; obtain ⟨y0, y1⟩ := hSw; go_simp; try (with_reducible rfl))
            try simp only [Act.put, List.setIfInBounds_toArray, List.set_cons_zero, List.set_cons_succ]
            refine wpAnyH_ready (rs := [19]) (by kernel_rfl) (by simp) ?_
            refine AllReadyH.cons (o := { dst := some 29, op := _, type := _, pos := _, after := _, guard := _ }) rfl (fun K hK => ?_) AllReadyH.nil
            go_simp
            refine hK.out _ _ (SK.alloc hHeld _) (fun hHeld2 => ?_)
            clear hK K hHeld
            try simp only [Act.put, List.setIfInBounds_toArray, List.set_cons_zero, List.set_cons_succ]
            refine takeD (i := 20) (oi := { dst := some 5, op := _, type := _, pos := _, after := _, guard := _ }) (d := some 5) (v := ?vvx20b5) rfl rfl (by kernel_rfl) (by kernel_rfl) (by kernel_rfl) ?ddx20b5 (by rfl) ?yyx20b5 hHeld2 ?rrx20b5
            case ddx20b5 => exact fun _ _ _ h => h
            case yyx20b5 => (intro wx hSw; obtain ⟨y0, y1⟩ := hSw; go_simp; try (with_reducible rfl))
            try simp only [Act.put, List.setIfInBounds_toArray, List.set_cons_zero, List.set_cons_succ]
            refine wpAnyH_done (by kernel_rfl) ?_ _
            go_wp2_with fail
            go_meet
            refine ⟨_, _, _, _, _, rfl, ⟨Blk.drew (made5 w0 _ _ _ _ _ _).2.2.2.2, ?_, ?_, ?_, ?_, ⟨by omega, by omega, by omega, by omega, by omega, by omega, by omega, by omega, by omega, by omega⟩, by omega, by omega, by omega, by omega, by omega⟩, ?_⟩
            all_goals first | exact OwnF.drew (made5 w0 _ _ _ _ _ _).1 | exact OwnF.drew (made5 w0 _ _ _ _ _ _).2.1 | exact OwnF.drew (made5 w0 _ _ _ _ _ _).2.2.1 | exact OwnF.drew (made5 w0 _ _ _ _ _ _).2.2.2.1 | exact (((((hb0.alloc hs0 _).alloc (by simp; omega) _).alloc (by simp; omega) _).alloc (by simp; omega) _).alloc (by simp; omega) _).drew
        case o17_9_13 =>
          go_simp
          refine hK.out _ _ (SK.alloc hHeld _) (fun hHeld2 => ?_)
          clear hK K hHeld
          try simp only [Act.put, List.setIfInBounds_toArray, List.set_cons_zero, List.set_cons_succ]
          have hHeld := hHeld2
          clear hHeld2
          refine wpAnyH_ready (rs := [5]) (by kernel_rfl) (by simp) ?_
          refine (AllReadyH.cons (o := { dst := some 15, op := _, type := _, pos := _, after := _, guard := _ }) rfl (fun K hK => ?o17_9_13_5) AllReadyH.nil)
          case o17_9_13_5 =>
            go_simp
            refine hK.out _ _ (SK.alloc hHeld _) (fun hHeld2 => ?_)
            clear hK K hHeld
            try simp only [Act.put, List.setIfInBounds_toArray, List.set_cons_zero, List.set_cons_succ]
            have hHeld := hHeld2
            clear hHeld2
            refine takeD (i := 18) (oi := { dst := some 28, op := _, type := _, pos := _, after := _, guard := _ }) (d := some 28) (v := ?vvx21a28) rfl rfl (by kernel_rfl) (by kernel_rfl) (by kernel_rfl) ?ddx21a28 (by rfl) ?yyx21a28 hHeld ?rrx21a28
            case ddx21a28 => exact fun _ _ _ h => h
            case yyx21a28 => (intro wx hSw; obtain ⟨y0, y1⟩ := hSw; go_simp; try (with_reducible rfl))
            try simp only [Act.put, List.setIfInBounds_toArray, List.set_cons_zero, List.set_cons_succ]
            refine wpAnyH_ready (rs := [19]) (by kernel_rfl) (by simp) ?_
            refine AllReadyH.cons (o := { dst := some 29, op := _, type := _, pos := _, after := _, guard := _ }) rfl (fun K hK => ?_) AllReadyH.nil
            go_simp
            refine hK.out _ _ (SK.alloc hHeld _) (fun hHeld2 => ?_)
            clear hK K hHeld
            try simp only [Act.put, List.setIfInBounds_toArray, List.set_cons_zero, List.set_cons_succ]
            refine takeD (i := 20) (oi := { dst := some 5, op := _, type := _, pos := _, after := _, guard := _ }) (d := some 5) (v := ?vvx21b5) rfl rfl (by kernel_rfl) (by kernel_rfl) (by kernel_rfl) ?ddx21b5 (by rfl) ?yyx21b5 hHeld2 ?rrx21b5
            case ddx21b5 => exact fun _ _ _ h => h
            case yyx21b5 => (intro wx hSw; obtain ⟨y0, y1⟩ := hSw; go_simp; try (with_reducible rfl))
            try simp only [Act.put, List.setIfInBounds_toArray, List.set_cons_zero, List.set_cons_succ]
            refine wpAnyH_done (by kernel_rfl) ?_ _
            go_wp2_with fail
            go_meet
            refine ⟨_, _, _, _, _, rfl, ⟨Blk.drew (made5 w0 _ _ _ _ _ _).2.2.2.2, ?_, ?_, ?_, ?_, ⟨by omega, by omega, by omega, by omega, by omega, by omega, by omega, by omega, by omega, by omega⟩, by omega, by omega, by omega, by omega, by omega⟩, ?_⟩
            all_goals first | exact OwnF.drew (made5 w0 _ _ _ _ _ _).1 | exact OwnF.drew (made5 w0 _ _ _ _ _ _).2.1 | exact OwnF.drew (made5 w0 _ _ _ _ _ _).2.2.1 | exact OwnF.drew (made5 w0 _ _ _ _ _ _).2.2.2.1 | exact (((((hb0.alloc hs0 _).alloc (by simp; omega) _).alloc (by simp; omega) _).alloc (by simp; omega) _).alloc (by simp; omega) _).drew
      case o17_13 =>
        go_simp
        refine hK.out _ _ (SK.alloc hHeld _) (fun hHeld2 => ?_)
        clear hK K hHeld
        try simp only [Act.put, List.setIfInBounds_toArray, List.set_cons_zero, List.set_cons_succ]
        have hHeld := hHeld2
        clear hHeld2
        refine wpAnyH_ready (rs := [5, 9]) (by kernel_rfl) (by simp) ?_
        refine (AllReadyH.cons (o := { dst := some 15, op := _, type := _, pos := _, after := _, guard := _ }) rfl (fun K hK => ?o17_13_5) (AllReadyH.cons (o := { dst := some 19, op := _, type := _, pos := _, after := _, guard := _ }) rfl (fun K hK => ?o17_13_9) AllReadyH.nil))
        case o17_13_5 =>
          go_simp
          refine hK.out _ _ (SK.alloc hHeld _) (fun hHeld2 => ?_)
          clear hK K hHeld
          try simp only [Act.put, List.setIfInBounds_toArray, List.set_cons_zero, List.set_cons_succ]
          have hHeld := hHeld2
          clear hHeld2
          refine wpAnyH_ready (rs := [9]) (by kernel_rfl) (by simp) ?_
          refine (AllReadyH.cons (o := { dst := some 19, op := _, type := _, pos := _, after := _, guard := _ }) rfl (fun K hK => ?o17_13_5_9) AllReadyH.nil)
          case o17_13_5_9 =>
            go_simp
            refine hK.out _ _ (SK.alloc hHeld _) (fun hHeld2 => ?_)
            clear hK K hHeld
            try simp only [Act.put, List.setIfInBounds_toArray, List.set_cons_zero, List.set_cons_succ]
            have hHeld := hHeld2
            clear hHeld2
            refine takeD (i := 18) (oi := { dst := some 28, op := _, type := _, pos := _, after := _, guard := _ }) (d := some 28) (v := ?vvx22a28) rfl rfl (by kernel_rfl) (by kernel_rfl) (by kernel_rfl) ?ddx22a28 (by rfl) ?yyx22a28 hHeld ?rrx22a28
            case ddx22a28 => exact fun _ _ _ h => h
            case yyx22a28 => (intro wx hSw; obtain ⟨y0, y1⟩ := hSw; go_simp; try (with_reducible rfl))
            try simp only [Act.put, List.setIfInBounds_toArray, List.set_cons_zero, List.set_cons_succ]
            refine wpAnyH_ready (rs := [19]) (by kernel_rfl) (by simp) ?_
            refine AllReadyH.cons (o := { dst := some 29, op := _, type := _, pos := _, after := _, guard := _ }) rfl (fun K hK => ?_) AllReadyH.nil
            go_simp
            refine hK.out _ _ (SK.alloc hHeld _) (fun hHeld2 => ?_)
            clear hK K hHeld
            try simp only [Act.put, List.setIfInBounds_toArray, List.set_cons_zero, List.set_cons_succ]
            refine takeD (i := 20) (oi := { dst := some 5, op := _, type := _, pos := _, after := _, guard := _ }) (d := some 5) (v := ?vvx22b5) rfl rfl (by kernel_rfl) (by kernel_rfl) (by kernel_rfl) ?ddx22b5 (by rfl) ?yyx22b5 hHeld2 ?rrx22b5
            case ddx22b5 => exact fun _ _ _ h => h
            case yyx22b5 => (intro wx hSw; obtain ⟨y0, y1⟩ := hSw; go_simp; try (with_reducible rfl))
            try simp only [Act.put, List.setIfInBounds_toArray, List.set_cons_zero, List.set_cons_succ]
            refine wpAnyH_done (by kernel_rfl) ?_ _
            go_wp2_with fail
            go_meet
            refine ⟨_, _, _, _, _, rfl, ⟨Blk.drew (made5 w0 _ _ _ _ _ _).2.2.2.2, ?_, ?_, ?_, ?_, ⟨by omega, by omega, by omega, by omega, by omega, by omega, by omega, by omega, by omega, by omega⟩, by omega, by omega, by omega, by omega, by omega⟩, ?_⟩
            all_goals first | exact OwnF.drew (made5 w0 _ _ _ _ _ _).1 | exact OwnF.drew (made5 w0 _ _ _ _ _ _).2.1 | exact OwnF.drew (made5 w0 _ _ _ _ _ _).2.2.1 | exact OwnF.drew (made5 w0 _ _ _ _ _ _).2.2.2.1 | exact (((((hb0.alloc hs0 _).alloc (by simp; omega) _).alloc (by simp; omega) _).alloc (by simp; omega) _).alloc (by simp; omega) _).drew
        case o17_13_9 =>
          go_simp
          refine hK.out _ _ (SK.alloc hHeld _) (fun hHeld2 => ?_)
          clear hK K hHeld
          try simp only [Act.put, List.setIfInBounds_toArray, List.set_cons_zero, List.set_cons_succ]
          have hHeld := hHeld2
          clear hHeld2
          refine wpAnyH_ready (rs := [5]) (by kernel_rfl) (by simp) ?_
          refine (AllReadyH.cons (o := { dst := some 15, op := _, type := _, pos := _, after := _, guard := _ }) rfl (fun K hK => ?o17_13_9_5) AllReadyH.nil)
          case o17_13_9_5 =>
            go_simp
            refine hK.out _ _ (SK.alloc hHeld _) (fun hHeld2 => ?_)
            clear hK K hHeld
            try simp only [Act.put, List.setIfInBounds_toArray, List.set_cons_zero, List.set_cons_succ]
            have hHeld := hHeld2
            clear hHeld2
            refine takeD (i := 18) (oi := { dst := some 28, op := _, type := _, pos := _, after := _, guard := _ }) (d := some 28) (v := ?vvx23a28) rfl rfl (by kernel_rfl) (by kernel_rfl) (by kernel_rfl) ?ddx23a28 (by rfl) ?yyx23a28 hHeld ?rrx23a28
            case ddx23a28 => exact fun _ _ _ h => h
            case yyx23a28 => (intro wx hSw; obtain ⟨y0, y1⟩ := hSw; go_simp; try (with_reducible rfl))
            try simp only [Act.put, List.setIfInBounds_toArray, List.set_cons_zero, List.set_cons_succ]
            refine wpAnyH_ready (rs := [19]) (by kernel_rfl) (by simp) ?_
            refine AllReadyH.cons (o := { dst := some 29, op := _, type := _, pos := _, after := _, guard := _ }) rfl (fun K hK => ?_) AllReadyH.nil
            go_simp
            refine hK.out _ _ (SK.alloc hHeld _) (fun hHeld2 => ?_)
            clear hK K hHeld
            try simp only [Act.put, List.setIfInBounds_toArray, List.set_cons_zero, List.set_cons_succ]
            refine takeD (i := 20) (oi := { dst := some 5, op := _, type := _, pos := _, after := _, guard := _ }) (d := some 5) (v := ?vvx23b5) rfl rfl (by kernel_rfl) (by kernel_rfl) (by kernel_rfl) ?ddx23b5 (by rfl) ?yyx23b5 hHeld2 ?rrx23b5
            case ddx23b5 => exact fun _ _ _ h => h
            case yyx23b5 => (intro wx hSw; obtain ⟨y0, y1⟩ := hSw; go_simp; try (with_reducible rfl))
            try simp only [Act.put, List.setIfInBounds_toArray, List.set_cons_zero, List.set_cons_succ]
            refine wpAnyH_done (by kernel_rfl) ?_ _
            go_wp2_with fail
            go_meet
            refine ⟨_, _, _, _, _, rfl, ⟨Blk.drew (made5 w0 _ _ _ _ _ _).2.2.2.2, ?_, ?_, ?_, ?_, ⟨by omega, by omega, by omega, by omega, by omega, by omega, by omega, by omega, by omega, by omega⟩, by omega, by omega, by omega, by omega, by omega⟩, ?_⟩
            all_goals first | exact OwnF.drew (made5 w0 _ _ _ _ _ _).1 | exact OwnF.drew (made5 w0 _ _ _ _ _ _).2.1 | exact OwnF.drew (made5 w0 _ _ _ _ _ _).2.2.1 | exact OwnF.drew (made5 w0 _ _ _ _ _ _).2.2.2.1 | exact (((((hb0.alloc hs0 _).alloc (by simp; omega) _).alloc (by simp; omega) _).alloc (by simp; omega) _).alloc (by simp; omega) _).drew
  case rest =>
  obtain ⟨m, gw, gg, gy, gb, rfl, hraw, hbel⟩ := hcut
  have HRAW := Lib.hid hraw
  have HBE := Lib.hid hbel
  have hs0' : w.heap.size ≤ w0.heap.size := hs0
  clear hm1 hm2 hraw hbel b0 hb0 hs0 hs0'
  obtain ⟨_, _, _, _, _, ⟨n1, n2, n3, n4, n5, n6, n7, n8, n9, n10⟩, hB0, hB1, hB2, hB3, hB4⟩ := HRAW.out
  go_wp2_with fail
  go_loopw [32] (fun ix wr => ∃ (i : Nat) (fw fg fy : Nat → Int), ix = .int .i64 i ∧ i ≤ n ∧ Raw wr n aP cP aW nw cW D w.heap.size m gw gg gy gb fw fg fy (fun _ => 0) ∧ (∀ j, j ≤ i → fw j = wdF L j ∧ fg j = grF L j ∧ fy j = ylF L j) ∧ Below w.heap.size w wr) (fun ix _ => n - (intOf ix).toNat)
  case atStart => exact ⟨0, _, _, _, rfl, Nat.zero_le _, HRAW.out, (fun j hj => (by rw [show j = 0 by omega]; exact ⟨rfl, rfl, rfl⟩)), HBE.out⟩
  case round =>
    clear HRAW HBE
    obtain ⟨i, fw, fg, fy, rfl, hi, hraw, hf, hbel⟩ := hrel
    have HF := Lib.hid hf
    have hsz := hbel.size
    obtain ⟨hBm, hOw, hOg, hOy, hOb, _⟩ := id hraw
    have HBM := Lib.hid hBm
    have HOW := Lib.hid hOw
    have HOG := Lib.hid hOg
    have HOY := Lib.hid hOy
    have HOB := Lib.hid hOb
    clear hf hraw hBm hOw hOg hOy hOb
    by_cases hin : i < n
    · have hpc := HA.out.below (Nat.le_refl _) hbel
      have mP := hpc
      have hok := HOK.out
      clear hpc
      obtain ⟨b, off, rfl, hcell⟩ := mP (by omega)
      have d0 : wr.cell? ⟨b, off + i * 6 + 0, none⟩ = some ((L i).V 0) := hcell i (by omega) 0 (by omega)
      have d1 : wr.cell? ⟨b, off + i * 6 + 1, none⟩ = some ((L i).V 1) := hcell i (by omega) 1 (by omega)
      have d2 : wr.cell? ⟨b, off + i * 6 + 2, none⟩ = some ((L i).V 2) := hcell i (by omega) 2 (by omega)
      have d3 : wr.cell? ⟨b, off + i * 6 + 3, none⟩ = some ((L i).V 3) := hcell i (by omega) 3 (by omega)
      have d4 : wr.cell? ⟨b, off + i * 6 + 4, none⟩ = some ((L i).V 4) := hcell i (by omega) 4 (by omega)
      have d5 : wr.cell? ⟨b, off + i * 6 + 5, none⟩ = some ((L i).V 5) := hcell i (by omega) 5 (by omega)
      obtain ⟨p, hp⟩ : ∃ p, p = L i := ⟨_, rfl⟩
      rw [← hp] at d0 d1 d2 d3 d4 d5
      have HP := Lib.hid hp
      have zb := lt_of_cell d0
      simp only at zb
      clear hp
      obtain ⟨K, Wi, S, R, C, F⟩ := p
      simp only [Part.V] at d0 d1 d2 d3 d4 d5
      rw [Nat.add_zero] at d0
      have hpo := hok i hin
      rw [← HP.out] at hpo
      have hw1 := hpo.width
      have hs1 := hpo.stretch
      have hr1 := hpo.shrink
      simp only at hw1 hs1 hr1
      have sm := sums hok i (by omega)
      have HOKI := Lib.hid hpo
      obtain ⟨e1, e2, e3⟩ := HF.out i (Nat.le_refl _)
      rw [← e1, ← e2, ← e3] at sm
      clear hcell mP hok hpo e1 e2 e3
      obtain ⟨vw, hvw⟩ : ∃ v, v = fw i := ⟨_, rfl⟩
      obtain ⟨vg, hvg⟩ : ∃ v, v = fg i := ⟨_, rfl⟩
      obtain ⟨vy, hvy⟩ : ∃ v, v = fy i := ⟨_, rfl⟩
      rw [← hvw, ← hvg, ← hvy] at sm
      have HVW := Lib.hid hvw
      have HVG := Lib.hid hvg
      have HVY := Lib.hid hvy
      clear hvw hvg hvy
      have zm0 := HBM.out.lt
      go_wp2_with fail
      obtain ⟨w1, hw1'⟩ : ∃ w1, w1 = wr.alloc (Obj.cells #[.int .i64 K, .int .i64 Wi, .int .i64 S, .int .i64 R, .int .i64 C, .bool F] 108) := ⟨_, rfl⟩
      have q1 : Blk w1 wr.heap.size #[.int .i64 K, .int .i64 Wi, .int .i64 S, .int .i64 R, .int .i64 C, .bool F] 108 := by rw [hw1']; exact Blk.new _ _ _
      have b1 := HBM.out.alloc (Obj.cells #[.int .i64 K, .int .i64 Wi, .int .i64 S, .int .i64 R, .int .i64 C, .bool F] 108)
      have ow1 := OwnF.alloc HOW.out (Obj.cells #[.int .i64 K, .int .i64 Wi, .int .i64 S, .int .i64 R, .int .i64 C, .bool F] 108)
      have og1 := OwnF.alloc HOG.out (Obj.cells #[.int .i64 K, .int .i64 Wi, .int .i64 S, .int .i64 R, .int .i64 C, .bool F] 108)
      have oy1 := OwnF.alloc HOY.out (Obj.cells #[.int .i64 K, .int .i64 Wi, .int .i64 S, .int .i64 R, .int .i64 C, .bool F] 108)
      have ob1 := OwnF.alloc HOB.out (Obj.cells #[.int .i64 K, .int .i64 Wi, .int .i64 S, .int .i64 R, .int .i64 C, .bool F] 108)
      rw [← hw1'] at b1 ow1 og1 oy1 ob1
      have hbl1 : Below w.heap.size w w1 := by rw [hw1']; exact hbel.alloc hsz _
      rw [← hw1']
      obtain ⟨q, hq⟩ : ∃ q, q = wr.heap.size := ⟨_, rfl⟩
      have k1 : gw ≠ q := by rw [hq]; exact Nat.ne_of_lt (OwnF.lt HOW.out)
      have k2 : gg ≠ q := by rw [hq]; exact Nat.ne_of_lt (OwnF.lt HOG.out)
      have k3 : gy ≠ q := by rw [hq]; exact Nat.ne_of_lt (OwnF.lt HOY.out)
      have k4 : gb ≠ q := by rw [hq]; exact Nat.ne_of_lt (OwnF.lt HOB.out)
      have k5 : m ≠ q := by rw [hq]; exact Nat.ne_of_lt HBM.out.lt
      rw [← hq] at q1 ⊢
      have hwq : w.heap.size ≤ q := by rw [hq]; exact hsz
      clear hw1' hq d0 d1 d2 d3 d4 d5 zb HBM HOW HOG HOY HOB zm0 hbel
      have hST : SP m gw gg gy q n i vw vg vy K Wi S R C F w1.drew := SP.of b1.drew (OwnF.drew ow1) (OwnF.drew og1) (OwnF.drew oy1) q1.drew (by omega) HVW.out.symm HVG.out.symm HVY.out.symm
      have f1 : IntKind.i64.wrap ((i : Int) + 1) = (i : Int) + 1 := IntWalk.i64_in _ ⟨by omega, by omega⟩
      have f2 : IntKind.i64.wrap (vg + S) = vg + S := IntWalk.i64_in _ ⟨by omega, by omega⟩
      have f3 : IntKind.i64.wrap (vy + R) = vy + R := IntWalk.i64_in _ ⟨by omega, by omega⟩
      have i1 : (i : Int) < (n : Int) + 1 := by omega
      have i2 : (i : Int) + 1 < (n : Int) + 1 := by omega
      have i3 : ((i : Int) + 1).toNat = i + 1 := by omega
      have i4 : 0 ≤ (i : Int) + 1 := by omega
      refine wp_region_held_drew (S := SP m gw gg gy q n i vw vg vy K Wi S R C F) (by kernel_rfl) hST ?_
      intro hHeld
      refine takeD (i := 0) (oi := { dst := some 37, op := _, type := _, pos := _, after := _, guard := _ }) (d := some 37) (v := ?vvc37) rfl rfl (by kernel_rfl) (by kernel_rfl) (by kernel_rfl) ?ddc37 (by rfl) ?yyc37 hHeld ?rrc37
      case ddc37 => exact fun _ _ _ h => h
      case yyc37 => (intro wx hSw; obtain ⟨y0, y1, y2, y3, y4, y5, y6, y7, y8, y9, y10, y11⟩ := hSw; go_simp; try (with_reducible rfl))
      try simp only [Act.put, List.setIfInBounds_toArray, List.set_cons_zero, List.set_cons_succ]
      refine takeD (i := 1) (oi := { dst := some 38, op := _, type := _, pos := _, after := _, guard := _ }) (d := some 38) (v := ?vvc38) rfl rfl (by kernel_rfl) (by kernel_rfl) (by kernel_rfl) ?ddc38 (by rfl) ?yyc38 hHeld ?rrc38
      case ddc38 => exact fun _ _ _ h => h
      case yyc38 => (intro wx hSw; obtain ⟨y0, y1, y2, y3, y4, y5, y6, y7, y8, y9, y10, y11⟩ := hSw; go_simp; try (with_reducible rfl))
      try simp only [Act.put, List.setIfInBounds_toArray, List.set_cons_zero, List.set_cons_succ]
      refine takeD (i := 2) (oi := { dst := some 39, op := _, type := _, pos := _, after := _, guard := _ }) (d := some 39) (v := ?vvc39) rfl rfl (by kernel_rfl) (by kernel_rfl) (by kernel_rfl) ?ddc39 (by rfl) ?yyc39 hHeld ?rrc39
      case ddc39 => exact fun _ _ _ h => h
      case yyc39 => (intro wx hSw; obtain ⟨y0, y1, y2, y3, y4, y5, y6, y7, y8, y9, y10, y11⟩ := hSw; go_simp; try (with_reducible rfl))
      try simp only [Act.put, List.setIfInBounds_toArray, List.set_cons_zero, List.set_cons_succ]
      refine takeD (i := 3) (oi := { dst := some 40, op := _, type := _, pos := _, after := _, guard := _ }) (d := some 40) (v := ?vvc40) rfl rfl (by kernel_rfl) (by kernel_rfl) (by kernel_rfl) ?ddc40 (by rfl) ?yyc40 hHeld ?rrc40
      case ddc40 => exact fun _ _ _ h => h
      case yyc40 => (intro wx hSw; obtain ⟨y0, y1, y2, y3, y4, y5, y6, y7, y8, y9, y10, y11⟩ := hSw; go_simp; try (with_reducible rfl))
      try simp only [Act.put, List.setIfInBounds_toArray, List.set_cons_zero, List.set_cons_succ]
      refine takeD (i := 4) (oi := { dst := some 41, op := _, type := _, pos := _, after := _, guard := _ }) (d := some 41) (v := ?vvc41) rfl rfl (by kernel_rfl) (by kernel_rfl) (by kernel_rfl) ?ddc41 (by rfl) ?yyc41 hHeld ?rrc41
      case ddc41 => exact fun _ _ _ h => h
      case yyc41 => (intro wx hSw; obtain ⟨y0, y1, y2, y3, y4, y5, y6, y7, y8, y9, y10, y11⟩ := hSw; go_simp; try (with_reducible rfl))
      try simp only [Act.put, List.setIfInBounds_toArray, List.set_cons_zero, List.set_cons_succ]
      refine takeD (i := 5) (oi := { dst := some 42, op := _, type := _, pos := _, after := _, guard := _ }) (d := some 42) (v := ?vvc42) rfl rfl (by kernel_rfl) (by kernel_rfl) (by kernel_rfl) ?ddc42 (by rfl) ?yyc42 hHeld ?rrc42
      case ddc42 => exact fun _ _ _ h => h
      case yyc42 => (intro wx hSw; obtain ⟨y0, y1, y2, y3, y4, y5, y6, y7, y8, y9, y10, y11⟩ := hSw; go_simp; try (with_reducible rfl))
      try simp only [Act.put, List.setIfInBounds_toArray, List.set_cons_zero, List.set_cons_succ]
      refine takeD (i := 6) (oi := { dst := some 43, op := _, type := _, pos := _, after := _, guard := _ }) (d := some 43) (v := ?vvc43) rfl rfl (by kernel_rfl) (by kernel_rfl) (by kernel_rfl) ?ddc43 (by rfl) ?yyc43 hHeld ?rrc43
      case ddc43 => exact fun _ _ _ h => h
      case yyc43 => (intro wx hSw; obtain ⟨y0, y1, y2, y3, y4, y5, y6, y7, y8, y9, y10, y11⟩ := hSw; go_simp; try (with_reducible rfl))
      try simp only [Act.put, List.setIfInBounds_toArray, List.set_cons_zero, List.set_cons_succ]
      refine takeD (i := 7) (oi := { dst := some 44, op := _, type := _, pos := _, after := _, guard := _ }) (d := some 44) (v := ?vvc44) rfl rfl (by kernel_rfl) (by kernel_rfl) (by kernel_rfl) ?ddc44 (by rfl) ?yyc44 hHeld ?rrc44
      case ddc44 => exact fun _ _ _ h => h
      case yyc44 => (intro wx hSw; obtain ⟨y0, y1, y2, y3, y4, y5, y6, y7, y8, y9, y10, y11⟩ := hSw; go_simp; try (with_reducible rfl))
      try simp only [Act.put, List.setIfInBounds_toArray, List.set_cons_zero, List.set_cons_succ]
      refine takeD (i := 8) (oi := { dst := some 45, op := _, type := _, pos := _, after := _, guard := _ }) (d := some 45) (v := ?vvc45) rfl rfl (by kernel_rfl) (by kernel_rfl) (by kernel_rfl) ?ddc45 (by rfl) ?yyc45 hHeld ?rrc45
      case ddc45 => exact fun _ _ _ h => h
      case yyc45 => (intro wx hSw; obtain ⟨y0, y1, y2, y3, y4, y5, y6, y7, y8, y9, y10, y11⟩ := hSw; go_simp; try (with_reducible rfl))
      try simp only [Act.put, List.setIfInBounds_toArray, List.set_cons_zero, List.set_cons_succ]
      refine takeD (i := 9) (oi := { dst := some 46, op := _, type := _, pos := _, after := _, guard := _ }) (d := some 46) (v := ?vvc46) rfl rfl (by kernel_rfl) (by kernel_rfl) (by kernel_rfl) ?ddc46 (by rfl) ?yyc46 hHeld ?rrc46
      case ddc46 => exact fun _ _ _ h => h
      case yyc46 => (intro wx hSw; obtain ⟨y0, y1, y2, y3, y4, y5, y6, y7, y8, y9, y10, y11⟩ := hSw; go_simp; try (with_reducible rfl))
      try simp only [Act.put, List.setIfInBounds_toArray, List.set_cons_zero, List.set_cons_succ]
      refine takeD (i := 10) (oi := { dst := some 47, op := _, type := _, pos := _, after := _, guard := _ }) (d := some 47) (v := ?vvc47) rfl rfl (by kernel_rfl) (by kernel_rfl) (by kernel_rfl) ?ddc47 (by rfl) ?yyc47 hHeld ?rrc47
      case ddc47 => exact fun _ _ _ h => h
      case yyc47 => (intro wx hSw; obtain ⟨y0, y1, y2, y3, y4, y5, y6, y7, y8, y9, y10, y11⟩ := hSw; go_simp; try (with_reducible rfl))
      try simp only [Act.put, List.setIfInBounds_toArray, List.set_cons_zero, List.set_cons_succ]
      refine takeD (i := 11) (oi := { dst := some 48, op := _, type := _, pos := _, after := _, guard := _ }) (d := some 48) (v := ?vvc48) rfl rfl (by kernel_rfl) (by kernel_rfl) (by kernel_rfl) ?ddc48 (by rfl) ?yyc48 hHeld ?rrc48
      case ddc48 => exact fun _ _ _ h => h
      case yyc48 => (intro wx hSw; obtain ⟨y0, y1, y2, y3, y4, y5, y6, y7, y8, y9, y10, y11⟩ := hSw; go_simp; try (with_reducible rfl))
      try simp only [Act.put, List.setIfInBounds_toArray, List.set_cons_zero, List.set_cons_succ]
      refine takeD (i := 12) (oi := { dst := some 49, op := _, type := _, pos := _, after := _, guard := _ }) (d := some 49) (v := ?vvc49) rfl rfl (by kernel_rfl) (by kernel_rfl) (by kernel_rfl) ?ddc49 (by rfl) ?yyc49 hHeld ?rrc49
      case ddc49 => exact fun _ _ _ h => h
      case yyc49 => (intro wx hSw; obtain ⟨y0, y1, y2, y3, y4, y5, y6, y7, y8, y9, y10, y11⟩ := hSw; go_simp; try (with_reducible rfl))
      try simp only [Act.put, List.setIfInBounds_toArray, List.set_cons_zero, List.set_cons_succ]
      refine takeD (i := 13) (oi := { dst := some 50, op := _, type := _, pos := _, after := _, guard := _ }) (d := some 50) (v := ?vvc50) rfl rfl (by kernel_rfl) (by kernel_rfl) (by kernel_rfl) ?ddc50 (by rfl) ?yyc50 hHeld ?rrc50
      case ddc50 => exact fun _ _ _ h => h
      case yyc50 => (intro wx hSw; obtain ⟨y0, y1, y2, y3, y4, y5, y6, y7, y8, y9, y10, y11⟩ := hSw; go_simp; try (with_reducible rfl))
      try simp only [Act.put, List.setIfInBounds_toArray, List.set_cons_zero, List.set_cons_succ]
      refine takeD (i := 14) (oi := { dst := some 51, op := _, type := _, pos := _, after := _, guard := _ }) (d := some 51) (v := ?vvc51) rfl rfl (by kernel_rfl) (by kernel_rfl) (by kernel_rfl) ?ddc51 (by rfl) ?yyc51 hHeld ?rrc51
      case ddc51 => exact fun _ _ _ h => h
      case yyc51 => (intro wx hSw; obtain ⟨y0, y1, y2, y3, y4, y5, y6, y7, y8, y9, y10, y11⟩ := hSw; go_simp; try (with_reducible rfl))
      try simp only [Act.put, List.setIfInBounds_toArray, List.set_cons_zero, List.set_cons_succ]
      refine takeD (i := 15) (oi := { dst := some 52, op := _, type := _, pos := _, after := _, guard := _ }) (d := some 52) (v := ?vvc52) rfl rfl (by kernel_rfl) (by kernel_rfl) (by kernel_rfl) ?ddc52 (by rfl) ?yyc52 hHeld ?rrc52
      case ddc52 => exact fun _ _ _ h => h
      case yyc52 => (intro wx hSw; obtain ⟨y0, y1, y2, y3, y4, y5, y6, y7, y8, y9, y10, y11⟩ := hSw; go_simp; try (with_reducible rfl))
      try simp only [Act.put, List.setIfInBounds_toArray, List.set_cons_zero, List.set_cons_succ]
      refine takeD (i := 16) (oi := { dst := some 53, op := _, type := _, pos := _, after := _, guard := _ }) (d := some 53) (v := ?vvc53) rfl rfl (by kernel_rfl) (by kernel_rfl) (by kernel_rfl) ?ddc53 (by rfl) ?yyc53 hHeld ?rrc53
      case ddc53 => exact fun _ _ _ h => h
      case yyc53 => (intro wx hSw; obtain ⟨y0, y1, y2, y3, y4, y5, y6, y7, y8, y9, y10, y11⟩ := hSw; go_simp; try (with_reducible rfl))
      try simp only [Act.put, List.setIfInBounds_toArray, List.set_cons_zero, List.set_cons_succ]
      refine takeD (i := 17) (oi := { dst := some 54, op := _, type := _, pos := _, after := _, guard := _ }) (d := some 54) (v := ?vvc54) rfl rfl (by kernel_rfl) (by kernel_rfl) (by kernel_rfl) ?ddc54 (by rfl) ?yyc54 hHeld ?rrc54
      case ddc54 => exact fun _ _ _ h => h
      case yyc54 => (intro wx hSw; obtain ⟨y0, y1, y2, y3, y4, y5, y6, y7, y8, y9, y10, y11⟩ := hSw; go_simp; try (with_reducible rfl))
      try simp only [Act.put, List.setIfInBounds_toArray, List.set_cons_zero, List.set_cons_succ]
      refine takeD (i := 18) (oi := { dst := some 55, op := _, type := _, pos := _, after := _, guard := _ }) (d := some 55) (v := ?vvc55) rfl rfl (by kernel_rfl) (by kernel_rfl) (by kernel_rfl) ?ddc55 (by rfl) ?yyc55 hHeld ?rrc55
      case ddc55 => exact fun _ _ _ h => h
      case yyc55 => (intro wx hSw; obtain ⟨y0, y1, y2, y3, y4, y5, y6, y7, y8, y9, y10, y11⟩ := hSw; go_simp; try (with_reducible rfl))
      try simp only [Act.put, List.setIfInBounds_toArray, List.set_cons_zero, List.set_cons_succ]
      refine takeD (i := 19) (oi := { dst := some 56, op := _, type := _, pos := _, after := _, guard := _ }) (d := some 56) (v := ?vvc56) rfl rfl (by kernel_rfl) (by kernel_rfl) (by kernel_rfl) ?ddc56 (by rfl) ?yyc56 hHeld ?rrc56
      case ddc56 => exact fun _ _ _ h => h
      case yyc56 => (intro wx hSw; obtain ⟨y0, y1, y2, y3, y4, y5, y6, y7, y8, y9, y10, y11⟩ := hSw; go_simp; try (with_reducible rfl))
      try simp only [Act.put, List.setIfInBounds_toArray, List.set_cons_zero, List.set_cons_succ]
      refine takeD (i := 20) (oi := { dst := some 57, op := _, type := _, pos := _, after := _, guard := _ }) (d := some 57) (v := ?vvc57) rfl rfl (by kernel_rfl) (by kernel_rfl) (by kernel_rfl) ?ddc57 (by rfl) ?yyc57 hHeld ?rrc57
      case ddc57 => exact fun _ _ _ h => h
      case yyc57 => (intro wx hSw; obtain ⟨y0, y1, y2, y3, y4, y5, y6, y7, y8, y9, y10, y11⟩ := hSw; go_simp; try (with_reducible rfl))
      try simp only [Act.put, List.setIfInBounds_toArray, List.set_cons_zero, List.set_cons_succ]
      refine takeD (i := 21) (oi := { dst := some 58, op := _, type := _, pos := _, after := _, guard := _ }) (d := some 58) (v := ?vvc58) rfl rfl (by kernel_rfl) (by kernel_rfl) (by kernel_rfl) ?ddc58 (by rfl) ?yyc58 hHeld ?rrc58
      case ddc58 => exact fun _ _ _ h => h
      case yyc58 => (intro wx hSw; obtain ⟨y0, y1, y2, y3, y4, y5, y6, y7, y8, y9, y10, y11⟩ := hSw; go_simp; try (with_reducible rfl))
      try simp only [Act.put, List.setIfInBounds_toArray, List.set_cons_zero, List.set_cons_succ]
      refine takeD (i := 22) (oi := { dst := some 59, op := _, type := _, pos := _, after := _, guard := _ }) (d := some 59) (v := ?vvc59) rfl rfl (by kernel_rfl) (by kernel_rfl) (by kernel_rfl) ?ddc59 (by rfl) ?yyc59 hHeld ?rrc59
      case ddc59 => exact fun _ _ _ h => h
      case yyc59 => (intro wx hSw; obtain ⟨y0, y1, y2, y3, y4, y5, y6, y7, y8, y9, y10, y11⟩ := hSw; go_simp; try (with_reducible rfl))
      try simp only [Act.put, List.setIfInBounds_toArray, List.set_cons_zero, List.set_cons_succ]
      refine takeD (i := 23) (oi := { dst := some 60, op := _, type := _, pos := _, after := _, guard := _ }) (d := some 60) (v := ?vvc60) rfl rfl (by kernel_rfl) (by kernel_rfl) (by kernel_rfl) ?ddc60 (by rfl) ?yyc60 hHeld ?rrc60
      case ddc60 => exact fun _ _ _ h => h
      case yyc60 => (intro wx hSw; obtain ⟨y0, y1, y2, y3, y4, y5, y6, y7, y8, y9, y10, y11⟩ := hSw; go_simp; try (with_reducible rfl))
      try simp only [Act.put, List.setIfInBounds_toArray, List.set_cons_zero, List.set_cons_succ]
      refine takeD (i := 24) (oi := { dst := some 61, op := _, type := _, pos := _, after := _, guard := _ }) (d := some 61) (v := ?vvc61) rfl rfl (by kernel_rfl) (by kernel_rfl) (by kernel_rfl) ?ddc61 (by rfl) ?yyc61 hHeld ?rrc61
      case ddc61 => exact fun _ _ _ h => h
      case yyc61 => (intro wx hSw; obtain ⟨y0, y1, y2, y3, y4, y5, y6, y7, y8, y9, y10, y11⟩ := hSw; go_simp; try (with_reducible rfl))
      try simp only [Act.put, List.setIfInBounds_toArray, List.set_cons_zero, List.set_cons_succ]
      refine takeD (i := 25) (oi := { dst := some 62, op := _, type := _, pos := _, after := _, guard := _ }) (d := some 62) (v := ?vvc62) rfl rfl (by kernel_rfl) (by kernel_rfl) (by kernel_rfl) ?ddc62 (by rfl) ?yyc62 hHeld ?rrc62
      case ddc62 => exact fun _ _ _ h => h
      case yyc62 => (intro wx hSw; obtain ⟨y0, y1, y2, y3, y4, y5, y6, y7, y8, y9, y10, y11⟩ := hSw; go_simp; try (with_reducible rfl))
      try simp only [Act.put, List.setIfInBounds_toArray, List.set_cons_zero, List.set_cons_succ]
      refine takeD (i := 26) (oi := { dst := some 63, op := _, type := _, pos := _, after := _, guard := _ }) (d := some 63) (v := ?vvc63) rfl rfl (by kernel_rfl) (by kernel_rfl) (by kernel_rfl) ?ddc63 (by rfl) ?yyc63 hHeld ?rrc63
      case ddc63 => exact fun _ _ _ h => h
      case yyc63 => (intro wx hSw; obtain ⟨y0, y1, y2, y3, y4, y5, y6, y7, y8, y9, y10, y11⟩ := hSw; go_simp; try (with_reducible rfl))
      try simp only [Act.put, List.setIfInBounds_toArray, List.set_cons_zero, List.set_cons_succ]
      refine takeD (i := 27) (oi := { dst := some 64, op := _, type := _, pos := _, after := _, guard := _ }) (d := some 64) (v := ?vvc64) rfl rfl (by kernel_rfl) (by kernel_rfl) (by kernel_rfl) ?ddc64 (by rfl) ?yyc64 hHeld ?rrc64
      case ddc64 => exact fun _ _ _ h => h
      case yyc64 => (intro wx hSw; obtain ⟨y0, y1, y2, y3, y4, y5, y6, y7, y8, y9, y10, y11⟩ := hSw; go_simp; try (with_reducible rfl))
      try simp only [Act.put, List.setIfInBounds_toArray, List.set_cons_zero, List.set_cons_succ]
      refine takeD (i := 28) (oi := { dst := some 65, op := _, type := _, pos := _, after := _, guard := _ }) (d := some 65) (v := ?vvc65) rfl rfl (by kernel_rfl) (by kernel_rfl) (by kernel_rfl) ?ddc65 (by rfl) ?yyc65 hHeld ?rrc65
      case ddc65 => exact fun _ _ _ h => h
      case yyc65 => (intro wx hSw; obtain ⟨y0, y1, y2, y3, y4, y5, y6, y7, y8, y9, y10, y11⟩ := hSw; go_simp; try (with_reducible rfl))
      try simp only [Act.put, List.setIfInBounds_toArray, List.set_cons_zero, List.set_cons_succ]
      refine takeD (i := 29) (oi := { dst := some 66, op := _, type := _, pos := _, after := _, guard := _ }) (d := some 66) (v := ?vvc66) rfl rfl (by kernel_rfl) (by kernel_rfl) (by kernel_rfl) ?ddc66 (by rfl) ?yyc66 hHeld ?rrc66
      case ddc66 => exact fun _ _ _ h => h
      case yyc66 => (intro wx hSw; obtain ⟨y0, y1, y2, y3, y4, y5, y6, y7, y8, y9, y10, y11⟩ := hSw; go_simp; try (with_reducible rfl))
      try simp only [Act.put, List.setIfInBounds_toArray, List.set_cons_zero, List.set_cons_succ]
      refine takeD (i := 30) (oi := { dst := some 67, op := _, type := _, pos := _, after := _, guard := _ }) (d := some 67) (v := ?vvc67) rfl rfl (by kernel_rfl) (by kernel_rfl) (by kernel_rfl) ?ddc67 (by rfl) ?yyc67 hHeld ?rrc67
      case ddc67 => exact fun _ _ _ h => h
      case yyc67 => (intro wx hSw; obtain ⟨y0, y1, y2, y3, y4, y5, y6, y7, y8, y9, y10, y11⟩ := hSw; go_simp; try (with_reducible rfl))
      try simp only [Act.put, List.setIfInBounds_toArray, List.set_cons_zero, List.set_cons_succ]
      refine takeD (i := 31) (oi := { dst := some 68, op := _, type := _, pos := _, after := _, guard := _ }) (d := some 68) (v := ?vvc68) rfl rfl (by kernel_rfl) (by kernel_rfl) (by kernel_rfl) ?ddc68 (by rfl) ?yyc68 hHeld ?rrc68
      case ddc68 => exact fun _ _ _ h => h
      case yyc68 => (intro wx hSw; obtain ⟨y0, y1, y2, y3, y4, y5, y6, y7, y8, y9, y10, y11⟩ := hSw; go_simp; try (with_reducible rfl))
      try simp only [Act.put, List.setIfInBounds_toArray, List.set_cons_zero, List.set_cons_succ]
      refine takeD (i := 32) (oi := { dst := some 69, op := _, type := _, pos := _, after := _, guard := _ }) (d := some 69) (v := ?vvc69) rfl rfl (by kernel_rfl) (by kernel_rfl) (by kernel_rfl) ?ddc69 (by rfl) ?yyc69 hHeld ?rrc69
      case ddc69 => exact fun _ _ _ h => h
      case yyc69 => (intro wx hSw; obtain ⟨y0, y1, y2, y3, y4, y5, y6, y7, y8, y9, y10, y11⟩ := hSw; go_simp; try (with_reducible rfl))
      try simp only [Act.put, List.setIfInBounds_toArray, List.set_cons_zero, List.set_cons_succ]
      refine takeD (i := 33) (oi := { dst := some 70, op := _, type := _, pos := _, after := _, guard := _ }) (d := some 70) (v := ?vvc70) rfl rfl (by kernel_rfl) (by kernel_rfl) (by kernel_rfl) ?ddc70 (by rfl) ?yyc70 hHeld ?rrc70
      case ddc70 => exact fun _ _ _ h => h
      case yyc70 => (intro wx hSw; obtain ⟨y0, y1, y2, y3, y4, y5, y6, y7, y8, y9, y10, y11⟩ := hSw; go_simp; try (with_reducible rfl))
      try simp only [Act.put, List.setIfInBounds_toArray, List.set_cons_zero, List.set_cons_succ]
      refine takeD (i := 34) (oi := { dst := some 71, op := _, type := _, pos := _, after := _, guard := _ }) (d := some 71) (v := ?vvc71) rfl rfl (by kernel_rfl) (by kernel_rfl) (by kernel_rfl) ?ddc71 (by rfl) ?yyc71 hHeld ?rrc71
      case ddc71 => exact fun _ _ _ h => h
      case yyc71 => (intro wx hSw; obtain ⟨y0, y1, y2, y3, y4, y5, y6, y7, y8, y9, y10, y11⟩ := hSw; go_simp; try (with_reducible rfl))
      try simp only [Act.put, List.setIfInBounds_toArray, List.set_cons_zero, List.set_cons_succ]
      refine takeD (i := 35) (oi := { dst := some 72, op := _, type := _, pos := _, after := _, guard := _ }) (d := some 72) (v := ?vvc72) rfl rfl (by kernel_rfl) (by kernel_rfl) (by kernel_rfl) ?ddc72 (by rfl) ?yyc72 hHeld ?rrc72
      case ddc72 => exact fun _ _ _ h => h
      case yyc72 => (intro wx hSw; obtain ⟨y0, y1, y2, y3, y4, y5, y6, y7, y8, y9, y10, y11⟩ := hSw; go_simp; try (with_reducible rfl))
      try simp only [Act.put, List.setIfInBounds_toArray, List.set_cons_zero, List.set_cons_succ]
      refine takeD (i := 36) (oi := { dst := some 73, op := _, type := _, pos := _, after := _, guard := _ }) (d := some 73) (v := ?vvc73) rfl rfl (by kernel_rfl) (by kernel_rfl) (by kernel_rfl) ?ddc73 (by rfl) ?yyc73 hHeld ?rrc73
      case ddc73 => exact fun _ _ _ h => h
      case yyc73 => (intro wx hSw; obtain ⟨y0, y1, y2, y3, y4, y5, y6, y7, y8, y9, y10, y11⟩ := hSw; go_simp; try (with_reducible rfl))
      try simp only [Act.put, List.setIfInBounds_toArray, List.set_cons_zero, List.set_cons_succ]
      refine takeD (i := 37) (oi := { dst := some 74, op := _, type := _, pos := _, after := _, guard := _ }) (d := some 74) (v := ?vvc74) rfl rfl (by kernel_rfl) (by kernel_rfl) (by kernel_rfl) ?ddc74 (by rfl) ?yyc74 hHeld ?rrc74
      case ddc74 => exact fun _ _ _ h => h
      case yyc74 => (intro wx hSw; obtain ⟨y0, y1, y2, y3, y4, y5, y6, y7, y8, y9, y10, y11⟩ := hSw; go_simp; try (with_reducible rfl))
      try simp only [Act.put, List.setIfInBounds_toArray, List.set_cons_zero, List.set_cons_succ]
      refine takeD (i := 38) (oi := { dst := some 75, op := _, type := _, pos := _, after := _, guard := _ }) (d := some 75) (v := ?vvc75) rfl rfl (by kernel_rfl) (by kernel_rfl) (by kernel_rfl) ?ddc75 (by rfl) ?yyc75 hHeld ?rrc75
      case ddc75 => exact fun _ _ _ h => h
      case yyc75 => (intro wx hSw; obtain ⟨y0, y1, y2, y3, y4, y5, y6, y7, y8, y9, y10, y11⟩ := hSw; go_simp; try (with_reducible rfl))
      try simp only [Act.put, List.setIfInBounds_toArray, List.set_cons_zero, List.set_cons_succ]
      refine takeD (i := 39) (oi := { dst := some 76, op := _, type := _, pos := _, after := _, guard := _ }) (d := some 76) (v := ?vvc76) rfl rfl (by kernel_rfl) (by kernel_rfl) (by kernel_rfl) ?ddc76 (by rfl) ?yyc76 hHeld ?rrc76
      case ddc76 => exact fun _ _ _ h => h
      case yyc76 => (intro wx hSw; obtain ⟨y0, y1, y2, y3, y4, y5, y6, y7, y8, y9, y10, y11⟩ := hSw; go_simp; try (with_reducible rfl))
      try simp only [Act.put, List.setIfInBounds_toArray, List.set_cons_zero, List.set_cons_succ]
      refine takeD (i := 40) (oi := { dst := some 77, op := _, type := _, pos := _, after := _, guard := _ }) (d := some 77) (v := ?vvc77) rfl rfl (by kernel_rfl) (by kernel_rfl) (by kernel_rfl) ?ddc77 (by rfl) ?yyc77 hHeld ?rrc77
      case ddc77 => exact fun _ _ _ h => h
      case yyc77 => (intro wx hSw; obtain ⟨y0, y1, y2, y3, y4, y5, y6, y7, y8, y9, y10, y11⟩ := hSw; go_simp; try (with_reducible rfl))
      try simp only [Act.put, List.setIfInBounds_toArray, List.set_cons_zero, List.set_cons_succ]
      refine takeD (i := 41) (oi := { dst := some 78, op := _, type := _, pos := _, after := _, guard := _ }) (d := some 78) (v := ?vvc78) rfl rfl (by kernel_rfl) (by kernel_rfl) (by kernel_rfl) ?ddc78 (by rfl) ?yyc78 hHeld ?rrc78
      case ddc78 => exact fun _ _ _ h => h
      case yyc78 => (intro wx hSw; obtain ⟨y0, y1, y2, y3, y4, y5, y6, y7, y8, y9, y10, y11⟩ := hSw; go_simp; try (with_reducible rfl))
      try simp only [Act.put, List.setIfInBounds_toArray, List.set_cons_zero, List.set_cons_succ]
      refine takeD (i := 42) (oi := { dst := some 79, op := _, type := _, pos := _, after := _, guard := _ }) (d := some 79) (v := ?vvc79) rfl rfl (by kernel_rfl) (by kernel_rfl) (by kernel_rfl) ?ddc79 (by rfl) ?yyc79 hHeld ?rrc79
      case ddc79 => exact fun _ _ _ h => h
      case yyc79 => (intro wx hSw; obtain ⟨y0, y1, y2, y3, y4, y5, y6, y7, y8, y9, y10, y11⟩ := hSw; go_simp; try (with_reducible rfl))
      try simp only [Act.put, List.setIfInBounds_toArray, List.set_cons_zero, List.set_cons_succ]
      refine takeD (i := 43) (oi := { dst := some 80, op := _, type := _, pos := _, after := _, guard := _ }) (d := some 80) (v := ?vvc80) rfl rfl (by kernel_rfl) (by kernel_rfl) (by kernel_rfl) ?ddc80 (by rfl) ?yyc80 hHeld ?rrc80
      case ddc80 => exact fun _ _ _ h => h
      case yyc80 => (intro wx hSw; obtain ⟨y0, y1, y2, y3, y4, y5, y6, y7, y8, y9, y10, y11⟩ := hSw; go_simp; try (with_reducible rfl))
      try simp only [Act.put, List.setIfInBounds_toArray, List.set_cons_zero, List.set_cons_succ]
      refine takeD (i := 44) (oi := { dst := some 81, op := _, type := _, pos := _, after := _, guard := _ }) (d := some 81) (v := ?vvc81) rfl rfl (by kernel_rfl) (by kernel_rfl) (by kernel_rfl) ?ddc81 (by rfl) ?yyc81 hHeld ?rrc81
      case ddc81 => exact fun _ _ _ h => h
      case yyc81 => (intro wx hSw; obtain ⟨y0, y1, y2, y3, y4, y5, y6, y7, y8, y9, y10, y11⟩ := hSw; go_simp; try (with_reducible rfl))
      try simp only [Act.put, List.setIfInBounds_toArray, List.set_cons_zero, List.set_cons_succ]
      refine takeD (i := 45) (oi := { dst := some 82, op := _, type := _, pos := _, after := _, guard := _ }) (d := some 82) (v := ?vvc82) rfl rfl (by kernel_rfl) (by kernel_rfl) (by kernel_rfl) ?ddc82 (by rfl) ?yyc82 hHeld ?rrc82
      case ddc82 => exact fun _ _ _ h => h
      case yyc82 => (intro wx hSw; obtain ⟨y0, y1, y2, y3, y4, y5, y6, y7, y8, y9, y10, y11⟩ := hSw; go_simp; try (with_reducible rfl))
      try simp only [Act.put, List.setIfInBounds_toArray, List.set_cons_zero, List.set_cons_succ]
      have DB := Lib.hid b1.drew
      have DW := Lib.hid (OwnF.drew ow1)
      have DG := Lib.hid (OwnF.drew og1)
      have DY := Lib.hid (OwnF.drew oy1)
      have DX := Lib.hid (OwnF.drew ob1)
      have DQ := Lib.hid q1.drew
      have hbl := hbl1.drew
      clear b1 ow1 og1 oy1 ob1 q1 hbl1 hST
      obtain ⟨wa, hwa⟩ : ∃ wa, wa = w1.drew := ⟨_, rfl⟩
      rw [← hwa] at DB DW DG DY DX DQ hbl hHeld ⊢
      clear hwa
      have y1 : (wa).cell? ⟨gw, i + 1, none⟩ = some (.int .i64 (fw (i + 1))) := (DW).out.cell (by omega)
      have fz := (DW).out.frozen
      have zl := (DW).out.lt
      refine wpAnyH_ready (rs := [46]) (by kernel_rfl) (by simp) ?_
      refine AllReadyH.cons (o := { dst := none, op := _, type := _, pos := _, after := _, guard := _ }) rfl (fun K hK => ?_) AllReadyH.nil
      go_simp
      clear y1 fz zl
      have DW2 := Lib.hid ((DW).out.set (i + 1) (vw))
      obtain ⟨wb, hws⟩ : ∃ wx, wx = (wa).setCell ⟨gw, i + 1, none⟩ (.int .i64 (vw)) := ⟨_, rfl⟩
      have DB2 := Lib.hid (DB.out.other (a := ⟨gw, i + 1, none⟩) n1 (.int .i64 vw))
      have DG2 := Lib.hid (OwnF.other DG.out (a := ⟨gw, i + 1, none⟩) (Ne.symm n5) (.int .i64 vw))
      have DY2 := Lib.hid (OwnF.other DY.out (a := ⟨gw, i + 1, none⟩) (Ne.symm n6) (.int .i64 vw))
      have DX2 := Lib.hid (OwnF.other DX.out (a := ⟨gw, i + 1, none⟩) (Ne.symm n7) (.int .i64 vw))
      have DQ2 := Lib.hid (DQ.out.other (a := ⟨gw, i + 1, none⟩) (Ne.symm k1) (.int .i64 vw))
      have hbl2 := hbl.setCell (p := ⟨gw, i + 1, none⟩) hB1 (.int .i64 vw)
      rw [← hws] at DW2 DB2 DG2 DY2 DX2 DQ2 hbl2 ⊢
      refine hK.out _ _ (SP.of DB2.out DW2.out DG2.out DY2.out DQ2.out (by omega) (by unfold upd; rw [if_neg (by omega)]; exact HVW.out.symm) HVG.out.symm HVY.out.symm) (fun hHeld2 => ?_)
      clear hK K hws DB DW DG DY DX DQ hbl hHeld
      try simp only [Act.put, List.setIfInBounds_toArray, List.set_cons_zero, List.set_cons_succ]
      refine takeD (i := 47) (oi := { dst := some 83, op := _, type := _, pos := _, after := _, guard := _ }) (d := some 83) (v := ?vvd83) rfl rfl (by kernel_rfl) (by kernel_rfl) (by kernel_rfl) ?ddd83 (by rfl) ?yyd83 hHeld2 ?rrd83
      case ddd83 => exact fun _ _ _ h => h
      case yyd83 => (intro wx hSw; obtain ⟨y0, y1, y2, y3, y4, y5, y6, y7, y8, y9, y10, y11⟩ := hSw; go_simp; try (with_reducible rfl))
      try simp only [Act.put, List.setIfInBounds_toArray, List.set_cons_zero, List.set_cons_succ]
      have y1 : (wb).cell? ⟨gg, i + 1, none⟩ = some (.int .i64 (fg (i + 1))) := (DG2).out.cell (by omega)
      have fz := (DG2).out.frozen
      have zl := (DG2).out.lt
      refine wpAnyH_ready (rs := [48]) (by kernel_rfl) (by simp) ?_
      refine AllReadyH.cons (o := { dst := none, op := _, type := _, pos := _, after := _, guard := _ }) rfl (fun K hK => ?_) AllReadyH.nil
      go_simp
      clear y1 fz zl
      have DG22 := Lib.hid ((DG2).out.set (i + 1) (vg + S))
      obtain ⟨wc, hws⟩ : ∃ wx, wx = (wb).setCell ⟨gg, i + 1, none⟩ (.int .i64 (vg + S)) := ⟨_, rfl⟩
      have DB3 := Lib.hid (DB2.out.other (a := ⟨gg, i + 1, none⟩) n2 (.int .i64 (vg + S)))
      have DW3 := Lib.hid (OwnF.other DW2.out (a := ⟨gg, i + 1, none⟩) n5 (.int .i64 (vg + S)))
      have DY3 := Lib.hid (OwnF.other DY2.out (a := ⟨gg, i + 1, none⟩) (Ne.symm n8) (.int .i64 (vg + S)))
      have DX3 := Lib.hid (OwnF.other DX2.out (a := ⟨gg, i + 1, none⟩) (Ne.symm n9) (.int .i64 (vg + S)))
      have DQ3 := Lib.hid (DQ2.out.other (a := ⟨gg, i + 1, none⟩) (Ne.symm k2) (.int .i64 (vg + S)))
      have hbl3 := hbl2.setCell (p := ⟨gg, i + 1, none⟩) hB2 (.int .i64 (vg + S))
      have DG3 := DG22
      rw [← hws] at DW3 DB3 DG3 DY3 DX3 DQ3 hbl3 ⊢
      refine hK.out _ _ (SP.of DB3.out DW3.out DG3.out DY3.out DQ3.out (by omega) (by unfold upd; rw [if_neg (by omega)]; exact HVW.out.symm) (by unfold upd; rw [if_neg (by omega)]; exact HVG.out.symm) HVY.out.symm) (fun hHeld3 => ?_)
      clear hK K hws DB2 DW2 DG2 DG22 DY2 DX2 DQ2 hbl2 hHeld2
      try simp only [Act.put, List.setIfInBounds_toArray, List.set_cons_zero, List.set_cons_succ]
      refine takeD (i := 49) (oi := { dst := some 84, op := _, type := _, pos := _, after := _, guard := _ }) (d := some 84) (v := ?vve84) rfl rfl (by kernel_rfl) (by kernel_rfl) (by kernel_rfl) ?dde84 (by rfl) ?yye84 hHeld3 ?rre84
      case dde84 => exact fun _ _ _ h => h
      case yye84 => (intro wx hSw; obtain ⟨y0, y1, y2, y3, y4, y5, y6, y7, y8, y9, y10, y11⟩ := hSw; go_simp; try (with_reducible rfl))
      try simp only [Act.put, List.setIfInBounds_toArray, List.set_cons_zero, List.set_cons_succ]
      have y1 : (wc).cell? ⟨gy, i + 1, none⟩ = some (.int .i64 (fy (i + 1))) := (DY3).out.cell (by omega)
      have fz := (DY3).out.frozen
      have zl := (DY3).out.lt
      refine wpAnyH_ready (rs := [50]) (by kernel_rfl) (by simp) ?_
      refine AllReadyH.cons (o := { dst := none, op := _, type := _, pos := _, after := _, guard := _ }) rfl (fun K hK => ?_) AllReadyH.nil
      go_simp
      clear y1 fz zl
      have DY32 := Lib.hid ((DY3).out.set (i + 1) (vy + R))
      obtain ⟨wd, hws⟩ : ∃ wx, wx = (wc).setCell ⟨gy, i + 1, none⟩ (.int .i64 (vy + R)) := ⟨_, rfl⟩
      have DB4 := Lib.hid (DB3.out.other (a := ⟨gy, i + 1, none⟩) n3 (.int .i64 (vy + R)))
      have DW4 := Lib.hid (OwnF.other DW3.out (a := ⟨gy, i + 1, none⟩) n6 (.int .i64 (vy + R)))
      have DG4 := Lib.hid (OwnF.other DG3.out (a := ⟨gy, i + 1, none⟩) n8 (.int .i64 (vy + R)))
      have DX4 := Lib.hid (OwnF.other DX3.out (a := ⟨gy, i + 1, none⟩) (Ne.symm n10) (.int .i64 (vy + R)))
      have DQ4 := Lib.hid (DQ3.out.other (a := ⟨gy, i + 1, none⟩) (Ne.symm k3) (.int .i64 (vy + R)))
      have hbl4 := hbl3.setCell (p := ⟨gy, i + 1, none⟩) hB3 (.int .i64 (vy + R))
      have DY4 := DY32
      rw [← hws] at DW4 DB4 DG4 DY4 DX4 DQ4 hbl4 ⊢
      refine hK.out _ _ (SP.of DB4.out DW4.out DG4.out DY4.out DQ4.out (by omega) (by unfold upd; rw [if_neg (by omega)]; exact HVW.out.symm) (by unfold upd; rw [if_neg (by omega)]; exact HVG.out.symm) (by unfold upd; rw [if_neg (by omega)]; exact HVY.out.symm)) (fun hHeld4 => ?_)
      clear hK K hws DB3 DW3 DG3 DY3 DY32 DX3 DQ3 hbl3 hHeld3
      try simp only [Act.put, List.setIfInBounds_toArray, List.set_cons_zero, List.set_cons_succ]
      refine wpAnyH_done (by kernel_rfl) ?_ _
      clear hHeld4 f2 f3
      have c0 : wd.cell? ⟨q, 0, none⟩ = some (.int .i64 K) := DQ4.out.cell (i := 0) rfl
      have c1 : wd.cell? ⟨q, 1, none⟩ = some (.int .i64 Wi) := DQ4.out.cell (i := 1) rfl
      have zq := DQ4.out.lt
      by_cases hk : K = 2
      · subst hk
        have HWD := Lib.hid (show wdF L (i + 1) = wdF L i by show wdF L i + _ = _; rw [if_neg (by rw [← HP.out]; simp), Int.add_zero])
        go_wp2_with fail
        go_roundw
        case rel =>
          refine ⟨i + 1, _, _, _, by go_num, by omega, ⟨DB4.out, DW4.out, DG4.out, DY4.out, DX4.out, ⟨n1, n2, n3, n4, n5, n6, n7, n8, n9, n10⟩, hB0, hB1, hB2, hB3, hB4⟩, fun j hj => ?_, hbl4⟩
          rcases Nat.lt_or_ge i j with h | h
          · obtain rfl : j = i + 1 := by omega
            unfold upd
            rw [if_pos rfl, if_pos rfl, if_pos rfl, HWD.out, HVW.out, HVG.out, HVY.out]
            obtain ⟨e1, e2, e3⟩ := HF.out i (Nat.le_refl _)
            refine ⟨e1, ?_, ?_⟩
            · rw [e2]; show _ = grF L i + (L i).stretch; rw [← HP.out]
            · rw [e3]; show _ = ylF L i + (L i).shrink; rw [← HP.out]
          · unfold upd
            rw [if_neg (by omega), if_neg (by omega), if_neg (by omega)]
            exact HF.out j h
        case measure => simp [intOf]; omega
      · have hk2 : (K != 2) = true := by simpa using hk
        have HWD := Lib.hid (show wdF L (i + 1) = wdF L i + Wi by show wdF L i + _ = _; rw [if_pos (by rw [← HP.out]; exact hk), ← HP.out])
        have m3 : wd.cell? ⟨m, 3, none⟩ = some (.slice (some ⟨gw, 0, none⟩) (n + 1) (n + 1)) := DB4.out.cell (i := 3) rfl
        have u1 : wd.cell? ⟨gw, i + 1, none⟩ = some (.int .i64 vw) := by
          have h := DW4.out.cell (i := i + 1) (by omega)
          unfold upd at h
          rw [if_pos rfl] at h
          exact h
        have zm := DB4.out.lt
        have zgw := DW4.out.lt
        have f4 : IntKind.i64.wrap (vw + Wi) = vw + Wi := IntWalk.i64_in _ ⟨by omega, by omega⟩
        clear hk
        go_wp2_with fail
        go_still_tail 12, (by kernel_rfl)
        change wpList _ _ _ _ _ wd.drew
        clear f1 f4 i1 i2 i3 i4 m3 u1 c0 c1 zq zm zgw
        obtain ⟨we, hwe⟩ : ∃ we, we = wd.drew := ⟨_, rfl⟩
        rw [← hwe]
        have DB5 := Lib.hid DB4.out.drew
        have DW5 := Lib.hid (OwnF.drew DW4.out)
        have DG5 := Lib.hid (OwnF.drew DG4.out)
        have DY5 := Lib.hid (OwnF.drew DY4.out)
        have DX5 := Lib.hid (OwnF.drew DX4.out)
        have hbl5 := hbl4.drew
        rw [← hwe] at DB5 DW5 DG5 DY5 DX5 hbl5
        clear hwe DB4 DW4 DG4 DY4 DX4 DQ4 hbl4
        have u1 : we.cell? ⟨gw, i + 1, none⟩ = some (.int .i64 vw) := by
          have h := DW5.out.cell (i := i + 1) (by omega)
          unfold upd at h
          rw [if_pos rfl] at h
          exact h
        have fz := DW5.out.frozen
        have zgw := DW5.out.lt
        go_wp2_with fail
        go_roundw
        case rel =>
          refine ⟨i + 1, _, _, _, by go_num, by omega, ⟨DB5.out.other (a := ⟨gw, i + 1, none⟩) n1 _, DW5.out.set (i + 1) (vw + Wi), OwnF.other DG5.out (a := ⟨gw, i + 1, none⟩) (Ne.symm n5) _, OwnF.other DY5.out (a := ⟨gw, i + 1, none⟩) (Ne.symm n6) _, OwnF.other DX5.out (a := ⟨gw, i + 1, none⟩) (Ne.symm n7) _, ⟨n1, n2, n3, n4, n5, n6, n7, n8, n9, n10⟩, hB0, hB1, hB2, hB3, hB4⟩, fun j hj => ?_, hbl5.setCell (p := ⟨gw, i + 1, none⟩) hB1 _⟩
          rcases Nat.lt_or_ge i j with h | h
          · obtain rfl : j = i + 1 := by omega
            unfold upd
            rw [if_pos rfl, if_pos rfl, if_pos rfl, HWD.out, HVW.out, HVG.out, HVY.out]
            obtain ⟨e1, e2, e3⟩ := HF.out i (Nat.le_refl _)
            refine ⟨by rw [e1], ?_, ?_⟩
            · rw [e2]; show _ = grF L i + (L i).stretch; rw [← HP.out]
            · rw [e3]; show _ = ylF L i + (L i).shrink; rw [← HP.out]
          · unfold upd
            rw [if_neg (by omega), if_neg (by omega), if_neg (by omega), if_neg (by omega)]
            exact HF.out j h
        case measure => simp [intOf]; omega
    · obtain rfl : i = n := by omega
      have m6 : wr.cell? ⟨m, 6, none⟩ = some (.slice (some ⟨gb, 0, none⟩) (i + 2) (i + 2)) := HBM.out.cell (i := 6) rfl
      have x6 : wr.cell? ⟨gb, i, none⟩ = some (.int .i64 0) := HOB.out.cell (by omega)
      have fz := HOB.out.frozen
      have zm := HBM.out.lt
      have zb := HOB.out.lt
      have i1 : (i : Int) < (i : Int) + 2 := by omega
      go_wp2_with fail
      have E1 := Lib.hid (HBM.out.other (a := ⟨gb, i, none⟩) n4 (.int .i64 i))
      have E2 := Lib.hid (OwnF.other HOW.out (a := ⟨gb, i, none⟩) n7 (.int .i64 i))
      have E3 := Lib.hid (OwnF.other HOG.out (a := ⟨gb, i, none⟩) n9 (.int .i64 i))
      have E4 := Lib.hid (OwnF.other HOY.out (a := ⟨gb, i, none⟩) n10 (.int .i64 i))
      have E5 := Lib.hid (HOB.out.set i (i : Int))
      have hbE := hbel.setCell (p := ⟨gb, i, none⟩) hB4 (.int .i64 i)
      clear m6 x6 fz zm zb HBM HOW HOG HOY HOB hbel hsz
      go_loopw [8, 9] (fun nx ik wr => ∃ (k t : Nat) (fb : Nat → Int), ik = .int .i64 ((k : Int) - 1) ∧ nx = .int .i64 t ∧ k ≤ i ∧ t = begF i L k ∧ Raw wr i aP cP aW nw cW D w.heap.size m gw gg gy gb fw fg fy fb ∧ (∀ j, k ≤ j → j ≤ i → fb j = begF i L j) ∧ Below w.heap.size w wr) (fun _ ik _ => (intOf ik + 1).toNat)
      case atStart => exact ⟨i, i, _, by go_num, rfl, Nat.le_refl _, (begF_end i L).symm, ⟨E1.out, E2.out, E3.out, E4.out, E5.out, ⟨n1, n2, n3, n4, n5, n6, n7, n8, n9, n10⟩, hB0, hB1, hB2, hB3, hB4⟩, (fun j h1 h2 => by rw [show j = i by omega, begF_end]; unfold upd; rw [if_pos rfl]), hbE⟩
      case round =>
        obtain ⟨k', t, fb, rfl, rfl, hk, ht, hraw, hfb, hbel⟩ := hrel
        have HFB := Lib.hid hfb
        have HTT := Lib.hid ht
        have hsz := hbel.size
        obtain ⟨hBm, hOw, hOg, hOy, hOb, _⟩ := id hraw
        have HBM := Lib.hid hBm
        have HOW := Lib.hid hOw
        have HOG := Lib.hid hOg
        have HOY := Lib.hid hOy
        have HOB := Lib.hid hOb
        clear hfb ht hraw hBm hOw hOg hOy hOb E1 E2 E3 E4 E5 hbE
        rcases k' with _ | k
        · rw [show (((0 : Nat) : Int) - 1) = -1 from rfl]
          go_wp2_with fail
          go_ret
          refine ⟨m, rfl, ⟨aP, cP, aW, cW, gw, gg, gy, gb, ⟨HBM.out.cell (i := 0) rfl, HBM.out.cell (i := 1) rfl, HBM.out.cell (i := 2) rfl, HBM.out.cell (i := 3) rfl, HBM.out.cell (i := 4) rfl, HBM.out.cell (i := 5) rfl, HBM.out.cell (i := 6) rfl⟩, HA.out.below (Nat.le_refl _) hbel, HW.out.below (Nat.le_refl _) hbel, fun j hj => ?_, fun j hj => ?_, fun j hj => ?_, fun j hj => ?_⟩, hbel⟩
          · rw [← (HF.out j hj).1]; exact HOW.out.cell (by omega)
          · rw [← (HF.out j hj).2.1]; exact HOG.out.cell (by omega)
          · rw [← (HF.out j hj).2.2]; exact HOY.out.cell (by omega)
          · rw [← HFB.out j (by omega) hj]; exact HOB.out.cell (by omega)
        · rw [show (((k + 1 : Nat) : Int) - 1) = (k : Int) by omega]
          have hki : k < i := by omega
          have mP := HA.out.below (Nat.le_refl _) hbel
          have m6 : wr.cell? ⟨m, 6, none⟩ = some (.slice (some ⟨gb, 0, none⟩) (i + 2) (i + 2)) := HBM.out.cell (i := 6) rfl
          have x6 : wr.cell? ⟨gb, k, none⟩ = some (.int .i64 (fb k)) := HOB.out.cell (by omega)
          have fz := HOB.out.frozen
          have zm := HBM.out.lt
          have zgb := HOB.out.lt
          have i1 : (k : Int) < (i : Int) + 2 := by omega
          have i2 : (k : Int) < (i : Int) := by omega
          obtain ⟨b, off, rfl, hcell⟩ := mP (by omega)
          have d0 : wr.cell? ⟨b, off + k * 6 + 0, none⟩ = some ((L k).V 0) := hcell k (by omega) 0 (by omega)
          have d1 : wr.cell? ⟨b, off + k * 6 + 1, none⟩ = some ((L k).V 1) := hcell k (by omega) 1 (by omega)
          have d2 : wr.cell? ⟨b, off + k * 6 + 2, none⟩ = some ((L k).V 2) := hcell k (by omega) 2 (by omega)
          have d3 : wr.cell? ⟨b, off + k * 6 + 3, none⟩ = some ((L k).V 3) := hcell k (by omega) 3 (by omega)
          have d4 : wr.cell? ⟨b, off + k * 6 + 4, none⟩ = some ((L k).V 4) := hcell k (by omega) 4 (by omega)
          have d5 : wr.cell? ⟨b, off + k * 6 + 5, none⟩ = some ((L k).V 5) := hcell k (by omega) 5 (by omega)
          obtain ⟨p, hp⟩ : ∃ p, p = L k := ⟨_, rfl⟩
          rw [← hp] at d0 d1 d2 d3 d4 d5
          have HP := Lib.hid hp
          have zb := lt_of_cell d0
          simp only at zb
          clear hp
          obtain ⟨K, Wi, S, R, C, F⟩ := p
          simp only [Part.V] at d0 d1 d2 d3 d4 d5
          rw [Nat.add_zero] at d0
          clear mP hcell
          have HMU := Lib.hid (show mustB i L k = (decide (K = 2) && decide (C = -10000)) by unfold mustB; rw [← HP.out]; simp; omega)
          by_cases h0 : K = 0
          · subst h0
            have HB := Lib.hid (show begF i L k = k from begF_here hki (.inl (by rw [← HP.out])))
            go_wp2_with fail
            have E5 := HOB.out.set k (k : Int)
            go_roundw
            case rel =>
              refine ⟨k, _, _, by go_num, rfl, by omega, HB.out.symm, ⟨HBM.out.other (a := ⟨gb, k, none⟩) n4 _, OwnF.other HOW.out (a := ⟨gb, k, none⟩) n7 _, OwnF.other HOG.out (a := ⟨gb, k, none⟩) n9 _, OwnF.other HOY.out (a := ⟨gb, k, none⟩) n10 _, E5, ⟨n1, n2, n3, n4, n5, n6, n7, n8, n9, n10⟩, hB0, hB1, hB2, hB3, hB4⟩, fun j h1 h2 => ?_, hbel.setCell (p := ⟨gb, k, none⟩) hB4 _⟩
              unfold upd
              by_cases hjk : j = k
              · rw [if_pos hjk, hjk, HB.out]
              · rw [if_neg hjk]; exact HFB.out j (by omega) h2
            case measure => simp [intOf] <;> omega
          · have h0' : (K == 0) = false := by simpa using h0
            by_cases h2 : K = 2
            · subst h2
              by_cases hc : C = -10000
              · subst hc
                have HB := Lib.hid (show begF i L k = k from begF_here hki (.inr (by rw [HMU.out]; rfl)))
                go_wp2_with fail
                have E5 := HOB.out.set k (k : Int)
                go_roundw
                case rel =>
                  refine ⟨k, _, _, by go_num, rfl, by omega, HB.out.symm, ⟨HBM.out.other (a := ⟨gb, k, none⟩) n4 _, OwnF.other HOW.out (a := ⟨gb, k, none⟩) n7 _, OwnF.other HOG.out (a := ⟨gb, k, none⟩) n9 _, OwnF.other HOY.out (a := ⟨gb, k, none⟩) n10 _, E5, ⟨n1, n2, n3, n4, n5, n6, n7, n8, n9, n10⟩, hB0, hB1, hB2, hB3, hB4⟩, fun j h1 h2 => ?_, hbel.setCell (p := ⟨gb, k, none⟩) hB4 _⟩
                  unfold upd
                  by_cases hjk : j = k
                  · rw [if_pos hjk, hjk, HB.out]
                  · rw [if_neg hjk]; exact HFB.out j (by omega) h2
                case measure => simp [intOf] <;> omega
              · have hc' : (C == -10000) = false := by simpa using hc
                have HB := Lib.hid (show begF i L k = t from (begF_next hki (by rw [HMU.out, ← HP.out]; simp [hc])).trans HTT.out.symm)
                clear hc h0
                go_wp2_with fail
                have E5 := HOB.out.set k (t : Int)
                go_roundw
                case rel =>
                  refine ⟨k, _, _, by go_num, rfl, by omega, HB.out.symm, ⟨HBM.out.other (a := ⟨gb, k, none⟩) n4 _, OwnF.other HOW.out (a := ⟨gb, k, none⟩) n7 _, OwnF.other HOG.out (a := ⟨gb, k, none⟩) n9 _, OwnF.other HOY.out (a := ⟨gb, k, none⟩) n10 _, E5, ⟨n1, n2, n3, n4, n5, n6, n7, n8, n9, n10⟩, hB0, hB1, hB2, hB3, hB4⟩, fun j h1 h2 => ?_, hbel.setCell (p := ⟨gb, k, none⟩) hB4 _⟩
                  unfold upd
                  by_cases hjk : j = k
                  · rw [if_pos hjk, hjk, HB.out]
                  · rw [if_neg hjk]; exact HFB.out j (by omega) h2
                case measure => simp [intOf] <;> omega
            · have h2' : (K == 2) = false := by simpa using h2
              have HB := Lib.hid (show begF i L k = t from (begF_next hki (by rw [HMU.out, ← HP.out]; simp [h0, h2])).trans HTT.out.symm)
              clear h2 h0
              go_wp2_with fail
              have E5 := HOB.out.set k (t : Int)
              go_roundw
              case rel =>
                refine ⟨k, _, _, by go_num, rfl, by omega, HB.out.symm, ⟨HBM.out.other (a := ⟨gb, k, none⟩) n4 _, OwnF.other HOW.out (a := ⟨gb, k, none⟩) n7 _, OwnF.other HOG.out (a := ⟨gb, k, none⟩) n9 _, OwnF.other HOY.out (a := ⟨gb, k, none⟩) n10 _, E5, ⟨n1, n2, n3, n4, n5, n6, n7, n8, n9, n10⟩, hB0, hB1, hB2, hB3, hB4⟩, fun j h1 h2 => ?_, hbel.setCell (p := ⟨gb, k, none⟩) hB4 _⟩
                unfold upd
                by_cases hjk : j = k
                · rw [if_pos hjk, hjk, HB.out]
                · rw [if_neg hjk]; exact HFB.out j (by omega) h2
              case measure => simp [intOf] <;> omega
end Go.Proofs.Ytnigebnibikolaa.LN
