

/-
  best.
-/
import Derived.Test.YtnigebnibikolaaLnBestI
import Derived.Test.YtnigebnibikolaaLnEnds
import Derived.Laws.MakeOwn
import Derived.WalkSpells
import Derived.Deep.CutRange
import Derived.Deep.CutBlock
namespace Go.Proofs.Ytnigebnibikolaa.LN
open Go.RowKit Go.Law Go.Law.Ln
set_option linter.unusedVariables false
set_option linter.unusedSimpArgs false
set_option maxRecDepth 100000
theorem make_plans (k : Nat) (hk : k ≤ 100000) (w : World) : (Instr.makeSlice 140 (.int .i64 (k : Int)) (.int .i64 (k : Int))).run Try.prog w = .ok (.slice (some ⟨w.heap.size, 0, none⟩) k k) (w.alloc (.cells (madeCells #[.bool false, .int .i64 0, .int .i64 0, .int .i64 0] (k * 4)) 118)) := by
  obtain ⟨i0, hi, hz0, hz1, hz2⟩ := info_parts (show (Try.prog.info? 118).map (fun i => (i.zero, i.size, i.bytes)) = some (some (.agg #[.bool false, .int .i64 0, .int .i64 0, .int .i64 0]), 4, 32) by kernel_rfl)
  have := run_make (P := Try.prog) w 140 118 i0 _ Try.underlying140 hi hz0 .i64 .i64 (k : Int) (k : Int) (by omega) (by omega) (by rw [hz2]; omega) (by omega)
  rw [hz1] at this
  simpa [Value.cells] using this
def zeroP (i : Nat) : Value := match i % 4 with
  | 0 => .bool false
  | _ => .int .i64 0
theorem own_plans (w : World) (k : Nat) : OwnV (w.alloc (.cells (madeCells #[.bool false, .int .i64 0, .int .i64 0, .int .i64 0] (k * 4)) 118)) 118 w.heap.size (4 * k) zeroP := by
  refine OwnV.new _ _ _ _ (by rw [size_madeCells]; omega) (fun i hi => ?_)
  have h4 : i % 4 = 0 ∨ i % 4 = 1 ∨ i % 4 = 2 ∨ i % 4 = 3 := by omega
  have hlt : i < k * 4 := by omega
  unfold zeroP
  rcases h4 with h | h | h | h <;> simp [madeCells, h, hlt]
theorem plan_zero (o : Nat) (p : Pl) : PlanAt zeroP o p := by
  refine .inl ⟨?_, ?_, ?_, ?_⟩
  · unfold zeroP; rw [show o * 4 % 4 = 0 by omega]; rfl
  · unfold zeroP; rw [show (o * 4 + 1) % 4 = 1 by omega]; rfl
  · unfold zeroP; rw [show (o * 4 + 2) % 4 = 2 by omega]; rfl
  · unfold zeroP; rw [show (o * 4 + 3) % 4 = 3 by omega]; rfl
def planV (p : Pl) : Value := .agg #[.bool true, .int .i64 p.1, .int .i64 p.2.1, .int .i64 p.2.2]
/-- what best leaves -/
def BestPost (n : Nat) (L : Nat → Part) (nw : Nat) (W : Nat → Int) (D : Int) (kb B a num : Nat) (flag : Bool) (w : World) (G : Nat → Option Nat) (e : Ending) (w' : World) : Prop :=
  e = .returned (planV (bestF n L nw W D a num flag)) ∧ ∃ G', Memo n L nw W D 140 118 w' kb B G' ∧ Fr n kb B w G w' G'
def BestAt (n : Nat) (L : Nat → Part) (nw : Nat) (W : Nat → Int) (D : Int) (m wb kb : Nat) (w0 : World) (f : Nat) : Prop :=
  ∀ (a num : Nat) (flag : Bool) (w : World) (G : Nat → Option Nat), a ≤ n → n + 1 - a ≤ f → num ≤ 10000 → Below w0.heap.size w0 w → Blk w wb #[.pointer (some ⟨m, 0, none⟩), .slice (some ⟨kb, 0, none⟩) (n + 1) (n + 1)] 114 → Out n w kb G wb →
    Memo n L nw W D 140 118 w kb w0.heap.size G →
    Calls Try.prog 56 #[.pointer (some ⟨wb, 0, none⟩), .int .i64 a, .int .i64 num, .bool flag] w (BestPost n L nw W D kb w0.heap.size a num flag w G)
theorem eq_nil (w : World) (a : Option Addr) (x c : Nat) : (binOp .eql 140 (.slice a x c) (.slice none 0 0)).run Try.prog w = .ok (.bool a.isNone) w := by
  simp only [binOp]
  simp [Op.equal, Op.maxDepth, Lib.run_equalIn_slice_nil w 9999 140 118 a x c 0 0 Try.underlying140]
attribute [local go_sem] eq_nil
theorem eq_row (w : World) (nw : Nat) (r : Option Nat) : (binOp .eql 140 (rowV nw r) (.slice none 0 0)).run Try.prog w = .ok (.bool r.isNone) w := by
  cases r
  · exact eq_nil w none 0 0
  · exact eq_nil w (some _) _ _
attribute [local go_sem] eq_row
theorem eq_guard (w : World) (x y : Operand) (nw : Nat) (r : Option Nat) : (eqGuard .eql 140 x y (rowV nw r) (.slice none 0 0)).run Try.prog w = .ok () w := by
  cases r <;> simp [rowV, eqGuard, go_sem]
attribute [local go_sem] eq_guard
/-- the cells behind a worker -/
def SM (m wb kb n nw cW : Nat) (aW : Option Addr) (w : World) : Prop :=
  w.cell? ⟨wb, 0, none⟩ = some (.pointer (some ⟨m, 0, none⟩)) ∧ w.cell? ⟨wb, 1, none⟩ = some (.slice (some ⟨kb, 0, none⟩) (n + 1) (n + 1)) ∧ w.cell? ⟨m, 1, none⟩ = some (.slice aW nw cW)
theorem SM.below {m wb kb n nw cW : Nat} {aW : Option Addr} {w w' : World} (h : SM m wb kb n nw cW aW w) (hb : Below w.heap.size w w') : SM m wb kb n nw cW aW w' :=
  ⟨cell_below h.1 (Nat.le_refl _) hb, cell_below h.2.1 (Nat.le_refl _) hb, cell_below h.2.2 (Nat.le_refl _) hb⟩
def ZP : Array Value := #[.bool false, .int .i64 0, .int .i64 0, .int .i64 0]
/-- with the row of part a -/
def Rowed (n : Nat) (L : Nat → Part) (nw : Nat) (W : Nat → Int) (D : Int) (kb B a : Nat) (w : World) (G : Nat → Option Nat) (wx : World) : Prop :=
  ∃ G1 g, G1 a = some g ∧ Memo n L nw W D 140 118 wx kb B G1 ∧ Fr n kb B w G wx G1 ∧ Blk wx w.heap.size #[.bool false, .int .i64 0, .int .i64 0, .int .i64 0] 118 ∧ Out n wx kb G1 w.heap.size
theorem quiet_call2 {P : Program} {f : FuncId} {args : Array Value} {w : World} {n : Nat} {v : Value}
    (h : Calls P f args (w.drewN n) fun e w' => e = .returned v ∧ ∃ k, w' = (w.drewN n).drewN k) : Calls P f args (w.drewN n) fun e w'' => e = .returned v ∧ ∃ m, w'' = w.drewN m :=
  h.mono fun _ _ ⟨he, k, hk⟩ => ⟨he, n + k, by rw [hk, World.drewN_drewN]⟩
set_option maxHeartbeats 8000000 in
theorem best_step (n : Nat) (L : Nat → Part) (nw : Nat) (W : Nat → Int) (D : Int) (m wb kb : Nat) (w0 : World) (f : Nat) (hgood : Go.Law.Ln.Good n L nw W D) (hn : n ≤ 1000) (hm : Mk w0 m n L nw W D) (ih : BestAt n L nw W D m wb kb w0 f) : BestAt n L nw W D m wb kb w0 (f + 1) := by
  intro a num flag w G ha hf hnum hbel hwb hout hmemo
  have IH := Lib.hid ih
  have HG := Lib.hid hgood
  have HM0 := Lib.hid hm
  have hnw := hgood.some
  obtain ⟨aP, cP, aW, cW, gw, gg, gy, gb, hmA⟩ := hm
  have mk01 := hmA.1.2.1
  have mk02 := hmA.1.2.2.1
  have hmw := hmA.below (Nat.le_refl _) hbel
  obtain ⟨⟨mk0, mk1, mk2, _⟩, _⟩ := hmw
  obtain ⟨k, hk⟩ : ∃ k, k = min num (nw - 1) := ⟨_, rfl⟩
  have hkn : k < nw := by omega
  obtain ⟨R, hR⟩ : ∃ R, R = bestF n L nw W D a k flag := ⟨_, rfl⟩
  have hRn : bestF n L nw W D a num flag = R := by rw [hR, hk]; exact bestF_num (n + 1 - a) a num flag ha (Nat.le_refl _)
  obtain ⟨⟨hK, hBk⟩, hrows, hinj⟩ := id hmemo
  have x1 := hK.cell (i := a) (by omega)
  have zk := hK.lt
  have zm := lt_of_cell mk0
  have zwb := hwb.lt
  simp only at zm
  have wb0 : w.cell? ⟨wb, 0, none⟩ = some (.pointer (some ⟨m, 0, none⟩)) := hwb.cell (i := 0) rfl
  have wb1 : w.cell? ⟨wb, 1, none⟩ = some (.slice (some ⟨kb, 0, none⟩) (n + 1) (n + 1)) := hwb.cell (i := 1) rfl
  have e1 : (if (nw : Int) - 1 < (num : Int) then (nw : Int) - 1 else (num : Int)) = (k : Int) := by split <;> omega
  have e2 : (a : Int) < (n : Int) + 1 := by omega
  have e3 : IntKind.i64.wrap (2 * (nw : Int)) = 2 * (nw : Int) := IntWalk.i64_in _ ⟨by omega, by omega⟩
  have hmk : ∀ w, (Instr.makeSlice 140 (.int .i64 (2 * (nw : Int))) (.int .i64 (2 * (nw : Int)))).run Try.prog w = .ok (.slice (some ⟨w.heap.size, 0, none⟩) (2 * nw) (2 * nw)) (w.alloc (.cells (madeCells #[.bool false, .int .i64 0, .int .i64 0, .int .i64 0] (2 * nw * 4)) 118)) := fun w => by rw [show (2 * (nw : Int)) = ((2 * nw : Nat) : Int) by omega]; exact make_plans (2 * nw) (by omega) w
  have HR := Lib.hid hR
  have HRn := Lib.hid hRn
  have HMEMO := Lib.hid hmemo
  have HOUT := Lib.hid hout
  have HWB := Lib.hid hwb
  have MK01 := Lib.hid mk01
  have MK02 := Lib.hid mk02
  have HROWS := Lib.hid hrows
  have HK := Lib.hid hk
  have hszw := hbel.size
  clear ih hgood hmA mk01 mk02 hk hR hRn hK hrows hinj hmemo hout hwb
  go_enter Try.func56, Try.ntmps56
  go_upto_if 31 with (fail)
  obtain ⟨w1, hw1⟩ : ∃ w1, w1 = w.alloc (Obj.cells #[.bool false, .int .i64 0, .int .i64 0, .int .i64 0] 118) := ⟨_, rfl⟩
  have hb1 : Below w.heap.size w w1 := by rw [hw1]; exact (Below.refl _ _).alloc (Nat.le_refl _) _
  have q1 : Blk w1 w.heap.size #[.bool false, .int .i64 0, .int .i64 0, .int .i64 0] 118 := by rw [hw1]; exact Blk.new _ _ _
  rw [← hw1]
  clear hw1
  have x1' := cell_below x1 (Nat.le_refl _) hb1
  have wb0' := cell_below wb0 (Nat.le_refl _) hb1
  have wb1' := cell_below wb1 (Nat.le_refl _) hb1
  have mk1' := cell_below mk1 (Nat.le_refl _) hb1
  have zk' := lt_of_cell x1'
  have zm' := lt_of_cell mk1'
  have zwb' := lt_of_cell wb0'
  simp only at zk' zm' zwb'
  clear x1 wb0 wb1 mk0 mk1 mk2 zk zm zwb
  have HMEMO1 := Lib.hid (HMEMO.out.below hb1)
  have HOUT1 := Lib.hid (Out.new HMEMO.out hb1 (Nat.le_refl _) q1.lt)
  have HFR1 := Lib.hid (Fr.of_below (n := n) (kb := kb) (G := G) hb1 hszw)
  have Q1 := Lib.hid q1
  have HB1 := Lib.hid hb1
  clear q1
  go_cut [9] from 10 (fun v wx => v = .int .i64 (keyN k flag : Nat) ∧ wx = w1)
  case first =>
    cases flag
    · go_wp2_with fail
      go_meet
      exact ⟨by unfold keyN; go_num, rfl⟩
    · go_wp2_with fail
      go_meet
      exact ⟨by unfold keyN; go_num, rfl⟩
  case rest =>
  obtain ⟨rfl, rfl⟩ := hcut
  go_upto_if 41 with (fail)
  go_cut [9] from 10 (fun v wx => v = .int .i64 (keyN k flag : Nat) ∧ Rowed n L nw W D kb w0.heap.size a w G wx)
  case first =>
    cases hga : G a with
    | some g =>
      go_wp2_with fail
      go_meet
      exact ⟨rfl, G, g, hga, HMEMO1.out, HFR1.out, Q1.out, HOUT1.out⟩
    | none =>
      have HGA := Lib.hid hga
      clear hga
      go_wp2_with fail
      have hSM : SM m wb kb n nw cW aW wc.drew := ⟨wb0', wb1', mk1'⟩
      refine wp_region_held_drew (S := SM m wb kb n nw cW aW) (by kernel_rfl) hSM ?_
      intro hHeld
      refine takeD (i := 0) (oi := { dst := some 42, op := _, type := _, pos := _, after := _, guard := _ }) (d := some 42) (v := ?vva42) rfl rfl (by kernel_rfl) (by kernel_rfl) (by kernel_rfl) ?dda42 (by rfl) ?yya42 hHeld ?rra42
      case dda42 => exact fun _ _ _ h => h
      case yya42 => (intro wx hSw; obtain ⟨y0, y1, y2⟩ := hSw; go_simp; try (with_reducible rfl))
      try simp only [Act.put, List.setIfInBounds_toArray, List.set_cons_zero, List.set_cons_succ]
      refine takeD (i := 1) (oi := { dst := some 43, op := _, type := _, pos := _, after := _, guard := _ }) (d := some 43) (v := ?vva43) rfl rfl (by kernel_rfl) (by kernel_rfl) (by kernel_rfl) ?dda43 (by rfl) ?yya43 hHeld ?rra43
      case dda43 => exact fun _ _ _ h => h
      case yya43 => (intro wx hSw; obtain ⟨y0, y1, y2⟩ := hSw; go_simp; try (with_reducible rfl))
      try simp only [Act.put, List.setIfInBounds_toArray, List.set_cons_zero, List.set_cons_succ]
      refine takeD (i := 2) (oi := { dst := some 44, op := _, type := _, pos := _, after := _, guard := _ }) (d := some 44) (v := ?vva44) rfl rfl (by kernel_rfl) (by kernel_rfl) (by kernel_rfl) ?dda44 (by rfl) ?yya44 hHeld ?rra44
      case dda44 => exact fun _ _ _ h => h
      case yya44 => (intro wx hSw; obtain ⟨y0, y1, y2⟩ := hSw; go_simp; try (with_reducible rfl))
      try simp only [Act.put, List.setIfInBounds_toArray, List.set_cons_zero, List.set_cons_succ]
      refine takeD (i := 3) (oi := { dst := some 45, op := _, type := _, pos := _, after := _, guard := _ }) (d := some 45) (v := ?vva45) rfl rfl (by kernel_rfl) (by kernel_rfl) (by kernel_rfl) ?dda45 (by rfl) ?yya45 hHeld ?rra45
      case dda45 => exact fun _ _ _ h => h
      case yya45 => (intro wx hSw; obtain ⟨y0, y1, y2⟩ := hSw; go_simp; try (with_reducible rfl))
      try simp only [Act.put, List.setIfInBounds_toArray, List.set_cons_zero, List.set_cons_succ]
      refine takeD (i := 4) (oi := { dst := some 46, op := _, type := _, pos := _, after := _, guard := _ }) (d := some 46) (v := ?vva46) rfl rfl (by kernel_rfl) (by kernel_rfl) (by kernel_rfl) ?dda46 (by rfl) ?yya46 hHeld ?rra46
      case dda46 => exact fun _ _ _ h => h
      case yya46 => (intro wx hSw; obtain ⟨y0, y1, y2⟩ := hSw; go_simp; try (with_reducible rfl))
      try simp only [Act.put, List.setIfInBounds_toArray, List.set_cons_zero, List.set_cons_succ]
      refine takeD (i := 5) (oi := { dst := some 47, op := _, type := _, pos := _, after := _, guard := _ }) (d := some 47) (v := ?vva47) rfl rfl (by kernel_rfl) (by kernel_rfl) (by kernel_rfl) ?dda47 (by rfl) ?yya47 hHeld ?rra47
      case dda47 => exact fun _ _ _ h => h
      case yya47 => (intro wx hSw; obtain ⟨y0, y1, y2⟩ := hSw; go_simp; try (with_reducible rfl))
      try simp only [Act.put, List.setIfInBounds_toArray, List.set_cons_zero, List.set_cons_succ]
      refine takeD (i := 6) (oi := { dst := some 48, op := _, type := _, pos := _, after := _, guard := _ }) (d := some 48) (v := ?vva48) rfl rfl (by kernel_rfl) (by kernel_rfl) (by kernel_rfl) ?dda48 (by rfl) ?yya48 hHeld ?rra48
      case dda48 => exact fun _ _ _ h => h
      case yya48 => (intro wx hSw; obtain ⟨y0, y1, y2⟩ := hSw; go_simp; try (with_reducible rfl))
      try simp only [Act.put, List.setIfInBounds_toArray, List.set_cons_zero, List.set_cons_succ]
      refine takeD (i := 7) (oi := { dst := some 49, op := _, type := _, pos := _, after := _, guard := _ }) (d := some 49) (v := ?vva49) rfl rfl (by kernel_rfl) (by kernel_rfl) (by kernel_rfl) ?dda49 (by rfl) ?yya49 hHeld ?rra49
      case dda49 => exact fun _ _ _ h => h
      case yya49 => (intro wx hSw; obtain ⟨y0, y1, y2⟩ := hSw; go_simp; try (with_reducible rfl))
      try simp only [Act.put, List.setIfInBounds_toArray, List.set_cons_zero, List.set_cons_succ]
      refine takeD (i := 8) (oi := { dst := some 50, op := _, type := _, pos := _, after := _, guard := _ }) (d := some 50) (v := ?vva50) rfl rfl (by kernel_rfl) (by kernel_rfl) (by kernel_rfl) ?dda50 (by rfl) ?yya50 hHeld ?rra50
      case dda50 => exact fun _ _ _ h => h
      case yya50 => (intro wx hSw; obtain ⟨y0, y1, y2⟩ := hSw; go_simp; try (with_reducible rfl))
      try simp only [Act.put, List.setIfInBounds_toArray, List.set_cons_zero, List.set_cons_succ]
      refine takeD (i := 9) (oi := { dst := some 51, op := _, type := _, pos := _, after := _, guard := _ }) (d := some 51) (v := ?vva51) rfl rfl (by kernel_rfl) (by kernel_rfl) (by kernel_rfl) ?dda51 (by rfl) ?yya51 hHeld ?rra51
      case dda51 => exact fun _ _ _ h => h
      case yya51 => (intro wx hSw; obtain ⟨y0, y1, y2⟩ := hSw; go_simp; try (with_reducible rfl))
      try simp only [Act.put, List.setIfInBounds_toArray, List.set_cons_zero, List.set_cons_succ]
      refine takeD (i := 10) (oi := { dst := some 52, op := _, type := _, pos := _, after := _, guard := _ }) (d := some 52) (v := ?vva52) rfl rfl (by kernel_rfl) (by kernel_rfl) (by kernel_rfl) ?dda52 (by rfl) ?yya52 hHeld ?rra52
      case dda52 => exact fun _ _ _ h => h
      case yya52 => (intro wx hSw; obtain ⟨y0, y1, y2⟩ := hSw; go_simp; try (with_reducible rfl))
      try simp only [Act.put, List.setIfInBounds_toArray, List.set_cons_zero, List.set_cons_succ]
      refine takeD (i := 11) (oi := { dst := some 53, op := _, type := _, pos := _, after := _, guard := _ }) (d := some 53) (v := ?vva53) rfl rfl (by kernel_rfl) (by kernel_rfl) (by kernel_rfl) ?dda53 (by rfl) ?yya53 hHeld ?rra53
      case dda53 => exact fun _ _ _ h => h
      case yya53 => (intro wx hSw; obtain ⟨y0, y1, y2⟩ := hSw; go_simp; try (with_reducible rfl))
      try simp only [Act.put, List.setIfInBounds_toArray, List.set_cons_zero, List.set_cons_succ]
      refine takeD (i := 12) (oi := { dst := some 54, op := _, type := _, pos := _, after := _, guard := _ }) (d := some 54) (v := ?vva54) rfl rfl (by kernel_rfl) (by kernel_rfl) (by kernel_rfl) ?dda54 (by rfl) ?yya54 hHeld ?rra54
      case dda54 => exact fun _ _ _ h => h
      case yya54 => (intro wx hSw; obtain ⟨y0, y1, y2⟩ := hSw; go_simp; try (with_reducible rfl))
      try simp only [Act.put, List.setIfInBounds_toArray, List.set_cons_zero, List.set_cons_succ]
      refine takeD (i := 13) (oi := { dst := some 55, op := _, type := _, pos := _, after := _, guard := _ }) (d := some 55) (v := ?vva55) rfl rfl (by kernel_rfl) (by kernel_rfl) (by kernel_rfl) ?dda55 (by rfl) ?yya55 hHeld ?rra55
      case dda55 => exact fun _ _ _ h => h
      case yya55 => (intro wx hSw; obtain ⟨y0, y1, y2⟩ := hSw; go_simp; try (with_reducible rfl))
      try simp only [Act.put, List.setIfInBounds_toArray, List.set_cons_zero, List.set_cons_succ]
      refine takeD (i := 14) (oi := { dst := some 56, op := _, type := _, pos := _, after := _, guard := _ }) (d := some 56) (v := ?vva56) rfl rfl (by kernel_rfl) (by kernel_rfl) (by kernel_rfl) ?dda56 (by rfl) ?yya56 hHeld ?rra56
      case dda56 => exact fun _ _ _ h => h
      case yya56 => (intro wx hSw; obtain ⟨y0, y1, y2⟩ := hSw; go_simp; try (with_reducible rfl))
      try simp only [Act.put, List.setIfInBounds_toArray, List.set_cons_zero, List.set_cons_succ]
      refine wpAnyH_ready (rs := [15]) (by kernel_rfl) (by simp) ?_
      refine AllReadyH.cons (o := { dst := some 57, op := _, type := _, pos := _, after := _, guard := _ }) rfl (fun K hK => ?_) AllReadyH.nil
      go_simp
      obtain ⟨w2, hw2⟩ : ∃ w2, w2 = (wc.alloc (Obj.cells (madeCells #[.bool false, .int .i64 0, .int .i64 0, .int .i64 0] (2 * nw * 4)) 118)).drew := ⟨_, rfl⟩
      rw [← hw2]
      have hb2 : Below wc.heap.size wc w2 := by rw [hw2]; exact ((Below.refl _ _).alloc (Nat.le_refl _) _).drew
      have hV : OwnV w2 118 wc.heap.size (8 * nw) zeroP := by
        rw [hw2, show 8 * nw = 4 * (2 * nw) by omega]
        exact (own_plans wc (2 * nw)).drew
      refine hK.out _ _ (SM.below ⟨wb0', wb1', mk1'⟩ hb2) (fun hHeld2 => ?_)
      clear hK K hHeld hw2
      try simp only [Act.put, List.setIfInBounds_toArray, List.set_cons_zero, List.set_cons_succ]
      have hszc : w0.heap.size ≤ wc.heap.size := Nat.le_trans hszw HB1.out.size
      have hgrow := HMEMO1.out.grow hb2 hszc hV (Nat.le_refl _) (fun k flag _ => plan_zero _ _) ha HGA.out (by decide)
      obtain ⟨hMg, hFg⟩ := hgrow
      have hor := HOUT1.out.keep hFg
      have q2 := (Q1.out.below hb2 Q1.out.lt).other (a := ⟨kb, a, none⟩) HOUT1.out.2.1 (.slice (some ⟨wc.heap.size, 0, none⟩) (2 * nw) (2 * nw))
      have x2 := cell_below x1' (Nat.le_refl _) hb2
      have hkb := (HMEMO1.out.below hb2).1.1
      have fz := hkb.frozen
      have zk2 := hkb.lt
      have HFR2 := Lib.hid (HFR1.out.trans hFg)
      have HMg := Lib.hid hMg
      have HOR := Lib.hid hor
      have Q2 := Lib.hid q2
      have HUP := Lib.hid (show updG G a wc.heap.size a = some wc.heap.size by unfold updG; rw [if_pos rfl])
      clear hb2 hV hMg hFg hor q2 hkb
      refine takeD (i := 16) (oi := { dst := some 58, op := _, type := _, pos := _, after := _, guard := _ }) (d := some 58) (v := ?vvb58) rfl rfl (by kernel_rfl) (by kernel_rfl) (by kernel_rfl) ?ddb58 (by rfl) ?yyb58 hHeld2 ?rrb58
      case ddb58 => exact fun _ _ _ h => h
      case yyb58 => (intro wx hSw; obtain ⟨y0, y1, y2⟩ := hSw; go_simp; try (with_reducible rfl))
      try simp only [Act.put, List.setIfInBounds_toArray, List.set_cons_zero, List.set_cons_succ]
      refine wpAnyH_ready (rs := [17]) (by kernel_rfl) (by simp) ?_
      refine AllReadyH.cons (o := { dst := none, op := _, type := _, pos := _, after := _, guard := _ }) rfl (fun K hK => ?_) AllReadyH.nil
      go_simp
      refine hK.out _ _ ?kp (fun hHeld3 => ?_)
      case kp =>
        have hb3 : Below w0.heap.size w0 (w2.setCell ⟨kb, a, none⟩ (.slice (some ⟨wc.heap.size, 0, none⟩) (2 * nw) (2 * nw))) := hbel.trans HFR2.out.1
        refine ⟨(Blk.out HWB.out HOUT.out HFR2.out).cell (i := 0) rfl, (Blk.out HWB.out HOUT.out HFR2.out).cell (i := 1) rfl, ?_⟩
        exact cell_below MK01.out (Nat.le_refl _) hb3
      clear hK K hHeld2 hHeld3
      try simp only [Act.put, List.setIfInBounds_toArray, List.set_cons_zero, List.set_cons_succ]
      refine wpAnyH_done (by kernel_rfl) ?_ _
      go_wp2_with fail
      go_meet
      exact ⟨rfl, _, _, HUP.out, HMg.out, HFR2.out, Q2.out, HOR.out⟩
  case rest =>
  obtain ⟨rfl, hrowed⟩ := hcut
  obtain ⟨Gr, g, hrow, hmem, hfr, hres, hresO⟩ := hrowed
  have HROW := Lib.hid hrow
  have HMEM := Lib.hid hmem
  have HFR := Lib.hid hfr
  have HRES := Lib.hid hres
  have HRESO := Lib.hid hresO
  have hwbc : Blk wc wb #[.pointer (some ⟨m, 0, none⟩), .slice (some ⟨kb, 0, none⟩) (n + 1) (n + 1)] 114 := Blk.out HWB.out HOUT.out hfr
  have HWBC := Lib.hid hwbc
  have c0 : wc.cell? ⟨wb, 0, none⟩ = some (.pointer (some ⟨m, 0, none⟩)) := hwbc.cell (i := 0) rfl
  have c1 : wc.cell? ⟨wb, 1, none⟩ = some (.slice (some ⟨kb, 0, none⟩) (n + 1) (n + 1)) := hwbc.cell (i := 1) rfl
  have c2 : wc.cell? ⟨kb, a, none⟩ = some (.slice (some ⟨g, 0, none⟩) (2 * nw) (2 * nw)) := by
    rw [hmem.1.1.cell (i := a) (by omega), hrow]; rfl
  obtain ⟨V, hV, _, hplan⟩ := hmem.2.1 a g ha hrow
  obtain ⟨ky, hky⟩ : ∃ ky, ky = keyN k flag := ⟨_, rfl⟩
  have hkl : ky < 2 * nw := by rw [hky]; unfold keyN; split <;> omega
  have hki : (ky : Int) < 2 * (nw : Int) := by omega
  have hp := hplan k flag hkn
  rw [← hky, ← HR.out] at hp
  have v0 := hV.cell (i := ky * 4) (by omega)
  have v1 := hV.cell (i := ky * 4 + 1) (by omega)
  have v2 := hV.cell (i := ky * 4 + 2) (by omega)
  have v3 := hV.cell (i := ky * 4 + 3) (by omega)
  have zz0 := lt_of_cell c0
  have zz1 := lt_of_cell c2
  have zz2 := hV.lt
  have zz3 := HRES.out.lt
  have fzz := HRES.out.frozen
  have r0 : wc.cell? ⟨w.heap.size, 0, none⟩ = some (.bool false) := HRES.out.cell (i := 0) rfl
  have r1 : wc.cell? ⟨w.heap.size, 1, none⟩ = some (.int .i64 0) := HRES.out.cell (i := 1) rfl
  have r2 : wc.cell? ⟨w.heap.size, 2, none⟩ = some (.int .i64 0) := HRES.out.cell (i := 2) rfl
  have r3 : wc.cell? ⟨w.heap.size, 3, none⟩ = some (.int .i64 0) := HRES.out.cell (i := 3) rfl
  simp only at zz0 zz1
  have HKY := Lib.hid hky
  rw [← hky]
  clear hrow hmem hfr hres hresO HMEMO1 HOUT1 HFR1 Q1 HB1 x1' wb0' wb1' mk1' zk' zm' zwb' HROWS e1 e3 hmk hwbc hV hplan hky
  rcases hp with ⟨p0, p1, p2, p3⟩ | ⟨p0, p1, p2, p3⟩
  · rw [p0] at v0
    rw [p1] at v1
    rw [p2] at v2
    rw [p3] at v3
    clear p0 p1 p2 p3
    go_wp2_with fail
    obtain ⟨w4, hw4⟩ : ∃ w4, w4 = (wc.alloc (Obj.cells #[.bool false, .int .i64 0, .int .i64 0, .int .i64 0] 118)).alloc (Obj.cells #[.bool true, .int .i64 (-1), .int .i64 0, .int .i64 0] 118) := ⟨_, rfl⟩
    have hb4 : Below wc.heap.size wc w4 := by rw [hw4]; exact ((Below.refl _ _).alloc (Nat.le_refl _) _).alloc (by simp) _
    rw [← hw4]
    have h4s : w4.heap.size = wc.heap.size + 1 + 1 := by rw [hw4]; simp
    have q4 : Blk w4 (wc.heap.size + 1) #[.bool true, .int .i64 (-1), .int .i64 0, .int .i64 0] 118 := by
      have h := Blk.new (wc.alloc (Obj.cells #[.bool false, .int .i64 0, .int .i64 0, .int .i64 0] 118)) #[.bool true, .int .i64 (-1), .int .i64 0, .int .i64 0] 118
      rw [hw4]
      simpa using h
    obtain ⟨q, hq⟩ : ∃ q, q = wc.heap.size + 1 := ⟨_, rfl⟩
    rw [← hq] at q4 h4s ⊢
    have hqc : wc.heap.size < q := by omega
    have hqw : w.heap.size < q := by have := HFR.out.1.size; omega
    refine (ends_any m n L nw W D a k w4 (HM0.out.below (Nat.le_refl _) (hbel.trans (HFR.out.1.trans (hb4.mono (Nat.le_trans hszw HFR.out.1.size))))) (by omega) ha HG.out.parts hnw (by omega)).mono ?_
    rintro e w6 ⟨v, rfl, hrow6, hb46⟩
    have hb6 : Below wc.heap.size wc w6 := hb4.trans (hb46.mono (by omega))
    have h46 := hb46.size
    have hR6 := hrow6.mono (base' := q + 1) (by omega)
    have hrnd : Rnd n L nw W D 140 118 114 74 m wb kb w0.heap.size w G q v (endF n L nw W a k) none a g w6 Gr :=
      ⟨⟨hszw, hqw⟩, HROW.out, HMEM.out.below hb6, HFR.out.trans (Fr.of_below hb6 (Nat.le_trans hszw HFR.out.1.size)), HRES.out.below hb6 HRES.out.lt, HRESO.out.below hb6, q4.below hb46 q4.lt, Out.new HMEM.out hb6 (by omega) (by omega), HWBC.out.below hb6 HWBC.out.lt, (HOUT.out.keep HFR.out).below hb6, HOUT.out.1, hR6, fun k hk => Out.new HMEM.out hb6 (by have := RowL.ge hR6 k hk; omega) (RowL.blk_lt hR6 k hk)⟩
    obtain ⟨xs, hxs⟩ : ∃ xs, xs = endF n L nw W a k := ⟨_, rfl⟩
    have HFOLD := Lib.hid (show xs.foldl (stepB n L D (bestF n L nw W D) k flag) none = some R by rw [hxs, HR.out]; exact fold_best ha)
    have HXS := Lib.hid (show ∀ x ∈ xs, x = lineF n L nw W a x.z k ∧ a ≤ x.z ∧ x.z ≤ n from fun x hx => endF_mem ha (by rw [← hxs]; exact hx))
    rw [← hxs] at hrnd
    obtain ⟨av, cv, hv, _, _⟩ := RowL.slice hrnd.lines
    have hxl : xs.length ≤ 1001 := by have := endF_len (n := n) (L := L) (nw := nw) (W := W) (a := a) (num := k); rw [← hxs] at this; omega
    subst hv
    have HRND := Lib.hid hrnd
    clear hrnd hR6 hrow6 hb6 hb46 hb4 q4 hw4 hq h4s h46 hqc hxs c0 c1 c2 r0 r1 r2 r3 v0 v1 v2 v3 zz0 zz1 zz2 zz3 fzz hki e2
    go_wp2_with fail
    go_loopw [81] (fun iv wr => ∃ (j : Nat) (Gr : Nat → Option Nat) (acc : Option Pl), iv = .int .i64 j ∧ j ≤ xs.length ∧ (xs.drop j).foldl (stepB n L D (bestF n L nw W D) k flag) acc = some R ∧ Rnd n L nw W D 140 118 114 74 m wb kb w0.heap.size w G q (.slice av xs.length cv) xs acc a g wr Gr) (fun iv _ => xs.length - (intOf iv).toNat)
    case atStart => exact ⟨0, _, none, rfl, Nat.zero_le _, HFOLD.out, HRND.out⟩
    case round =>
      obtain ⟨j, G2, acc, rfl, hjl, hfold, hrnd⟩ := hrel
      have HF := Lib.hid hfold
      have HN := Lib.hid hrnd
      clear hfold hrnd HFOLD HRND
      by_cases hlt : j < xs.length
      · have HF2 := HF.out
        rw [List.drop_eq_getElem_cons hlt, List.foldl_cons] at HF2
        obtain ⟨hx, hxa, hxn⟩ := HXS.out _ (List.getElem_mem hlt)
        obtain ⟨x, hxe⟩ : ∃ x, x = xs[j] := ⟨_, rfl⟩
        rw [← hxe] at HF2 hx hxa hxn
        have hxq : xs[j]? = some x := by rw [hxe]; exact List.getElem?_eq_getElem hlt
        have hbd := line_bd (nw := nw) (W := W) (num := k) (n := n) (L := L) (a := a) (z := x.z) (by omega) HG.out.parts hxa hxn
        have hwd := lineW HG.out a x.z k
        have hcb := costF_bound HG.out hxa hxn (num := k)
        have hdb := dblF_bound HG.out flag x.z
        rw [← hx] at hbd hwd hcb
        have hxa2 : x.a = a := by rw [hx]; rfl
        obtain ⟨xa, z, Nt, St, Rs, Wd⟩ := x
        simp only at hxa2 hxa hxn hbd hwd hdb
        subst hxa2
        obtain ⟨C0, hC0⟩ : ∃ c, c = costF n L ⟨xa, z, Nt, St, Rs, Wd⟩ := ⟨_, rfl⟩
        obtain ⟨C1, hC1⟩ : ∃ c, c = C0 + dblF n L D flag z := ⟨_, rfl⟩
        rw [← hC0] at hcb
        have hc1b : -100000000 ≤ C1 ∧ C1 ≤ 2500001000000 := by rw [hC1]; omega
        obtain ⟨way, hway⟩ : ∃ y, y = wayC n L D (bestF n L nw W D) k flag ⟨xa, z, Nt, St, Rs, Wd⟩ := ⟨_, rfl⟩
        obtain ⟨lb, hlb⟩ : ∃ b, b = lastB n L z := ⟨_, rfl⟩
        obtain ⟨fb, hfb⟩ : ∃ b, b = flgB n L z := ⟨_, rfl⟩
        have HWAYL := Lib.hid (show lb = true → way = (C1, 1) from fun h => by rw [hway, hC1, hC0]; unfold wayC; rw [if_pos (by rw [← hlb]; exact h)])
        obtain ⟨pp, hpp⟩ : ∃ p, p = bestF n L nw W D (aftF n L z) (k + 1) fb := ⟨_, rfl⟩
        have HWAYN := Lib.hid (show lb = false → way = (C1 + pp.2.1, 1 + pp.2.2) from fun h => by rw [hway, hC1, hC0, hpp, hfb]; unfold wayC; rw [if_neg (by rw [← hlb, h]; decide)])
        have HAFT := Lib.hid (show lb = false → z < aftF n L z ∧ aftF n L z < n from fun h => aftF_gt hxn (by rw [← hlb]; exact h))
        have HPB := Lib.hid (show lb = false → In3 n (aftF n L z) pp from fun h => by rw [hpp]; exact best_in3 HG.out (n + 1 - aftF n L z) _ _ _ (by have := aftF_gt hxn (by rw [← hlb]; exact h); omega) (Nat.le_refl _))
        have HF3 := Lib.hid (show (xs.drop (j + 1)).foldl (stepB n L D (bestF n L nw W D) k flag) (better acc z way.1 way.2) = some R by rw [hway]; exact HF2)
        have HC0 := Lib.hid hC0
        have HC1 := Lib.hid (show C1 = C0 + (if (flag && fb) = true then D else 0) by rw [hC1, hfb]; rfl)
        have HLB := Lib.hid hlb
        have HFB := Lib.hid hfb
        have HPP := Lib.hid hpp
        obtain ⟨gl, cl, hve, hgl1, hgl2, hcl1, hcl2, hfrz, hcells⟩ := RowL.at HN.out.lines (by omega)
        obtain ⟨rfl, rfl⟩ : av = some ⟨gl, 0, none⟩ ∧ cv = cl := by injection hve with h1 _ h2; exact ⟨h1, h2⟩
        have l0 : wr.cell? ⟨gl, j * 6 + 0, none⟩ = some (.int .i64 xa) := hcells _ _ (linesC_get hxq (j := 0) rfl)
        have l1 : wr.cell? ⟨gl, j * 6 + 1, none⟩ = some (.int .i64 z) := hcells _ _ (linesC_get hxq (j := 1) rfl)
        have l2 : wr.cell? ⟨gl, j * 6 + 2, none⟩ = some (.int .i64 Nt) := hcells _ _ (linesC_get hxq (j := 2) rfl)
        have l3 : wr.cell? ⟨gl, j * 6 + 3, none⟩ = some (.int .i64 St) := hcells _ _ (linesC_get hxq (j := 3) rfl)
        have l4 : wr.cell? ⟨gl, j * 6 + 4, none⟩ = some (.int .i64 Rs) := hcells _ _ (linesC_get hxq (j := 4) rfl)
        have l5 : wr.cell? ⟨gl, j * 6 + 5, none⟩ = some (.int .i64 Wd) := hcells _ _ (linesC_get hxq (j := 5) rfl)
        rw [Nat.add_zero] at l0
        have hxz : (z : Int) ≤ n := by omega
        obtain ⟨bd1, bd2, bd3⟩ := hbd
        clear hve hcl1 hcl2 hfrz hcells hxq hxe hC0 hC1 hway hlb hfb hpp HF2 hx HF hcb hdb
        go_wp2_with fail
        have hX1 := RndX.start (px := wr.heap.size) (z := z) (N := Nt) (S := St) (R := Rs) (Wd := Wd) HN.out ha rfl
        obtain ⟨w1, hw1⟩ : ∃ w1, w1 = wr.alloc (Obj.cells #[.int .i64 xa, .int .i64 z, .int .i64 Nt, .int .i64 St, .int .i64 Rs, .int .i64 Wd] 74) := ⟨_, rfl⟩
        rw [← hw1] at hX1 ⊢
        obtain ⟨px, hpx⟩ : ∃ px, px = wr.heap.size := ⟨_, rfl⟩
        rw [← hpx] at hX1 ⊢
        clear hw1 hpx l0 l1 l2 l3 l4 l5 hgl1 hgl2 HN
        have hX1d := hX1.below ha (Below.refl _ _).drew
        refine wp_region_held_drew (S := SX wb m px xa z Nt St Rs Wd) (by kernel_rfl) hX1d.sx ?_
        intro hHeld
        refine takeD (i := 0) (oi := { dst := some 85, op := _, type := _, pos := _, after := _, guard := _ }) (d := some 85) (v := ?vva85) rfl rfl (by kernel_rfl) (by kernel_rfl) (by kernel_rfl) ?dda85 (by rfl) ?yya85 hHeld ?rra85
        case dda85 => exact fun _ _ _ h => h
        case yya85 => (intro wx hSw; obtain ⟨y0, y1, y2, y3, y4, y5, y6⟩ := hSw; go_simp; try (with_reducible rfl))
        try simp only [Act.put, List.setIfInBounds_toArray, List.set_cons_zero, List.set_cons_succ]
        refine takeD (i := 1) (oi := { dst := some 86, op := _, type := _, pos := _, after := _, guard := _ }) (d := some 86) (v := ?vva86) rfl rfl (by kernel_rfl) (by kernel_rfl) (by kernel_rfl) ?dda86 (by rfl) ?yya86 hHeld ?rra86
        case dda86 => exact fun _ _ _ h => h
        case yya86 => (intro wx hSw; obtain ⟨y0, y1, y2, y3, y4, y5, y6⟩ := hSw; go_simp; try (with_reducible rfl))
        try simp only [Act.put, List.setIfInBounds_toArray, List.set_cons_zero, List.set_cons_succ]
        refine takeD (i := 2) (oi := { dst := some 87, op := _, type := _, pos := _, after := _, guard := _ }) (d := some 87) (v := ?vva87) rfl rfl (by kernel_rfl) (by kernel_rfl) (by kernel_rfl) ?dda87 (by rfl) ?yya87 hHeld ?rra87
        case dda87 => exact fun _ _ _ h => h
        case yya87 => (intro wx hSw; obtain ⟨y0, y1, y2, y3, y4, y5, y6⟩ := hSw; go_simp; try (with_reducible rfl))
        try simp only [Act.put, List.setIfInBounds_toArray, List.set_cons_zero, List.set_cons_succ]
        refine takeD (i := 3) (oi := { dst := some 88, op := _, type := _, pos := _, after := _, guard := _ }) (d := some 88) (v := ?vva88) rfl rfl (by kernel_rfl) (by kernel_rfl) (by kernel_rfl) ?dda88 (by rfl) ?yya88 hHeld ?rra88
        case dda88 => exact fun _ _ _ h => h
        case yya88 => (intro wx hSw; obtain ⟨y0, y1, y2, y3, y4, y5, y6⟩ := hSw; go_simp; try (with_reducible rfl))
        try simp only [Act.put, List.setIfInBounds_toArray, List.set_cons_zero, List.set_cons_succ]
        refine takeD (i := 4) (oi := { dst := some 89, op := _, type := _, pos := _, after := _, guard := _ }) (d := some 89) (v := ?vva89) rfl rfl (by kernel_rfl) (by kernel_rfl) (by kernel_rfl) ?dda89 (by rfl) ?yya89 hHeld ?rra89
        case dda89 => exact fun _ _ _ h => h
        case yya89 => (intro wx hSw; obtain ⟨y0, y1, y2, y3, y4, y5, y6⟩ := hSw; go_simp; try (with_reducible rfl))
        try simp only [Act.put, List.setIfInBounds_toArray, List.set_cons_zero, List.set_cons_succ]
        refine wpAnyH_ready (rs := [5]) (by kernel_rfl) (by simp) ?_
        refine AllReadyH.cons (o := { dst := some 90, op := _, type := _, pos := _, after := _, guard := _ }) rfl (fun K hK => ?_) AllReadyH.nil
        go_simp
        refine (cost_any m n L nw W D xa z Nt St Rs Wd _ (hX1d.1.mk0 rfl hbel HM0.out) (by omega) hxn HG.out.parts bd1 bd2 bd3 hwd).mono ?_
        rintro e w2 ⟨rfl, hb2⟩
        rw [← HC0.out]
        have hX2 := hX1d.below ha hb2
        refine hK.out _ _ hX2.sx (fun hHeld2 => ?_)
        clear hK K
        try simp only [Act.put, List.setIfInBounds_toArray, List.set_cons_zero, List.set_cons_succ]
        refine takeD (i := 6) (oi := { dst := some 14, op := _, type := _, pos := _, after := _, guard := _ }) (d := some 14) (v := ?vvb14) rfl rfl (by kernel_rfl) (by kernel_rfl) (by kernel_rfl) ?ddb14 (by rfl) ?yyb14 hHeld2 ?rrb14
        case ddb14 => exact fun _ _ _ h => h
        case yyb14 => (intro wx hSw; obtain ⟨y0, y1, y2, y3, y4, y5, y6⟩ := hSw; go_simp; try (with_reducible rfl))
        try simp only [Act.put, List.setIfInBounds_toArray, List.set_cons_zero, List.set_cons_succ]
        refine takeD (i := 7) (oi := { dst := some 15, op := _, type := _, pos := _, after := _, guard := _ }) (d := some 15) (v := ?vvb15) rfl rfl (by kernel_rfl) (by kernel_rfl) (by kernel_rfl) ?ddb15 (by rfl) ?yyb15 hHeld2 ?rrb15
        case ddb15 => exact fun _ _ _ h => h
        case yyb15 => (intro wx hSw; obtain ⟨y0, y1, y2, y3, y4, y5, y6⟩ := hSw; go_simp; try (with_reducible rfl))
        try simp only [Act.put, List.setIfInBounds_toArray, List.set_cons_zero, List.set_cons_succ]
        refine wpAnyH_done (by kernel_rfl) ?_ _
        have HX2 := Lib.hid hX2
        clear hHeld hHeld2 hX1 hX1d hb2 hX2
        go_upto_region 15 with fail
        go_cut [81, 100] from 81 to 173 (fun iv tv wx => iv = .int .i64 j ∧ tv = .bool (flag && fb) ∧ RndX n L nw W D 140 118 114 74 m wb kb w0.heap.size w G q (.slice (some ⟨gl, 0, none⟩) xs.length cv) xs acc xa g px z Nt St Rs Wd wx G2)
        case first =>
          have s := HX2.out.sx
          obtain ⟨s0, _, s2, _⟩ := s
          have zs0 := lt_of_cell s0
          have zs2 := lt_of_cell s2
          simp only at zs0 zs2
          have HFLG := Lib.hid (fun kq => flagged_any m n L nw W D z (w2.drewN kq) ((HX2.out.drewN ha kq).1.mk0 rfl hbel HM0.out) (by omega) hxn)
          rw [← HFB.out] at HFLG
          cases flag
          · go_quiet ((go_at_call 60; exact quiet_call (HFLG.out _)))
            go_wp2_with fail
            go_meet
            exact ⟨rfl, rfl, HX2.out.drewN ha _⟩
          · go_quiet ((go_at_call 60; exact quiet_call (HFLG.out _)))
            go_wp2_with fail
            go_meet
            exact ⟨rfl, by simp, HX2.out.drewN ha _⟩
        case rest =>
        obtain ⟨rfl, rfl, hX3⟩ := hcut
        have HX3 := Lib.hid hX3
        clear hX3 HX2
        go_upto_if 100 with fail
        go_cut [14, 81] from 81 to 173 (fun nv iv wx => nv = .int .i64 C1 ∧ iv = .int .i64 j ∧ RndX n L nw W D 140 118 114 74 m wb kb w0.heap.size w G q (.slice (some ⟨gl, 0, none⟩) xs.length cv) xs acc xa g px z Nt St Rs Wd wx G2)
        case first =>
          cases hff : flag && fb
          · have HE := Lib.hid (show C1 = C0 by rw [HC1.out, hff]; simp)
            clear hff
            go_wp2_with fail
            go_meet
            exact ⟨by rw [HE.out], rfl, HX3.out⟩
          · have HE := Lib.hid (show C1 = C0 + D by rw [HC1.out, hff]; simp)
            have hdd := HG.out.double
            have hcd : -200000000 ≤ C0 ∧ C0 ≤ 2600000000000 := by have := HE.out; omega
            obtain ⟨s0, _⟩ := HX3.out.sx
            have zs0 := lt_of_cell s0
            have s1 : wc.cell? ⟨m, 2, none⟩ = some (.int .i64 D) := cell_below MK02.out (Nat.le_refl _) (hbel.trans HX3.out.1.fr.1)
            have zs1 := lt_of_cell s1
            simp only at zs0 zs1
            clear hff
            go_wp2_with fail
            go_meet
            exact ⟨by rw [HE.out], rfl, HX3.out⟩
        case rest =>
        obtain ⟨rfl, rfl, hX4⟩ := hcut
        have HX4 := Lib.hid hX4
        clear hX4 HX3
        go_upto_region 17 with fail
        go_cut [81, 118] from 81 to 173 (fun iv tv wx => iv = .int .i64 j ∧ tv = .bool (!lb) ∧ RndX n L nw W D 140 118 114 74 m wb kb w0.heap.size w G q (.slice (some ⟨gl, 0, none⟩) xs.length cv) xs acc xa g px z Nt St Rs Wd wx G2)
        case first =>
          obtain ⟨s0, _, s2, _⟩ := HX4.out.sx
          have zs0 := lt_of_cell s0
          have zs2 := lt_of_cell s2
          simp only at zs0 zs2
          have HLAS := Lib.hid (fun kq => last_any m n L nw W D z (wc.drewN kq) ((HX4.out.drewN ha kq).1.mk0 rfl hbel HM0.out) (by omega) hxn)
          rw [← HLB.out] at HLAS
          go_quiet ((go_at_call 58; exact quiet_call2 (HLAS.out _)))
          go_wp2_with fail
          go_meet
          exact ⟨rfl, rfl, HX4.out.drewN ha _⟩
        case rest =>
        obtain ⟨rfl, rfl, hX5⟩ := hcut
        have HX5 := Lib.hid hX5
        clear hX5 HX4
        go_upto_if 118 with fail
        go_cut [14, 15, 81] from 81 to 173 (fun nv kv iv wx => nv = .int .i64 way.1 ∧ kv = .int .i64 way.2 ∧ iv = .int .i64 j ∧ ∃ G3, RndX n L nw W D 140 118 114 74 m wb kb w0.heap.size w G q (.slice (some ⟨gl, 0, none⟩) xs.length cv) xs acc xa g px z Nt St Rs Wd wx G3)
        case first =>
          cases lb
          · have HW := Lib.hid (HWAYN.out rfl)
            have HAF := Lib.hid (HAFT.out rfl)
            have hpb := HPB.out rfl
            obtain ⟨_, pb2, pb3⟩ := hpb
            obtain ⟨af, haf⟩ : ∃ y, y = aftF n L z := ⟨_, rfl⟩
            have hafb : z < af ∧ af < n := by rw [haf]; exact HAF.out
            rw [← haf] at pb2 pb3
            have f1 : IntKind.i64.wrap ((k : Int) + 1) = (k : Int) + 1 := IntWalk.i64_in _ ⟨by omega, by omega⟩
            have HAFE := Lib.hid haf
            clear haf HWAYN HWAYL HPB HAFT
            have hX5d := HX5.out.below ha (Below.refl _ _).drew
            go_wp2_with fail
            refine wp_region_held_drew (S := SX wb m px xa z Nt St Rs Wd) (by kernel_rfl) hX5d.sx ?_
            intro hHeld
            obtain ⟨wd, hwd⟩ : ∃ wd, wd = wc.drew := ⟨_, rfl⟩
            rw [← hwd] at hX5d hHeld ⊢
            clear hwd
            refine takeD (i := 0) (oi := { dst := some 119, op := _, type := _, pos := _, after := _, guard := _ }) (d := some 119) (v := ?vvc119) rfl rfl (by kernel_rfl) (by kernel_rfl) (by kernel_rfl) ?ddc119 (by rfl) ?yyc119 hHeld ?rrc119
            case ddc119 => exact fun _ _ _ h => h
            case yyc119 => (intro wx hSw; obtain ⟨y0, y1, y2, y3, y4, y5, y6⟩ := hSw; go_simp; try (with_reducible rfl))
            try simp only [Act.put, List.setIfInBounds_toArray, List.set_cons_zero, List.set_cons_succ]
            refine takeD (i := 1) (oi := { dst := some 120, op := _, type := _, pos := _, after := _, guard := _ }) (d := some 120) (v := ?vvc120) rfl rfl (by kernel_rfl) (by kernel_rfl) (by kernel_rfl) ?ddc120 (by rfl) ?yyc120 hHeld ?rrc120
            case ddc120 => exact fun _ _ _ h => h
            case yyc120 => (intro wx hSw; obtain ⟨y0, y1, y2, y3, y4, y5, y6⟩ := hSw; go_simp; try (with_reducible rfl))
            try simp only [Act.put, List.setIfInBounds_toArray, List.set_cons_zero, List.set_cons_succ]
            refine takeD (i := 2) (oi := { dst := some 121, op := _, type := _, pos := _, after := _, guard := _ }) (d := some 121) (v := ?vvc121) rfl rfl (by kernel_rfl) (by kernel_rfl) (by kernel_rfl) ?ddc121 (by rfl) ?yyc121 hHeld ?rrc121
            case ddc121 => exact fun _ _ _ h => h
            case yyc121 => (intro wx hSw; obtain ⟨y0, y1, y2, y3, y4, y5, y6⟩ := hSw; go_simp; try (with_reducible rfl))
            try simp only [Act.put, List.setIfInBounds_toArray, List.set_cons_zero, List.set_cons_succ]
            refine takeD (i := 3) (oi := { dst := some 122, op := _, type := _, pos := _, after := _, guard := _ }) (d := some 122) (v := ?vvc122) rfl rfl (by kernel_rfl) (by kernel_rfl) (by kernel_rfl) ?ddc122 (by rfl) ?yyc122 hHeld ?rrc122
            case ddc122 => exact fun _ _ _ h => h
            case yyc122 => (intro wx hSw; obtain ⟨y0, y1, y2, y3, y4, y5, y6⟩ := hSw; go_simp; try (with_reducible rfl))
            try simp only [Act.put, List.setIfInBounds_toArray, List.set_cons_zero, List.set_cons_succ]
            refine takeD (i := 4) (oi := { dst := some 123, op := _, type := _, pos := _, after := _, guard := _ }) (d := some 123) (v := ?vvc123) rfl rfl (by kernel_rfl) (by kernel_rfl) (by kernel_rfl) ?ddc123 (by rfl) ?yyc123 hHeld ?rrc123
            case ddc123 => exact fun _ _ _ h => h
            case yyc123 => (intro wx hSw; obtain ⟨y0, y1, y2, y3, y4, y5, y6⟩ := hSw; go_simp; try (with_reducible rfl))
            try simp only [Act.put, List.setIfInBounds_toArray, List.set_cons_zero, List.set_cons_succ]
            refine takeD (i := 5) (oi := { dst := some 124, op := _, type := _, pos := _, after := _, guard := _ }) (d := some 124) (v := ?vvc124) rfl rfl (by kernel_rfl) (by kernel_rfl) (by kernel_rfl) ?ddc124 (by rfl) ?yyc124 hHeld ?rrc124
            case ddc124 => exact fun _ _ _ h => h
            case yyc124 => (intro wx hSw; obtain ⟨y0, y1, y2, y3, y4, y5, y6⟩ := hSw; go_simp; try (with_reducible rfl))
            try simp only [Act.put, List.setIfInBounds_toArray, List.set_cons_zero, List.set_cons_succ]
            refine takeD (i := 6) (oi := { dst := some 125, op := _, type := _, pos := _, after := _, guard := _ }) (d := some 125) (v := ?vvc125) rfl rfl (by kernel_rfl) (by kernel_rfl) (by kernel_rfl) ?ddc125 (by rfl) ?yyc125 hHeld ?rrc125
            case ddc125 => exact fun _ _ _ h => h
            case yyc125 => (intro wx hSw; obtain ⟨y0, y1, y2, y3, y4, y5, y6⟩ := hSw; go_simp; try (with_reducible rfl))
            try simp only [Act.put, List.setIfInBounds_toArray, List.set_cons_zero, List.set_cons_succ]
            refine takeD (i := 8) (oi := { dst := some 127, op := _, type := _, pos := _, after := _, guard := _ }) (d := some 127) (v := ?vvc127) rfl rfl (by kernel_rfl) (by kernel_rfl) (by kernel_rfl) ?ddc127 (by rfl) ?yyc127 hHeld ?rrc127
            case ddc127 => exact fun _ _ _ h => h
            case yyc127 => (intro wx hSw; obtain ⟨y0, y1, y2, y3, y4, y5, y6⟩ := hSw; go_simp; try (with_reducible rfl))
            try simp only [Act.put, List.setIfInBounds_toArray, List.set_cons_zero, List.set_cons_succ]
            refine takeD (i := 9) (oi := { dst := some 128, op := _, type := _, pos := _, after := _, guard := _ }) (d := some 128) (v := ?vvc128) rfl rfl (by kernel_rfl) (by kernel_rfl) (by kernel_rfl) ?ddc128 (by rfl) ?yyc128 hHeld ?rrc128
            case ddc128 => exact fun _ _ _ h => h
            case yyc128 => (intro wx hSw; obtain ⟨y0, y1, y2, y3, y4, y5, y6⟩ := hSw; go_simp; try (with_reducible rfl))
            try simp only [Act.put, List.setIfInBounds_toArray, List.set_cons_zero, List.set_cons_succ]
            refine takeD (i := 10) (oi := { dst := some 129, op := _, type := _, pos := _, after := _, guard := _ }) (d := some 129) (v := ?vvc129) rfl rfl (by kernel_rfl) (by kernel_rfl) (by kernel_rfl) ?ddc129 (by rfl) ?yyc129 hHeld ?rrc129
            case ddc129 => exact fun _ _ _ h => h
            case yyc129 => (intro wx hSw; obtain ⟨y0, y1, y2, y3, y4, y5, y6⟩ := hSw; go_simp; try (with_reducible rfl))
            try simp only [Act.put, List.setIfInBounds_toArray, List.set_cons_zero, List.set_cons_succ]
            refine takeD (i := 11) (oi := { dst := some 130, op := _, type := _, pos := _, after := _, guard := _ }) (d := some 130) (v := ?vvc130) rfl rfl (by kernel_rfl) (by kernel_rfl) (by kernel_rfl) ?ddc130 (by rfl) ?yyc130 hHeld ?rrc130
            case ddc130 => exact fun _ _ _ h => h
            case yyc130 => (intro wx hSw; obtain ⟨y0, y1, y2, y3, y4, y5, y6⟩ := hSw; go_simp; try (with_reducible rfl))
            try simp only [Act.put, List.setIfInBounds_toArray, List.set_cons_zero, List.set_cons_succ]
            refine takeD (i := 12) (oi := { dst := some 131, op := _, type := _, pos := _, after := _, guard := _ }) (d := some 131) (v := ?vvc131) rfl rfl (by kernel_rfl) (by kernel_rfl) (by kernel_rfl) ?ddc131 (by rfl) ?yyc131 hHeld ?rrc131
            case ddc131 => exact fun _ _ _ h => h
            case yyc131 => (intro wx hSw; obtain ⟨y0, y1, y2, y3, y4, y5, y6⟩ := hSw; go_simp; try (with_reducible rfl))
            try simp only [Act.put, List.setIfInBounds_toArray, List.set_cons_zero, List.set_cons_succ]
            refine takeD (i := 13) (oi := { dst := some 132, op := _, type := _, pos := _, after := _, guard := _ }) (d := some 132) (v := ?vvc132) rfl rfl (by kernel_rfl) (by kernel_rfl) (by kernel_rfl) ?ddc132 (by rfl) ?yyc132 hHeld ?rrc132
            case ddc132 => exact fun _ _ _ h => h
            case yyc132 => (intro wx hSw; obtain ⟨y0, y1, y2, y3, y4, y5, y6⟩ := hSw; go_simp; try (with_reducible rfl))
            try simp only [Act.put, List.setIfInBounds_toArray, List.set_cons_zero, List.set_cons_succ]
            refine takeD (i := 14) (oi := { dst := some 133, op := _, type := _, pos := _, after := _, guard := _ }) (d := some 133) (v := ?vvc133) rfl rfl (by kernel_rfl) (by kernel_rfl) (by kernel_rfl) ?ddc133 (by rfl) ?yyc133 hHeld ?rrc133
            case ddc133 => exact fun _ _ _ h => h
            case yyc133 => (intro wx hSw; obtain ⟨y0, y1, y2, y3, y4, y5, y6⟩ := hSw; go_simp; try (with_reducible rfl))
            try simp only [Act.put, List.setIfInBounds_toArray, List.set_cons_zero, List.set_cons_succ]
            refine takeD (i := 15) (oi := { dst := some 134, op := _, type := _, pos := _, after := _, guard := _ }) (d := some 134) (v := ?vvc134) rfl rfl (by kernel_rfl) (by kernel_rfl) (by kernel_rfl) ?ddc134 (by rfl) ?yyc134 hHeld ?rrc134
            case ddc134 => exact fun _ _ _ h => h
            case yyc134 => (intro wx hSw; obtain ⟨y0, y1, y2, y3, y4, y5, y6⟩ := hSw; go_simp; try (with_reducible rfl))
            try simp only [Act.put, List.setIfInBounds_toArray, List.set_cons_zero, List.set_cons_succ]
            clear f1
            refine wpAnyH_ready (rs := [7, 18]) (by kernel_rfl) (by simp) ?_
            refine AllReadyH.cons (o := { dst := some 126, op := _, type := _, pos := _, after := _, guard := _ }) rfl (fun K hK => ?_) (AllReadyH.cons (o := { dst := some 16, op := _, type := _, pos := _, after := _, guard := _ }) rfl (fun K hK => ?_) AllReadyH.nil)
            · go_simp
              refine (after_any m n L nw W D z _ ((hX5d).1.mk0 rfl hbel HM0.out) (by omega) hxn).mono ?_
              rintro e w3 ⟨rfl, rfl⟩
              rw [← HAFE.out]
              refine hK.out _ _ (hX5d).sx (fun hHeld2 => ?_)
              clear hK K
              try simp only [Act.put, List.setIfInBounds_toArray, List.set_cons_zero, List.set_cons_succ]
              refine wpAnyH_ready (rs := [16, 18]) (by kernel_rfl) (by simp) ?_
              refine AllReadyH.cons (o := { dst := some 135, op := _, type := _, pos := _, after := _, guard := _ }) rfl (fun K hK => ?_) (AllReadyH.cons (o := { dst := some 16, op := _, type := _, pos := _, after := _, guard := _ }) rfl (fun K hK => ?_) AllReadyH.nil)
              · go_simp
                refine (flagged_any m n L nw W D z _ ((hX5d).1.mk0 rfl hbel HM0.out) (by omega) hxn).mono ?_
                rintro e w3 ⟨rfl, rfl⟩
                rw [← HFB.out]
                refine hK.out _ _ (hX5d).sx (fun hHeld3 => ?_)
                clear hK K
                try simp only [Act.put, List.setIfInBounds_toArray, List.set_cons_zero, List.set_cons_succ]
                refine wpAnyH_ready (rs := [17, 18]) (by kernel_rfl) (by simp) ?_
                refine AllReadyH.cons (o := { dst := some 136, op := _, type := _, pos := _, after := _, guard := _ }) rfl (fun K hK => ?_) (AllReadyH.cons (o := { dst := some 16, op := _, type := _, pos := _, after := _, guard := _ }) rfl (fun K hK => ?_) AllReadyH.nil)
                · go_simp
                  rw [show ((k : Int) + 1) = ((k + 1 : Nat) : Int) from by omega]
                  refine (IH.out af (k + 1) fb _ G2 (by omega) (by omega) (by omega) (hbel.trans (hX5d).1.fr.1) (hX5d).1.work (hX5d).1.workO (hX5d).1.memo).mono ?_
                  rintro e w3 ⟨rfl, G3, hM3, hF3⟩
                  rw [show bestF n L nw W D af (k + 1) fb = pp by rw [HPP.out, HAFE.out]]
                  rw [show planV pp = .agg #[.bool true, .int .i64 pp.1, .int .i64 pp.2.1, .int .i64 pp.2.2] from rfl]
                  have hX7 := hX5d.step ha hM3 hF3
                  clear hM3 hF3
                  refine hK.out _ _ hX7.sx (fun hHeld4 => ?_)
                  clear hK K
                  try simp only [Act.put, List.setIfInBounds_toArray, List.set_cons_zero, List.set_cons_succ]
                  refine wpAnyH_ready (rs := [18]) (by kernel_rfl) (by simp) ?_
                  refine AllReadyH.cons (o := { dst := some 16, op := _, type := _, pos := _, after := _, guard := _ }) rfl (fun K hK => ?_) AllReadyH.nil
                  go_simp
                  have hq0 := hX7
                  obtain ⟨wo, w4, pq, hw4, hpq, hb34, qp, qpO, qpL⟩ := RndX.fresh hq0 118
                  rw [← hw4, ← hpq]
                  have hX8 := hq0.below ha hb34
                  refine hK.out _ _ hX8.sx (fun hHeld5 => ?_)
                  clear hw4 hpq hb34 hq0
                  clear hK K
                  try simp only [Act.put, List.setIfInBounds_toArray, List.set_cons_zero, List.set_cons_succ]
                  have y0 := qp.cell (i := 0) rfl
                  have y1 := qp.cell (i := 1) rfl
                  have y2 := qp.cell (i := 2) rfl
                  have y3 := qp.cell (i := 3) rfl
                  have fz := qp.frozen
                  have zf := qp.lt
                  refine wpAnyH_ready (rs := [19]) (by kernel_rfl) (by simp) ?_
                  refine AllReadyH.cons (o := { dst := none, op := _, type := _, pos := _, after := _, guard := _ }) rfl (fun K hK => ?_) AllReadyH.nil
                  go_simp
                  have hX10 := RndX.put hX8 qpL qpO pp
                  have b10 := (((qp.set 0 (.bool true)).set 1 (.int .i64 pp.1)).set 2 (.int .i64 pp.2.1)).set 3 (.int .i64 pp.2.2)
                  simp only [List.setIfInBounds_toArray, List.set_cons_zero, List.set_cons_succ] at b10
                  obtain ⟨w9, hw9⟩ : ∃ w9, w9 = (((w4.setCell ⟨pq, 0, none⟩ (.bool true)).setCell ⟨pq, 1, none⟩ (.int .i64 pp.1)).setCell ⟨pq, 2, none⟩ (.int .i64 pp.2.1)).setCell ⟨pq, 3, none⟩ (.int .i64 pp.2.2) := ⟨_, rfl⟩
                  rw [← hw9] at hX10 b10 ⊢
                  refine hK.out _ _ hX10.sx (fun hHeld6 => ?_)
                  clear hK K
                  try simp only [Act.put, List.setIfInBounds_toArray, List.set_cons_zero, List.set_cons_succ]
                  refine wpAnyH_done (by kernel_rfl) ?_ _
                  have HX10 := Lib.hid hX10
                  have x2 : w9.cell? ⟨pq, 2, none⟩ = some (.int .i64 pp.2.1) := b10.cell (i := 2) rfl
                  have x3 : w9.cell? ⟨pq, 3, none⟩ = some (.int .i64 pp.2.2) := b10.cell (i := 3) rfl
                  have zp := b10.lt
                  clear y0 y1 y2 y3 fz zf hw9 qp qpO qpL hX8 hX10 b10
                  have g1 : IntKind.i64.wrap (C1 + pp.2.1) = C1 + pp.2.1 := IntWalk.i64_in _ ⟨by omega, by omega⟩
                  have g2 : IntKind.i64.wrap (1 + (pp.2.2 : Int)) = 1 + (pp.2.2 : Int) := IntWalk.i64_in _ ⟨by omega, by omega⟩
                  go_wp2_with fail
                  go_quiet (fail)
                  go_wp2_with fail
                  go_meet
                  exact ⟨by rw [HW.out], by rw [HW.out]; go_num, rfl, G3, HX10.out.drewN ha _⟩
                · go_simp
                  have hq0 := hX5d
                  obtain ⟨wo, w4, pq, hw4, hpq, hb34, qp, qpO, qpL⟩ := RndX.fresh hq0 118
                  rw [← hw4, ← hpq]
                  have hX8 := hq0.below ha hb34
                  refine hK.out _ _ hX8.sx (fun hHeld5 => ?_)
                  clear hw4 hpq hb34 hq0
                  clear hK K
                  try simp only [Act.put, List.setIfInBounds_toArray, List.set_cons_zero, List.set_cons_succ]
                  refine wpAnyH_ready (rs := [17]) (by kernel_rfl) (by simp) ?_
                  refine AllReadyH.cons (o := { dst := some 136, op := _, type := _, pos := _, after := _, guard := _ }) rfl (fun K hK => ?_) AllReadyH.nil
                  go_simp
                  rw [show ((k : Int) + 1) = ((k + 1 : Nat) : Int) from by omega]
                  refine (IH.out af (k + 1) fb _ G2 (by omega) (by omega) (by omega) (hbel.trans (hX8).1.fr.1) (hX8).1.work (hX8).1.workO (hX8).1.memo).mono ?_
                  rintro e w3 ⟨rfl, G3, hM3, hF3⟩
                  rw [show bestF n L nw W D af (k + 1) fb = pp by rw [HPP.out, HAFE.out]]
                  rw [show planV pp = .agg #[.bool true, .int .i64 pp.1, .int .i64 pp.2.1, .int .i64 pp.2.2] from rfl]
                  have hX9 := hX8.step ha hM3 hF3
                  replace qp := Blk.out qp qpO hF3
                  replace qpO := qpO.keep hF3
                  clear hM3 hF3 hX8
                  have hX8 := hX9
                  clear hX9
                  refine hK.out _ _ hX8.sx (fun hHeld4 => ?_)
                  clear hK K
                  try simp only [Act.put, List.setIfInBounds_toArray, List.set_cons_zero, List.set_cons_succ]
                  have y0 := qp.cell (i := 0) rfl
                  have y1 := qp.cell (i := 1) rfl
                  have y2 := qp.cell (i := 2) rfl
                  have y3 := qp.cell (i := 3) rfl
                  have fz := qp.frozen
                  have zf := qp.lt
                  refine wpAnyH_ready (rs := [19]) (by kernel_rfl) (by simp) ?_
                  refine AllReadyH.cons (o := { dst := none, op := _, type := _, pos := _, after := _, guard := _ }) rfl (fun K hK => ?_) AllReadyH.nil
                  go_simp
                  have hX10 := RndX.put hX8 qpL qpO pp
                  have b10 := (((qp.set 0 (.bool true)).set 1 (.int .i64 pp.1)).set 2 (.int .i64 pp.2.1)).set 3 (.int .i64 pp.2.2)
                  simp only [List.setIfInBounds_toArray, List.set_cons_zero, List.set_cons_succ] at b10
                  obtain ⟨w9, hw9⟩ : ∃ w9, w9 = (((w3.setCell ⟨pq, 0, none⟩ (.bool true)).setCell ⟨pq, 1, none⟩ (.int .i64 pp.1)).setCell ⟨pq, 2, none⟩ (.int .i64 pp.2.1)).setCell ⟨pq, 3, none⟩ (.int .i64 pp.2.2) := ⟨_, rfl⟩
                  rw [← hw9] at hX10 b10 ⊢
                  refine hK.out _ _ hX10.sx (fun hHeld6 => ?_)
                  clear hK K
                  try simp only [Act.put, List.setIfInBounds_toArray, List.set_cons_zero, List.set_cons_succ]
                  refine wpAnyH_done (by kernel_rfl) ?_ _
                  have HX10 := Lib.hid hX10
                  have x2 : w9.cell? ⟨pq, 2, none⟩ = some (.int .i64 pp.2.1) := b10.cell (i := 2) rfl
                  have x3 : w9.cell? ⟨pq, 3, none⟩ = some (.int .i64 pp.2.2) := b10.cell (i := 3) rfl
                  have zp := b10.lt
                  clear y0 y1 y2 y3 fz zf hw9 qp qpO qpL hX8 hX10 b10
                  have g1 : IntKind.i64.wrap (C1 + pp.2.1) = C1 + pp.2.1 := IntWalk.i64_in _ ⟨by omega, by omega⟩
                  have g2 : IntKind.i64.wrap (1 + (pp.2.2 : Int)) = 1 + (pp.2.2 : Int) := IntWalk.i64_in _ ⟨by omega, by omega⟩
                  go_wp2_with fail
                  go_quiet (fail)
                  go_wp2_with fail
                  go_meet
                  exact ⟨by rw [HW.out], by rw [HW.out]; go_num, rfl, G3, HX10.out.drewN ha _⟩
              · go_simp
                have hq0 := hX5d
                obtain ⟨wo, w4, pq, hw4, hpq, hb34, qp, qpO, qpL⟩ := RndX.fresh hq0 118
                rw [← hw4, ← hpq]
                have hX8 := hq0.below ha hb34
                refine hK.out _ _ hX8.sx (fun hHeld5 => ?_)
                clear hw4 hpq hb34 hq0
                clear hK K
                try simp only [Act.put, List.setIfInBounds_toArray, List.set_cons_zero, List.set_cons_succ]
                refine wpAnyH_ready (rs := [16]) (by kernel_rfl) (by simp) ?_
                refine AllReadyH.cons (o := { dst := some 135, op := _, type := _, pos := _, after := _, guard := _ }) rfl (fun K hK => ?_) AllReadyH.nil
                go_simp
                refine (flagged_any m n L nw W D z _ ((hX8).1.mk0 rfl hbel HM0.out) (by omega) hxn).mono ?_
                rintro e w3 ⟨rfl, rfl⟩
                rw [← HFB.out]
                refine hK.out _ _ (hX8).sx (fun hHeld3 => ?_)
                clear hK K
                try simp only [Act.put, List.setIfInBounds_toArray, List.set_cons_zero, List.set_cons_succ]
                refine wpAnyH_ready (rs := [17]) (by kernel_rfl) (by simp) ?_
                refine AllReadyH.cons (o := { dst := some 136, op := _, type := _, pos := _, after := _, guard := _ }) rfl (fun K hK => ?_) AllReadyH.nil
                go_simp
                rw [show ((k : Int) + 1) = ((k + 1 : Nat) : Int) from by omega]
                refine (IH.out af (k + 1) fb _ G2 (by omega) (by omega) (by omega) (hbel.trans (hX8).1.fr.1) (hX8).1.work (hX8).1.workO (hX8).1.memo).mono ?_
                rintro e w3 ⟨rfl, G3, hM3, hF3⟩
                rw [show bestF n L nw W D af (k + 1) fb = pp by rw [HPP.out, HAFE.out]]
                rw [show planV pp = .agg #[.bool true, .int .i64 pp.1, .int .i64 pp.2.1, .int .i64 pp.2.2] from rfl]
                have hX9 := hX8.step ha hM3 hF3
                replace qp := Blk.out qp qpO hF3
                replace qpO := qpO.keep hF3
                clear hM3 hF3 hX8
                have hX8 := hX9
                clear hX9
                refine hK.out _ _ hX8.sx (fun hHeld4 => ?_)
                clear hK K
                try simp only [Act.put, List.setIfInBounds_toArray, List.set_cons_zero, List.set_cons_succ]
                have y0 := qp.cell (i := 0) rfl
                have y1 := qp.cell (i := 1) rfl
                have y2 := qp.cell (i := 2) rfl
                have y3 := qp.cell (i := 3) rfl
                have fz := qp.frozen
                have zf := qp.lt
                refine wpAnyH_ready (rs := [19]) (by kernel_rfl) (by simp) ?_
                refine AllReadyH.cons (o := { dst := none, op := _, type := _, pos := _, after := _, guard := _ }) rfl (fun K hK => ?_) AllReadyH.nil
                go_simp
                have hX10 := RndX.put hX8 qpL qpO pp
                have b10 := (((qp.set 0 (.bool true)).set 1 (.int .i64 pp.1)).set 2 (.int .i64 pp.2.1)).set 3 (.int .i64 pp.2.2)
                simp only [List.setIfInBounds_toArray, List.set_cons_zero, List.set_cons_succ] at b10
                obtain ⟨w9, hw9⟩ : ∃ w9, w9 = (((w3.setCell ⟨pq, 0, none⟩ (.bool true)).setCell ⟨pq, 1, none⟩ (.int .i64 pp.1)).setCell ⟨pq, 2, none⟩ (.int .i64 pp.2.1)).setCell ⟨pq, 3, none⟩ (.int .i64 pp.2.2) := ⟨_, rfl⟩
                rw [← hw9] at hX10 b10 ⊢
                refine hK.out _ _ hX10.sx (fun hHeld6 => ?_)
                clear hK K
                try simp only [Act.put, List.setIfInBounds_toArray, List.set_cons_zero, List.set_cons_succ]
                refine wpAnyH_done (by kernel_rfl) ?_ _
                have HX10 := Lib.hid hX10
                have x2 : w9.cell? ⟨pq, 2, none⟩ = some (.int .i64 pp.2.1) := b10.cell (i := 2) rfl
                have x3 : w9.cell? ⟨pq, 3, none⟩ = some (.int .i64 pp.2.2) := b10.cell (i := 3) rfl
                have zp := b10.lt
                clear y0 y1 y2 y3 fz zf hw9 qp qpO qpL hX8 hX10 b10
                have g1 : IntKind.i64.wrap (C1 + pp.2.1) = C1 + pp.2.1 := IntWalk.i64_in _ ⟨by omega, by omega⟩
                have g2 : IntKind.i64.wrap (1 + (pp.2.2 : Int)) = 1 + (pp.2.2 : Int) := IntWalk.i64_in _ ⟨by omega, by omega⟩
                go_wp2_with fail
                go_quiet (fail)
                go_wp2_with fail
                go_meet
                exact ⟨by rw [HW.out], by rw [HW.out]; go_num, rfl, G3, HX10.out.drewN ha _⟩
            · go_simp
              have hq0 := hX5d
              obtain ⟨wo, w4, pq, hw4, hpq, hb34, qp, qpO, qpL⟩ := RndX.fresh hq0 118
              rw [← hw4, ← hpq]
              have hX8 := hq0.below ha hb34
              refine hK.out _ _ hX8.sx (fun hHeld5 => ?_)
              clear hw4 hpq hb34 hq0
              clear hK K
              try simp only [Act.put, List.setIfInBounds_toArray, List.set_cons_zero, List.set_cons_succ]
              refine wpAnyH_ready (rs := [7]) (by kernel_rfl) (by simp) ?_
              refine AllReadyH.cons (o := { dst := some 126, op := _, type := _, pos := _, after := _, guard := _ }) rfl (fun K hK => ?_) AllReadyH.nil
              go_simp
              refine (after_any m n L nw W D z _ ((hX8).1.mk0 rfl hbel HM0.out) (by omega) hxn).mono ?_
              rintro e w3 ⟨rfl, rfl⟩
              rw [← HAFE.out]
              refine hK.out _ _ (hX8).sx (fun hHeld2 => ?_)
              clear hK K
              try simp only [Act.put, List.setIfInBounds_toArray, List.set_cons_zero, List.set_cons_succ]
              refine wpAnyH_ready (rs := [16]) (by kernel_rfl) (by simp) ?_
              refine AllReadyH.cons (o := { dst := some 135, op := _, type := _, pos := _, after := _, guard := _ }) rfl (fun K hK => ?_) AllReadyH.nil
              go_simp
              refine (flagged_any m n L nw W D z _ ((hX8).1.mk0 rfl hbel HM0.out) (by omega) hxn).mono ?_
              rintro e w3 ⟨rfl, rfl⟩
              rw [← HFB.out]
              refine hK.out _ _ (hX8).sx (fun hHeld3 => ?_)
              clear hK K
              try simp only [Act.put, List.setIfInBounds_toArray, List.set_cons_zero, List.set_cons_succ]
              refine wpAnyH_ready (rs := [17]) (by kernel_rfl) (by simp) ?_
              refine AllReadyH.cons (o := { dst := some 136, op := _, type := _, pos := _, after := _, guard := _ }) rfl (fun K hK => ?_) AllReadyH.nil
              go_simp
              rw [show ((k : Int) + 1) = ((k + 1 : Nat) : Int) from by omega]
              refine (IH.out af (k + 1) fb _ G2 (by omega) (by omega) (by omega) (hbel.trans (hX8).1.fr.1) (hX8).1.work (hX8).1.workO (hX8).1.memo).mono ?_
              rintro e w3 ⟨rfl, G3, hM3, hF3⟩
              rw [show bestF n L nw W D af (k + 1) fb = pp by rw [HPP.out, HAFE.out]]
              rw [show planV pp = .agg #[.bool true, .int .i64 pp.1, .int .i64 pp.2.1, .int .i64 pp.2.2] from rfl]
              have hX9 := hX8.step ha hM3 hF3
              replace qp := Blk.out qp qpO hF3
              replace qpO := qpO.keep hF3
              clear hM3 hF3 hX8
              have hX8 := hX9
              clear hX9
              refine hK.out _ _ hX8.sx (fun hHeld4 => ?_)
              clear hK K
              try simp only [Act.put, List.setIfInBounds_toArray, List.set_cons_zero, List.set_cons_succ]
              have y0 := qp.cell (i := 0) rfl
              have y1 := qp.cell (i := 1) rfl
              have y2 := qp.cell (i := 2) rfl
              have y3 := qp.cell (i := 3) rfl
              have fz := qp.frozen
              have zf := qp.lt
              refine wpAnyH_ready (rs := [19]) (by kernel_rfl) (by simp) ?_
              refine AllReadyH.cons (o := { dst := none, op := _, type := _, pos := _, after := _, guard := _ }) rfl (fun K hK => ?_) AllReadyH.nil
              go_simp
              have hX10 := RndX.put hX8 qpL qpO pp
              have b10 := (((qp.set 0 (.bool true)).set 1 (.int .i64 pp.1)).set 2 (.int .i64 pp.2.1)).set 3 (.int .i64 pp.2.2)
              simp only [List.setIfInBounds_toArray, List.set_cons_zero, List.set_cons_succ] at b10
              obtain ⟨w9, hw9⟩ : ∃ w9, w9 = (((w3.setCell ⟨pq, 0, none⟩ (.bool true)).setCell ⟨pq, 1, none⟩ (.int .i64 pp.1)).setCell ⟨pq, 2, none⟩ (.int .i64 pp.2.1)).setCell ⟨pq, 3, none⟩ (.int .i64 pp.2.2) := ⟨_, rfl⟩
              rw [← hw9] at hX10 b10 ⊢
              refine hK.out _ _ hX10.sx (fun hHeld6 => ?_)
              clear hK K
              try simp only [Act.put, List.setIfInBounds_toArray, List.set_cons_zero, List.set_cons_succ]
              refine wpAnyH_done (by kernel_rfl) ?_ _
              have HX10 := Lib.hid hX10
              have x2 : w9.cell? ⟨pq, 2, none⟩ = some (.int .i64 pp.2.1) := b10.cell (i := 2) rfl
              have x3 : w9.cell? ⟨pq, 3, none⟩ = some (.int .i64 pp.2.2) := b10.cell (i := 3) rfl
              have zp := b10.lt
              clear y0 y1 y2 y3 fz zf hw9 qp qpO qpL hX8 hX10 b10
              have g1 : IntKind.i64.wrap (C1 + pp.2.1) = C1 + pp.2.1 := IntWalk.i64_in _ ⟨by omega, by omega⟩
              have g2 : IntKind.i64.wrap (1 + (pp.2.2 : Int)) = 1 + (pp.2.2 : Int) := IntWalk.i64_in _ ⟨by omega, by omega⟩
              go_wp2_with fail
              go_quiet (fail)
              go_wp2_with fail
              go_meet
              exact ⟨by rw [HW.out], by rw [HW.out]; go_num, rfl, G3, HX10.out.drewN ha _⟩
          · have HW := Lib.hid (HWAYL.out rfl)
            go_wp2_with fail
            go_meet
            exact ⟨by rw [HW.out], by rw [HW.out]; rfl, rfl, G2, HX5.out⟩
        case rest =>
        obtain ⟨rfl, rfl, rfl, G3, hX6⟩ := hcut
        have HX6 := Lib.hid hX6
        obtain ⟨C2, K2⟩ := way
        simp only at HF3
        clear hX6 HX5 HWAYN HWAYL HAFT HPB HPP HC1 HC0 HLB HFB
        have x1 := HX6.out.sx.2.2.1
        have zx := lt_of_cell x1
        have b0 := HX6.out.1.best
        have zq := b0.lt
        have fq := b0.frozen
        simp only at zx
        cases acc with
        | none =>
          have q1 : wc.cell? ⟨q, 1, none⟩ = some (.int .i64 (-1)) := b0.cell (i := 1) rfl
          have q2 : wc.cell? ⟨q, 2, none⟩ = some (.int .i64 0) := b0.cell (i := 2) rfl
          have q3 : wc.cell? ⟨q, 3, none⟩ = some (.int .i64 0) := b0.cell (i := 3) rfl
          have HF4 := Lib.hid (show (xs.drop (j + 1)).foldl (stepB n L D (bestF n L nw W D) k flag) (some (z, C2, K2)) = some R from HF3.out)
          clear b0 HF3
          go_wp2_with fail
          go_roundw
          case rel => exact ⟨j + 1, G3, some (z, C2, K2), by go_num, by omega, HF4.out, HX6.out.1.better (z, C2, K2)⟩
          case measure => simp [intOf]; omega
        | some p =>
          obtain ⟨p1, p2, p3⟩ := p
          have q1 : wc.cell? ⟨q, 1, none⟩ = some (.int .i64 p1) := b0.cell (i := 1) rfl
          have q2 : wc.cell? ⟨q, 2, none⟩ = some (.int .i64 p2) := b0.cell (i := 2) rfl
          have q3 : wc.cell? ⟨q, 3, none⟩ = some (.int .i64 p3) := b0.cell (i := 3) rfl
          have d0 : decide ((p1 : Int) < 0) = false := by rw [decide_eq_false_iff_not]; omega
          have HY := Lib.hid (show (C2 < p2 ∨ (C2 = p2 ∧ K2 ≤ p3)) → (xs.drop (j + 1)).foldl (stepB n L D (bestF n L nw W D) k flag) (some (z, C2, K2)) = some R from fun h => by rw [← HF3.out]; unfold better; simp only; rw [if_pos h])
          have HZ := Lib.hid (show ¬ (C2 < p2 ∨ (C2 = p2 ∧ K2 ≤ p3)) → (xs.drop (j + 1)).foldl (stepB n L D (bestF n L nw W D) k flag) (some (p1, p2, p3)) = some R from fun h => by rw [← HF3.out]; unfold better; simp only; rw [if_neg h])
          clear b0 HF3
          by_cases h1 : C2 < p2
          · have HF4 := Lib.hid (HY.out (.inl h1))
            have d1 : decide (C2 < p2) = true := by simpa using h1
            clear HY HZ
            go_wp2_with fail
            go_roundw
            case rel => exact ⟨j + 1, G3, some (z, C2, K2), by go_num, by omega, HF4.out, HX6.out.1.better (z, C2, K2)⟩
            case measure => simp [intOf]; omega
          · have d1 : decide (C2 < p2) = false := by simpa using h1
            by_cases h2 : C2 = p2
            · have d2 : (C2 == p2) = true := by simpa using h2
              by_cases h3 : K2 ≤ p3
              · have HF4 := Lib.hid (HY.out (.inr ⟨h2, h3⟩))
                have d3 : decide ((K2 : Int) ≤ (p3 : Int)) = true := by rw [decide_eq_true_iff]; omega
                have d4 : (K2 : Int) ≤ (p3 : Int) := by omega
                clear h2 HY HZ
                go_wp2_with fail
                go_roundw
                case rel => exact ⟨j + 1, G3, some (z, C2, K2), by go_num, by omega, HF4.out, HX6.out.1.better (z, C2, K2)⟩
                case measure => simp [intOf]; omega
              · have HF4 := Lib.hid (HZ.out (fun h => h.elim h1 (fun h => h3 h.2)))
                have d3 : decide ((K2 : Int) ≤ (p3 : Int)) = false := by rw [decide_eq_false_iff_not]; omega
                have d4 : ¬ (K2 : Int) ≤ (p3 : Int) := by omega
                clear h2 HY HZ
                go_wp2_with fail
                go_roundw
                case rel => exact ⟨j + 1, G3, some (p1, p2, p3), by go_num, by omega, HF4.out, HX6.out.1⟩
                case measure => simp [intOf]; omega
            · have d2 : (C2 == p2) = false := by simpa using h2
              have HF4 := Lib.hid (HZ.out (fun h => h.elim h1 (fun h => h2 h.1)))
              clear HY HZ
              go_wp2_with fail
              go_roundw
              case rel => exact ⟨j + 1, G3, some (p1, p2, p3), by go_num, by omega, HF4.out, HX6.out.1⟩
              case measure => simp [intOf]; omega
      · obtain rfl : j = xs.length := by omega
        have hfold := HF.out
        rw [List.drop_length, List.foldl_nil] at hfold
        subst hfold
        obtain ⟨R1, R2, R3⟩ := R
        have hse := HN.out.se ha
        obtain ⟨V, hV, _, _⟩ := HN.out.memo.2.1 a g ha HN.out.row
        have v0 := hV.cell (i := ky * 4) (by omega)
        have v1 := hV.cell (i := ky * 4 + 1) (by omega)
        have v2 := hV.cell (i := ky * 4 + 2) (by omega)
        have v3 := hV.cell (i := ky * 4 + 3) (by omega)
        have fz := hV.frozen
        have zg := hV.lt
        clear hV HF
        go_wp2_with fail
        have hsed : SE wb kb a g q n nw (R1, R2, R3) wr.drew := hse
        obtain ⟨e1, e2, e3, e4, e5, e6⟩ := hse
        have a1 : (a : Int) < (n : Int) + 1 := by omega
        have a2 : (ky : Int) < 2 * (nw : Int) := by omega
        refine wp_region_held_drew (S := SE wb kb a g q n nw (R1, R2, R3)) (by kernel_rfl) hsed ?_
        intro hHeld
        refine takeD (i := 0) (oi := { dst := some 174, op := _, type := _, pos := _, after := _, guard := _ }) (d := some 174) (v := ?vvd174) rfl rfl (by kernel_rfl) (by kernel_rfl) (by kernel_rfl) ?ddd174 (by rfl) ?yyd174 hHeld ?rrd174
        case ddd174 => exact fun _ _ _ h => h
        case yyd174 => (intro wx hSw; obtain ⟨y0, y1, y2, y3, y4, y5⟩ := hSw; go_simp; try (with_reducible rfl))
        try simp only [Act.put, List.setIfInBounds_toArray, List.set_cons_zero, List.set_cons_succ]
        refine takeD (i := 1) (oi := { dst := some 175, op := _, type := _, pos := _, after := _, guard := _ }) (d := some 175) (v := ?vvd175) rfl rfl (by kernel_rfl) (by kernel_rfl) (by kernel_rfl) ?ddd175 (by rfl) ?yyd175 hHeld ?rrd175
        case ddd175 => exact fun _ _ _ h => h
        case yyd175 => (intro wx hSw; obtain ⟨y0, y1, y2, y3, y4, y5⟩ := hSw; go_simp; try (with_reducible rfl))
        try simp only [Act.put, List.setIfInBounds_toArray, List.set_cons_zero, List.set_cons_succ]
        refine takeD (i := 2) (oi := { dst := some 176, op := _, type := _, pos := _, after := _, guard := _ }) (d := some 176) (v := ?vvd176) rfl rfl (by kernel_rfl) (by kernel_rfl) (by kernel_rfl) ?ddd176 (by rfl) ?yyd176 hHeld ?rrd176
        case ddd176 => exact fun _ _ _ h => h
        case yyd176 => (intro wx hSw; obtain ⟨y0, y1, y2, y3, y4, y5⟩ := hSw; go_simp; try (with_reducible rfl))
        try simp only [Act.put, List.setIfInBounds_toArray, List.set_cons_zero, List.set_cons_succ]
        refine takeD (i := 3) (oi := { dst := some 177, op := _, type := _, pos := _, after := _, guard := _ }) (d := some 177) (v := ?vvd177) rfl rfl (by kernel_rfl) (by kernel_rfl) (by kernel_rfl) ?ddd177 (by rfl) ?yyd177 hHeld ?rrd177
        case ddd177 => exact fun _ _ _ h => h
        case yyd177 => (intro wx hSw; obtain ⟨y0, y1, y2, y3, y4, y5⟩ := hSw; go_simp; try (with_reducible rfl))
        try simp only [Act.put, List.setIfInBounds_toArray, List.set_cons_zero, List.set_cons_succ]
        refine takeD (i := 4) (oi := { dst := some 178, op := _, type := _, pos := _, after := _, guard := _ }) (d := some 178) (v := ?vvd178) rfl rfl (by kernel_rfl) (by kernel_rfl) (by kernel_rfl) ?ddd178 (by rfl) ?yyd178 hHeld ?rrd178
        case ddd178 => exact fun _ _ _ h => h
        case yyd178 => (intro wx hSw; obtain ⟨y0, y1, y2, y3, y4, y5⟩ := hSw; go_simp; try (with_reducible rfl))
        try simp only [Act.put, List.setIfInBounds_toArray, List.set_cons_zero, List.set_cons_succ]
        refine takeD (i := 5) (oi := { dst := some 179, op := _, type := _, pos := _, after := _, guard := _ }) (d := some 179) (v := ?vvd179) rfl rfl (by kernel_rfl) (by kernel_rfl) (by kernel_rfl) ?ddd179 (by rfl) ?yyd179 hHeld ?rrd179
        case ddd179 => exact fun _ _ _ h => h
        case yyd179 => (intro wx hSw; obtain ⟨y0, y1, y2, y3, y4, y5⟩ := hSw; go_simp; try (with_reducible rfl))
        try simp only [Act.put, List.setIfInBounds_toArray, List.set_cons_zero, List.set_cons_succ]
        refine takeD (i := 6) (oi := { dst := some 180, op := _, type := _, pos := _, after := _, guard := _ }) (d := some 180) (v := ?vvd180) rfl rfl (by kernel_rfl) (by kernel_rfl) (by kernel_rfl) ?ddd180 (by rfl) ?yyd180 hHeld ?rrd180
        case ddd180 => exact fun _ _ _ h => h
        case yyd180 => (intro wx hSw; obtain ⟨y0, y1, y2, y3, y4, y5⟩ := hSw; go_simp; try (with_reducible rfl))
        try simp only [Act.put, List.setIfInBounds_toArray, List.set_cons_zero, List.set_cons_succ]
        refine takeD (i := 7) (oi := { dst := some 181, op := _, type := _, pos := _, after := _, guard := _ }) (d := some 181) (v := ?vvd181) rfl rfl (by kernel_rfl) (by kernel_rfl) (by kernel_rfl) ?ddd181 (by rfl) ?yyd181 hHeld ?rrd181
        case ddd181 => exact fun _ _ _ h => h
        case yyd181 => (intro wx hSw; obtain ⟨y0, y1, y2, y3, y4, y5⟩ := hSw; go_simp; try (with_reducible rfl))
        try simp only [Act.put, List.setIfInBounds_toArray, List.set_cons_zero, List.set_cons_succ]
        refine takeD (i := 8) (oi := { dst := some 182, op := _, type := _, pos := _, after := _, guard := _ }) (d := some 182) (v := ?vvd182) rfl rfl (by kernel_rfl) (by kernel_rfl) (by kernel_rfl) ?ddd182 (by rfl) ?yyd182 hHeld ?rrd182
        case ddd182 => exact fun _ _ _ h => h
        case yyd182 => (intro wx hSw; obtain ⟨y0, y1, y2, y3, y4, y5⟩ := hSw; go_simp; try (with_reducible rfl))
        try simp only [Act.put, List.setIfInBounds_toArray, List.set_cons_zero, List.set_cons_succ]
        refine takeD (i := 9) (oi := { dst := some 183, op := _, type := _, pos := _, after := _, guard := _ }) (d := some 183) (v := ?vvd183) rfl rfl (by kernel_rfl) (by kernel_rfl) (by kernel_rfl) ?ddd183 (by rfl) ?yyd183 hHeld ?rrd183
        case ddd183 => exact fun _ _ _ h => h
        case yyd183 => (intro wx hSw; obtain ⟨y0, y1, y2, y3, y4, y5⟩ := hSw; go_simp; try (with_reducible rfl))
        try simp only [Act.put, List.setIfInBounds_toArray, List.set_cons_zero, List.set_cons_succ]
        refine wpAnyH_ready (rs := [10]) (by kernel_rfl) (by simp) ?_
        refine AllReadyH.cons (o := { dst := none, op := _, type := _, pos := _, after := _, guard := _ }) rfl (fun K hK => ?_) AllReadyH.nil
        go_simp
        have hput := Memo.put (flag := flag) (k := k) HN.out.memo HN.out.row ha hkn (by decide)
        rw [← HKY.out, ← HR.out] at hput
        obtain ⟨w8, hw8⟩ : ∃ w8, w8 = (put4 wr g (ky * 4) (R1, R2, R3)).drew := ⟨_, rfl⟩
        have hb8 : Below (put4 wr g (ky * 4) (R1, R2, R3)).heap.size (put4 wr g (ky * 4) (R1, R2, R3)) w8 := by rw [hw8]; exact (Below.refl _ _).drew
        have hF8 := hput.2.trans (Fr.of_below hb8 (Nat.le_trans HN.out.big hput.2.1.size))
        have hN8 := HN.out.step ha (hput.1.below hb8) hF8
        rw [show ((((wr.setCell ⟨g, ky * 4, none⟩ (.bool true)).setCell ⟨g, ky * 4 + 1, none⟩ (.int .i64 R1)).setCell ⟨g, ky * 4 + 2, none⟩ (.int .i64 R2)).setCell ⟨g, ky * 4 + 3, none⟩ (.int .i64 R3)).drew = w8 from by rw [hw8]; rfl]
        refine hK.out _ _ (hN8.se ha) (fun hHeld2 => ?_)
        clear hK K
        try simp only [Act.put, List.setIfInBounds_toArray, List.set_cons_zero, List.set_cons_succ]
        refine wpAnyH_done (by kernel_rfl) ?_ _
        have HN8 := Lib.hid hN8
        obtain ⟨_, _, q0, q1, q2, q3⟩ := hN8.se ha
        have r0 : w8.cell? ⟨w.heap.size, 0, none⟩ = some (.bool false) := hN8.res.cell (i := 0) rfl
        have r1 : w8.cell? ⟨w.heap.size, 1, none⟩ = some (.int .i64 0) := hN8.res.cell (i := 1) rfl
        have r2 : w8.cell? ⟨w.heap.size, 2, none⟩ = some (.int .i64 0) := hN8.res.cell (i := 2) rfl
        have r3 : w8.cell? ⟨w.heap.size, 3, none⟩ = some (.int .i64 0) := hN8.res.cell (i := 3) rfl
        have zr := hN8.res.lt
        have zq := hN8.best.lt
        have fr := hN8.res.frozen
        clear hput hw8 hb8 hF8 hN8 hHeld hHeld2 hsed v0 v1 v2 v3 fz zg e1 e2 e3 e4 e5 e6 a1 a2
        go_wp2_with fail
        obtain ⟨w9, hw9, ⟨hM9, hF9⟩, hB9⟩ := fin4 HN8.out.memo HN8.out.fr HN8.out.res HN8.out.resO hszw (R1, R2, R3)
        simp only at hw9 hB9
        rw [← hw9]
        (try simp only [Exit.inBlock, Exit.then])
        refine bodyPost_ret (v := planV (R1, R2, R3)) ?rc rfl ?_
        case rc => exact results_cell_row rfl _ _ (w.heap.size) 118 _ (0, 0) _ rfl hB9 Try.underlying118 rfl (by kernel_rfl)
        exact ⟨by rw [HRn.out], G2, hM9, hF9⟩
  · rw [p0] at v0
    rw [p1] at v1
    rw [p2] at v2
    rw [p3] at v3
    clear p0 p1 p2 p3
    go_wp2_with fail
    obtain ⟨w5, hw5, ⟨hM5, hF5⟩, hB5⟩ := fin4 HMEM.out HFR.out HRES.out HRESO.out hszw R
    rw [← hw5]
    have hwa : Below w5.heap.size w5 (w5.alloc (Obj.cells #[.bool true, .int .i64 R.1, .int .i64 R.2.1, .int .i64 R.2.2] 118)) := (Below.refl _ _).alloc (Nat.le_refl _) _
    have hB6 := hB5.alloc (Obj.cells #[.bool true, .int .i64 R.1, .int .i64 R.2.1, .int .i64 R.2.2] 118)
    (try simp only [Exit.inBlock, Exit.then])
    refine bodyPost_ret (v := planV R) ?rc rfl ?_
    case rc => exact results_cell_row rfl _ _ (w.heap.size) 118 _ (0, 0) _ rfl hB6 Try.underlying118 rfl (by kernel_rfl)
    exact ⟨by rw [HRn.out], Gr, hM5.below hwa, hF5.trans (Fr.of_below hwa (Nat.le_trans hszw hF5.1.size))⟩
theorem best_any (n : Nat) (L : Nat → Part) (nw : Nat) (W : Nat → Int) (D : Int) (m wb kb : Nat) (w0 : World) (hgood : Go.Law.Ln.Good n L nw W D) (hn : n ≤ 1000) (hm : Mk w0 m n L nw W D) : ∀ f, BestAt n L nw W D m wb kb w0 f := by
  intro f
  induction f with
  | zero => intro a num flag w G ha hf; omega
  | succ f ih => exact best_step n L nw W D m wb kb w0 f hgood hn hm ih
end Go.Proofs.Ytnigebnibikolaa.LN
