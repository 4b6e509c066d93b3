
/-
  slices.SortStableFunc at at most twenty ints: sorted by a key, equal ones by themselves.
-/
import Derived.Test.YtabnohphgegflaaDoorSaSortP
import Derived.Test.YtabnohphgegflaaDoorOwnR
import Derived.Test.YtabnohphgegflaaDoorBlk
import Derived.Test.YtabnohphgegflaaDoorTakes
import Derived.Test.YtabnohphgegflaaDoorParts
import Derived.Test.YtabnohphgegflaaDoorProg
import Derived.Deep.QuietTactic
import Derived.BigQuiet
import Derived.BigRegion
import Derived.WalkLawsBesides
import Derived.Lib.Hide
namespace Go.Proofs.YtabnohphgegflaaDoor.ShT
open Go.RowKit Go.Law Go.Law.Sh
set_option linter.unusedVariables false
set_option linter.unusedSimpArgs false
set_option maxRecDepth 100000
/-- what is asked of a comparison -/
def CmpI (f : FuncId) (q1 q2 g : Nat) (V : Int → Prop) (X : Int → Int) (w : World) : Prop :=
  ∀ (W : World) (p q : Int), Only g w W → V p → V q → Calls Tryd.prog f #[.int .i64 p, .int .i64 q, .pointer (some ⟨q1, 0, none⟩), .pointer (some ⟨q2, 0, none⟩)] W fun e W' => e = .returned (.int .i64 (X p - X q)) ∧ Below W.heap.size W W'
theorem CmpI.only {f : FuncId} {q1 q2 g : Nat} {V : Int → Prop} {X : Int → Int} {w w' : World} (h : CmpI f q1 q2 g V X w) (ho : Only g w w') : CmpI f q1 q2 g V X w' :=
  fun W p q hW hp hq => h W p q (Aside.trans ho hW) hp hq
def SortPost (g cap c B : Nat) (w : World) (X : Int → Int) (A0 : Nat → Int) (e : Ending) (w' : World) : Prop :=
  e = .returned (.tuple #[]) ∧ Only g w w' ∧ ∃ A, RowI w' B 3 1 (.slice (some ⟨g, 0, none⟩) c cap) c A ∧ PermF c A A0 ∧ ∀ a b, a < b → b < c → lexL X (A a) (A b)
set_option maxHeartbeats 4000000 in
theorem insSort_any (g cap c B q1 q2 : Nat) (f : FuncId) (V : Int → Prop) (X : Int → Int) (A0 : Nat → Int) (w : World) (hf : f = 18) (hr : RowI w B 3 1 (.slice (some ⟨g, 0, none⟩) c cap) c A0) (hc : 1 ≤ c) (hc2 : c ≤ 1000)
    (hA : ∀ a b, a < b → b < c → A0 a < A0 b) (hV : ∀ a, a < c → V (A0 a)) (hcmp : CmpI f q1 q2 g V X w) (hX : ∀ p, -35184372088832 ≤ X p ∧ X p ≤ 35184372088832) :
    Calls Tryd.prog 54 #[.slice (some ⟨g, 0, none⟩) c cap, .int .i64 0, .int .i64 c, .func (.func f) #[] #[.pointer (some ⟨q1, 0, none⟩), .pointer (some ⟨q2, 0, none⟩)]] w (SortPost g cap c B w X A0) := by
  subst hf
  have HR := Lib.hid hr
  have HA := Lib.hid hA
  have HV := Lib.hid hV
  have HCM := Lib.hid hcmp
  have HXB := Lib.hid hX
  clear hr hA hV hcmp hX
  go_enter Tryd.func54, Tryd.ntmps54
  go_wp2_with fail
  go_loopw [8] (fun ix wr => ∃ i : Nat, ix = .int .i64 i ∧ 1 ≤ i ∧ i ≤ c ∧ Only g w wr ∧ ∃ A, RowI wr B 3 1 (.slice (some ⟨g, 0, none⟩) c cap) c A ∧ SortI X A0 A c i) (fun ix _ => c - (intOf ix).toNat)
  case atStart => exact ⟨1, rfl, by omega, hc, Aside.refl _ _ _, A0, HR.out, sort_start HA.out⟩
  case round =>
    obtain ⟨i, rfl, hi1, hic, hon, A, hrow, hs⟩ := hrel
    obtain ⟨wo, rfl⟩ : ∃ v : World, v = wr := ⟨_, rfl⟩
    have HON := Lib.hid hon
    have HRW := Lib.hid hrow
    have HS := Lib.hid hs
    clear hon hrow hs HR
    by_cases h : i < c
    · have hi2 : (i : Int) < (c : Int) := by omega
      go_wp2_with fail
      go_loopw [9] (fun jx wr => ∃ j : Nat, jx = .int .i64 j ∧ j ≤ i ∧ Only g w wr ∧ ∃ A, RowI wr B 3 1 (.slice (some ⟨g, 0, none⟩) c cap) c A ∧ InsI X A0 A c i j) (fun jx _ => (intOf jx).toNat)
      case atStart => exact ⟨i, rfl, by omega, HON.out, A, HRW.out, ins_start HS.out h HA.out⟩
      case round =>
        clear HON HRW HS
        obtain ⟨j, rfl, hji, hon, A', hrow, hs⟩ := hrel
        have HON := Lib.hid hon
        have HRW := Lib.hid hrow
        have HS := Lib.hid hs
        obtain ⟨g', cap', hv, _, hlt, _, _, hfz, hcc⟩ := RowI.at hrow (by omega)
        cases hv
        clear hon hrow hs
        by_cases hj0 : j = 0
        · subst hj0
          have HSE := Lib.hid (ins_end HS.out (by omega) (.inl rfl))
          go_wp2_with fail
          go_quiet (fail)
          go_wp2_with fail
          go_roundw
          case rel => exact ⟨i + 1, by go_num, by omega, by omega, HON.out.drewN _, A', HRW.out.drewN _, HSE.out⟩
          case measure => simp [intOf]; omega
        · have hj1 : (0 : Int) < (j : Int) := by omega
          have hj2 : 0 < j := by omega
          have c1 := hcc j (by omega)
          have c2 := hcc (j - 1) (by omega)
          rw [HS.out.at_] at c1
          obtain ⟨v, hv⟩ : ∃ v, v = A0 i := ⟨_, rfl⟩
          obtain ⟨u, hu⟩ : ∃ v, v = A' (j - 1) := ⟨_, rfl⟩
          rw [← hv] at c1
          rw [← hu] at c2
          have HVV := Lib.hid hv
          have HUU := Lib.hid hu
          have HVU := Lib.hid (show V v ∧ V u by
            refine ⟨by rw [hv]; exact HV.out i h, ?_⟩
            obtain ⟨k, hk, ek⟩ := HS.out.perm.mem (i := j - 1) (by omega)
            rw [hu, ← ek]
            exact HV.out k hk)
          have hjc : (j : Int) < (c : Int) := by omega
          have hj3 : (0 : Int) ≤ (j : Int) := by omega
          have e1 : (j : Int) - 1 = ((j - 1 : Nat) : Int) := by omega
          have hjc2 : ((j - 1 : Nat) : Int) < (c : Int) := by omega
          have hj4 : (0 : Int) ≤ ((j - 1 : Nat) : Int) := by omega
          have hw1 := IntWalk.i64_in ((j - 1 : Nat) : Int) (by omega)
          have hXv := HXB.out v
          have hXu := HXB.out u
          obtain ⟨xv, hxv⟩ : ∃ x, x = X v := ⟨_, rfl⟩
          obtain ⟨xu, hxu⟩ : ∃ x, x = X u := ⟨_, rfl⟩
          rw [← hxv] at hXv
          rw [← hxu] at hXu
          have HXV := Lib.hid hxv
          have HXU := Lib.hid hxu
          clear hcc hv hu hxv hxu
          go_upto_region 4 with fail
          refine wp_region_held_drew (S := fun w' => w'.cell? ⟨g, j, none⟩ = some (.int .i64 v) ∧ w'.cell? ⟨g, j - 1, none⟩ = some (.int .i64 u)) (by kernel_rfl) (by exact ⟨by rw [World.cell?_drew]; exact c1, by rw [World.cell?_drew]; exact c2⟩) ?_
          intro hHeld
          refine takeD (i := 0) (oi := { dst := some 18, op := _, type := _, pos := _, after := _, guard := _ }) (d := some 18) (v := ?vva18) rfl rfl (by kernel_rfl) (by kernel_rfl) (by kernel_rfl) ?dda18 (by rfl) ?yya18 hHeld ?rra18
          case dda18 => first | exact fun _ _ _ h => h | exact fun _ _ _ h => HQ.out _ _ _ _ (by rfl) h
          case yya18 => (intro wx hSw; obtain ⟨y0, y1⟩ := hSw; go_simp; try (with_reducible rfl))
          try simp only [Act.put, List.setIfInBounds_toArray, List.set_cons_zero, List.set_cons_succ]
          refine takeD (i := 1) (oi := { dst := some 19, op := _, type := _, pos := _, after := _, guard := _ }) (d := some 19) (v := ?vva19) rfl rfl (by kernel_rfl) (by kernel_rfl) (by kernel_rfl) ?dda19 (by rfl) ?yya19 hHeld ?rra19
          case dda19 => first | exact fun _ _ _ h => h | exact fun _ _ _ h => HQ.out _ _ _ _ (by rfl) h
          case yya19 => (intro wx hSw; obtain ⟨y0, y1⟩ := hSw; go_simp; try (with_reducible rfl))
          try simp only [Act.put, List.setIfInBounds_toArray, List.set_cons_zero, List.set_cons_succ]
          refine takeD (i := 2) (oi := { dst := some 20, op := _, type := _, pos := _, after := _, guard := _ }) (d := some 20) (v := ?vva20) rfl rfl (by kernel_rfl) (by kernel_rfl) (by kernel_rfl) ?dda20 (by rfl) ?yya20 hHeld ?rra20
          case dda20 => first | exact fun _ _ _ h => h | exact fun _ _ _ h => HQ.out _ _ _ _ (by rfl) h
          case yya20 => (intro wx hSw; obtain ⟨y0, y1⟩ := hSw; go_simp; try (with_reducible rfl))
          try simp only [Act.put, List.setIfInBounds_toArray, List.set_cons_zero, List.set_cons_succ]
          refine takeD (i := 3) (oi := { dst := some 21, op := _, type := _, pos := _, after := _, guard := _ }) (d := some 21) (v := ?vva21) rfl rfl (by kernel_rfl) (by kernel_rfl) (by kernel_rfl) ?dda21 (by rfl) ?yya21 hHeld ?rra21
          case dda21 => first | exact fun _ _ _ h => h | exact fun _ _ _ h => HQ.out _ _ _ _ (by rfl) h
          case yya21 => (intro wx hSw; obtain ⟨y0, y1⟩ := hSw; go_simp; try (with_reducible rfl))
          try simp only [Act.put, List.setIfInBounds_toArray, List.set_cons_zero, List.set_cons_succ]
          refine takeD (i := 4) (oi := { dst := some 22, op := _, type := _, pos := _, after := _, guard := _ }) (d := some 22) (v := ?vva22) rfl rfl (by kernel_rfl) (by kernel_rfl) (by kernel_rfl) ?dda22 (by rfl) ?yya22 hHeld ?rra22
          case dda22 => first | exact fun _ _ _ h => h | exact fun _ _ _ h => HQ.out _ _ _ _ (by rfl) h
          case yya22 => (intro wx hSw; obtain ⟨y0, y1⟩ := hSw; go_simp; try (with_reducible rfl))
          try simp only [Act.put, List.setIfInBounds_toArray, List.set_cons_zero, List.set_cons_succ]
          refine takeD (i := 5) (oi := { dst := some 23, op := _, type := _, pos := _, after := _, guard := _ }) (d := some 23) (v := ?vva23) rfl rfl (by kernel_rfl) (by kernel_rfl) (by kernel_rfl) ?dda23 (by rfl) ?yya23 hHeld ?rra23
          case dda23 => first | exact fun _ _ _ h => h | exact fun _ _ _ h => HQ.out _ _ _ _ (by rfl) h
          case yya23 => (intro wx hSw; obtain ⟨y0, y1⟩ := hSw; go_simp; try (with_reducible rfl))
          try simp only [Act.put, List.setIfInBounds_toArray, List.set_cons_zero, List.set_cons_succ]
          refine takeD (i := 6) (oi := { dst := some 24, op := _, type := _, pos := _, after := _, guard := _ }) (d := some 24) (v := ?vva24) rfl rfl (by kernel_rfl) (by kernel_rfl) (by kernel_rfl) ?dda24 (by rfl) ?yya24 hHeld ?rra24
          case dda24 => first | exact fun _ _ _ h => h | exact fun _ _ _ h => HQ.out _ _ _ _ (by rfl) h
          case yya24 => (intro wx hSw; obtain ⟨y0, y1⟩ := hSw; go_simp; try (with_reducible rfl))
          try simp only [Act.put, List.setIfInBounds_toArray, List.set_cons_zero, List.set_cons_succ]
          refine takeD (i := 7) (oi := { dst := some 25, op := _, type := _, pos := _, after := _, guard := _ }) (d := some 25) (v := ?vva25) rfl rfl (by kernel_rfl) (by kernel_rfl) (by kernel_rfl) ?dda25 (by rfl) ?yya25 hHeld ?rra25
          case dda25 => first | exact fun _ _ _ h => h | exact fun _ _ _ h => HQ.out _ _ _ _ (by rfl) h
          case yya25 => (intro wx hSw; obtain ⟨y0, y1⟩ := hSw; go_simp; try (with_reducible rfl))
          try simp only [Act.put, List.setIfInBounds_toArray, List.set_cons_zero, List.set_cons_succ]
          refine takeD (i := 8) (oi := { dst := some 26, op := _, type := _, pos := _, after := _, guard := _ }) (d := some 26) (v := ?vva26) rfl rfl (by kernel_rfl) (by kernel_rfl) (by kernel_rfl) ?dda26 (by rfl) ?yya26 hHeld ?rra26
          case dda26 => first | exact fun _ _ _ h => h | exact fun _ _ _ h => HQ.out _ _ _ _ (by rfl) h
          case yya26 => (intro wx hSw; obtain ⟨y0, y1⟩ := hSw; go_simp; try (with_reducible rfl))
          try simp only [Act.put, List.setIfInBounds_toArray, List.set_cons_zero, List.set_cons_succ]
          refine takeD (i := 9) (oi := { dst := some 27, op := _, type := _, pos := _, after := _, guard := _ }) (d := some 27) (v := ?vva27) rfl rfl (by kernel_rfl) (by kernel_rfl) (by kernel_rfl) ?dda27 (by rfl) ?yya27 hHeld ?rra27
          case dda27 => first | exact fun _ _ _ h => h | exact fun _ _ _ h => HQ.out _ _ _ _ (by rfl) h
          case yya27 => (intro wx hSw; obtain ⟨y0, y1⟩ := hSw; go_simp; try (with_reducible rfl))
          try simp only [Act.put, List.setIfInBounds_toArray, List.set_cons_zero, List.set_cons_succ]
          refine takeD (i := 10) (oi := { dst := some 28, op := _, type := _, pos := _, after := _, guard := _ }) (d := some 28) (v := ?vva28) rfl rfl (by kernel_rfl) (by kernel_rfl) (by kernel_rfl) ?dda28 (by rfl) ?yya28 hHeld ?rra28
          case dda28 => first | exact fun _ _ _ h => h | exact fun _ _ _ h => HQ.out _ _ _ _ (by rfl) h
          case yya28 => (intro wx hSw; obtain ⟨y0, y1⟩ := hSw; go_simp; try (with_reducible rfl))
          try simp only [Act.put, List.setIfInBounds_toArray, List.set_cons_zero, List.set_cons_succ]
          refine takeD (i := 11) (oi := { dst := some 29, op := _, type := _, pos := _, after := _, guard := _ }) (d := some 29) (v := ?vva29) rfl rfl (by kernel_rfl) (by kernel_rfl) (by kernel_rfl) ?dda29 (by rfl) ?yya29 hHeld ?rra29
          case dda29 => first | exact fun _ _ _ h => h | exact fun _ _ _ h => HQ.out _ _ _ _ (by rfl) h
          case yya29 => (intro wx hSw; obtain ⟨y0, y1⟩ := hSw; go_simp; try (with_reducible rfl))
          try simp only [Act.put, List.setIfInBounds_toArray, List.set_cons_zero, List.set_cons_succ]
          refine takeD (i := 12) (oi := { dst := some 30, op := _, type := _, pos := _, after := _, guard := _ }) (d := some 30) (v := ?vva30) rfl rfl (by kernel_rfl) (by kernel_rfl) (by kernel_rfl) ?dda30 (by rfl) ?yya30 hHeld ?rra30
          case dda30 => first | exact fun _ _ _ h => h | exact fun _ _ _ h => HQ.out _ _ _ _ (by rfl) h
          case yya30 => (intro wx hSw; obtain ⟨y0, y1⟩ := hSw; go_simp; try (with_reducible rfl))
          try simp only [Act.put, List.setIfInBounds_toArray, List.set_cons_zero, List.set_cons_succ]
          refine takeD (i := 13) (oi := { dst := some 31, op := _, type := _, pos := _, after := _, guard := _ }) (d := some 31) (v := ?vva31) rfl rfl (by kernel_rfl) (by kernel_rfl) (by kernel_rfl) ?dda31 (by rfl) ?yya31 hHeld ?rra31
          case dda31 => first | exact fun _ _ _ h => h | exact fun _ _ _ h => HQ.out _ _ _ _ (by rfl) h
          case yya31 => (intro wx hSw; obtain ⟨y0, y1⟩ := hSw; go_simp; try (with_reducible rfl))
          try simp only [Act.put, List.setIfInBounds_toArray, List.set_cons_zero, List.set_cons_succ]
          refine wpAnyH_ready (rs := [14]) (by kernel_rfl) (by simp) ?_
          refine AllReadyH.cons (o := { dst := some 32, op := _, type := _, pos := _, after := _, guard := _ }) rfl (fun K hK => ?_) AllReadyH.nil
          go_simp
          refine (HCM.out _ v u (by exact Aside.drew HON.out) HVU.out.1 HVU.out.2).mono ?_
          rintro e w2 ⟨rfl, hb2⟩
          rw [← HXV.out, ← HXU.out]
          refine hK.out _ _ ⟨by rw [hb2.cell (by simp; omega), World.cell?_drew]; exact c1, by rw [hb2.cell (by simp; omega), World.cell?_drew]; exact c2⟩ (fun hHeld2 => ?_)
          clear hK K
          try simp only [Act.put, List.setIfInBounds_toArray, List.set_cons_zero, List.set_cons_succ]
          refine takeD (i := 15) (oi := { dst := some 33, op := _, type := _, pos := _, after := _, guard := _ }) (d := some 33) (v := ?vvb33) rfl rfl (by kernel_rfl) (by kernel_rfl) (by kernel_rfl) ?ddb33 (by rfl) ?yyb33 hHeld2 ?rrb33
          case ddb33 => first | exact fun _ _ _ h => h | exact fun _ _ _ h => HQ.out _ _ _ _ (by rfl) h
          case yyb33 => (intro wx hSw; obtain ⟨y0, y1⟩ := hSw; go_simp; try (with_reducible rfl))
          try simp only [Act.put, List.setIfInBounds_toArray, List.set_cons_zero, List.set_cons_succ]
          refine takeD (i := 16) (oi := { dst := some 34, op := _, type := _, pos := _, after := _, guard := _ }) (d := some 34) (v := ?vvb34) rfl rfl (by kernel_rfl) (by kernel_rfl) (by kernel_rfl) ?ddb34 (by rfl) ?yyb34 hHeld2 ?rrb34
          case ddb34 => first | exact fun _ _ _ h => h | exact fun _ _ _ h => HQ.out _ _ _ _ (by rfl) h
          case yyb34 => (intro wx hSw; obtain ⟨y0, y1⟩ := hSw; go_simp; try (with_reducible rfl))
          try simp only [Act.put, List.setIfInBounds_toArray, List.set_cons_zero, List.set_cons_succ]
          refine wpAnyH_done (by kernel_rfl) ?_ _
          have HO2 := Lib.hid (Only.more (Aside.drew HON.out) hb2 (Nat.le_refl _))
          have HR2 := Lib.hid (RowI.below (RowI.drew HRW.out) hb2 (Nat.le_refl _))
          clear hb2 hHeld hHeld2 c1 c2
          by_cases hlt : xv < xu
          · have hd : xv - xu < 0 := by omega
            obtain ⟨g', cap', hv, _, hlt2, _, _, hfz2, hcc⟩ := RowI.at HR2.out (by omega)
            cases hv
            have c1 := hcc j (by omega)
            have c2 := hcc (j - 1) (by omega)
            rw [HS.out.at_, ← HVV.out] at c1
            rw [← HUU.out] at c2
            have f1 := hfz2 j
            have f2 := hfz2 (j - 1)
            have hj5 : ¬ j = j - 1 := by omega
            have hj6 : ¬ j - 1 = j := by omega
            have HSW := Lib.hid (ins_swap HS.out hj2 hji h (by rw [← HVV.out, ← HUU.out, ← HXV.out, ← HXU.out]; exact hlt))
            clear hcc hfz2
            go_wp2_with fail
            go_region
            go_wp2_with fail
            refine ⟨⟨j - 1, rfl, by omega, ((HO2.out.set j _).set (j - 1) _).drew, swF A' j, ?_, HSW.out⟩, by simp [intOf]; omega⟩
            refine RowI.congr (((HR2.out.set j (by omega) u).set (j - 1) (by omega) v).drew) (fun k hk => ?_)
            unfold swF
            rw [HS.out.at_, ← HVV.out, ← HUU.out]
          · have hd : ¬ xv - xu < 0 := by omega
            have HSE := Lib.hid (ins_end HS.out hji (.inr (by rw [← HVV.out, ← HUU.out, ← HXV.out, ← HXU.out]; exact hlt)))
            go_wp2_with fail
            go_roundw
            case rel => exact ⟨i + 1, by go_num, by omega, by omega, HO2.out, A', HR2.out, HSE.out⟩
            case measure => simp [intOf]; omega
    · obtain rfl : i = c := by omega
      have hnn : ¬ (i : Int) < (i : Int) := by omega
      go_wp2_with fail
      first | go_end0 | (simp only [Exit.inBlock, Exit.then]; refine bodyPost_ret (results_none rfl _ _ _) rfl ?_) | refine bodyPost_ret (results_none rfl _ _ _) rfl ?_
      exact ⟨rfl, HON.out, A, HRW.out, HS.out.perm, HS.out.ord⟩
theorem insSort_none (g cap c : Nat) (x : Int) (v : Value) (w : World) (hc2 : c ≤ 1000) (hx : x = (c : Int)) :
    Calls Tryd.prog 54 #[.slice (some ⟨g, 0, none⟩) c cap, .int .i64 x, .int .i64 c, v] w fun e w' => e = .returned (.tuple #[]) ∧ w = w' := by
  subst hx
  go_enter Tryd.func54, Tryd.ntmps54
  go_wp2
  refine wp_loop_rounds 1 ?_
  rw [rounds_succ]
  go_wp2
  first | go_end0 | (simp only [Exit.inBlock, Exit.then]; refine bodyPost_ret (results_none rfl _ _ _) rfl ?_) | refine bodyPost_ret (results_none rfl _ _ _) rfl ?_
  exact ⟨rfl, rfl⟩
set_option maxHeartbeats 4000000 in
theorem stable_any (g cap c B q1 q2 : Nat) (f : FuncId) (V : Int → Prop) (X : Int → Int) (A0 : Nat → Int) (w : World) (hf : f = 18) (hr : RowI w B 3 1 (.slice (some ⟨g, 0, none⟩) c cap) c A0) (hc : 1 ≤ c) (hc2 : c ≤ 20)
    (hA : ∀ a b, a < b → b < c → A0 a < A0 b) (hV : ∀ a, a < c → V (A0 a)) (hcmp : CmpI f q1 q2 g V X w) (hX : ∀ p, -35184372088832 ≤ X p ∧ X p ≤ 35184372088832) :
    Calls Tryd.prog 38 #[.slice (some ⟨g, 0, none⟩) c cap, .int .i64 c, .func (.func f) #[] #[.pointer (some ⟨q1, 0, none⟩), .pointer (some ⟨q2, 0, none⟩)]] w (SortPost g cap c B w X A0) := by
  subst hf
  by_cases h20 : c = 20
  · have h1 : (20 : Int) ≤ (c : Int) := by omega
    have h2 : ¬ (40 : Int) ≤ (c : Int) := by omega
    have h3 : ¬ (20 : Int) < (c : Int) := by omega
    have HI := Lib.hid (insSort_any g cap c B q1 q2 _ V X A0 w rfl hr hc (by omega) hA hV hcmp hX)
    rw [show ((c : Nat) : Int) = 20 by omega] at HI
    have HN := Lib.hid (fun v w => insSort_none g cap c 20 v w (by omega) (by omega))
    clear hr hA hV hcmp hX h20
    go_enter Tryd.func38, Tryd.ntmps38
    go_wp2_with fail
    refine wp_loop_rounds 2 ?_
    rw [rounds_succ]
    go_wp2_with fail
    refine HI.out.mono ?_
    rintro e w1 ⟨rfl, ho, A, hr, hp, hs⟩
    have HP := Lib.hid (show SortPost g cap c B w X A0 (.returned (.tuple #[])) w1 from ⟨rfl, ho, A, hr, hp, hs⟩)
    clear ho hr hp hs HI
    go_wp2_with fail
    rw [rounds_succ]
    go_wp2_with fail
    refine (HN.out _ _).mono ?_
    rintro e w2 ⟨rfl, rfl⟩
    go_wp2_with fail
    refine wp_loop_rounds 1 ?_
    rw [rounds_succ]
    go_wp2_with fail
    first | go_end0 | (simp only [Exit.inBlock, Exit.then]; refine bodyPost_ret (results_none rfl _ _ _) rfl ?_) | refine bodyPost_ret (results_none rfl _ _ _) rfl ?_
    exact HP.out
  · have HI := Lib.hid (insSort_any g cap c B q1 q2 _ V X A0 w rfl hr hc (by omega) hA hV hcmp hX)
    clear hr hA hV hcmp hX
    have h19 : ¬ (20 : Int) ≤ (c : Int) := by omega
    have h21 : ¬ (20 : Int) < (c : Int) := by omega
    go_enter Tryd.func38, Tryd.ntmps38
    go_wp2_with fail
    refine wp_loop_rounds 1 ?_
    rw [rounds_succ]
    go_wp2_with fail
    refine HI.out.mono ?_
    rintro e w1 ⟨rfl, ho, A, hr, hp, hs⟩
    have HP := Lib.hid (show SortPost g cap c B w X A0 (.returned (.tuple #[])) w1 from ⟨rfl, ho, A, hr, hp, hs⟩)
    clear ho hr hp hs HI
    go_wp2_with fail
    refine wp_loop_rounds 1 ?_
    rw [rounds_succ]
    go_wp2_with fail
    first | go_end0 | (simp only [Exit.inBlock, Exit.then]; refine bodyPost_ret (results_none rfl _ _ _) rfl ?_) | refine bodyPost_ret (results_none rfl _ _ _) rfl ?_
    exact HP.out
theorem sortStable_any (g cap c B q1 q2 : Nat) (f : FuncId) (V : Int → Prop) (X : Int → Int) (A0 : Nat → Int) (w : World) (hf : f = 18) (hr : RowI w B 3 1 (.slice (some ⟨g, 0, none⟩) c cap) c A0) (hc : 1 ≤ c) (hc2 : c ≤ 20)
    (hA : ∀ a b, a < b → b < c → A0 a < A0 b) (hV : ∀ a, a < c → V (A0 a)) (hcmp : CmpI f q1 q2 g V X w) (hX : ∀ p, -35184372088832 ≤ X p ∧ X p ≤ 35184372088832) :
    Calls Tryd.prog 17 #[.slice (some ⟨g, 0, none⟩) c cap, .func (.func f) #[] #[.pointer (some ⟨q1, 0, none⟩), .pointer (some ⟨q2, 0, none⟩)]] w (SortPost g cap c B w X A0) := by
  subst hf
  have HI := Lib.hid (stable_any g cap c B q1 q2 _ V X A0 w rfl hr hc (by omega) hA hV hcmp hX)
  clear hr hA hV hcmp hX
  go_enter Tryd.func17, Tryd.ntmps17
  go_wp2_with fail
  refine HI.out.mono ?_
  rintro e w1 ⟨rfl, ho, A, hr, hp, hs⟩
  have HP := Lib.hid (show SortPost g cap c B w X A0 (.returned (.tuple #[])) w1 from ⟨rfl, ho, A, hr, hp, hs⟩)
  clear ho hr hp hs HI
  go_wp2_with fail
  first | go_end0 | (simp only [Exit.inBlock, Exit.then]; refine bodyPost_ret (results_none rfl _ _ _) rfl ?_) | refine bodyPost_ret (results_none rfl _ _ _) rfl ?_
  exact HP.out
end Go.Proofs.YtabnohphgegflaaDoor.ShT
