


/-
  togetherError: the reference's.
-/
import Derived.Test.YtabnohphgegflaaDoorSaTogP
import Derived.Test.YtabnohphgegflaaDoorShErrR
import Derived.Test.YtabnohphgegflaaDoorShFind
import Derived.Test.YtabnohphgegflaaDoorTakes
import Derived.Test.YtabnohphgegflaaDoorParts
namespace Go.Proofs.YtabnohphgegflaaDoor.ShT
open Go.RowKit Go.Law Go.Law.Sh
set_option linter.unusedVariables false
set_option linter.unusedSimpArgs false
set_option maxRecDepth 100000
set_option maxHeartbeats 4000000 in
theorem together_any (n c ca cb : Nat) (E : Nat → Nat → Int) (N : Nat → Nat → ByteArray) (It : Nat → Int) (least : Int) (a b : Option Addr) (w : World) (ha : ShF w a n E N) (hi : IntsF w b c It) (hn : n ≤ 1000) (hnc : n ≤ ca) (hc : c ≤ cb) (hm : cb ≤ maxLen) :
    Calls Tryd.prog 25 #[.slice a n ca, .slice b c cb, .int .i64 least] w fun e w' => e = .returned (.int .i64 (togE n E It c least)) ∧ Below w.heap.size w w' := by
  unfold maxLen at hm
  have HA := Lib.hid ha
  have HI := Lib.hid hi
  have HC := Lib.hid (shapesError_any n E N a ca w ha (by omega) hnc)
  clear ha hi
  by_cases he : shE n E = 0
  case neg =>
    have HT := Lib.hid (togE_shapes (It := It) (c := c) (least := least) he)
    rw [HT.out]
    obtain ⟨V, hV⟩ : ∃ V, V = shE n E := ⟨_, rfl⟩
    have g : (V != 0) = true := by rw [hV]; simpa using he
    have HV := Lib.hid hV
    rw [← hV]
    clear hV he
    go_enter Tryd.func25, Tryd.ntmps25
    go_wp2_with fail
    refine HC.out.mono ?_
    rintro e w1 ⟨rfl, hb1⟩
    rw [← HV.out]
    have HB := Lib.hid hb1
    clear hb1
    go_wp2_with fail
    go_ret
    exact ⟨rfl, HB.out⟩
  have HE := Lib.hid he
  clear he
  by_cases hl : (c : Int) < least
  case pos =>
    have HT := Lib.hid (togE_few (It := It) HE.out hl)
    rw [HT.out]
    go_enter Tryd.func25, Tryd.ntmps25
    go_wp2_with fail
    refine HC.out.mono ?_
    rintro e w1 ⟨rfl, hb1⟩
    rw [HE.out]
    have HB := Lib.hid hb1
    clear hb1
    go_wp2_with fail
    go_ret
    exact ⟨rfl, HB.out⟩
  have HL := Lib.hid (Int.not_lt.1 hl)
  go_enter Tryd.func25, Tryd.ntmps25
  go_wp2_with fail
  refine HC.out.mono ?_
  rintro e w1 ⟨rfl, hb1⟩
  rw [HE.out]
  have HB := Lib.hid hb1
  clear hb1 HC
  go_wp2_with fail
  clear hl
  go_loopw [24] (fun ix wr => ∃ i : Nat, ix = .int .i64 i ∧ i ≤ c ∧ (∀ j, j < i → badAt n E It j = 0) ∧ Below w.heap.size w wr) (fun ix _ => c - (intOf ix).toNat)
  case atStart => exact ⟨0, rfl, by omega, fun j hj => by omega, HB.out⟩
  case round =>
    obtain ⟨i, rfl, hic, hall, hbel⟩ := hrel
    have HALL := Lib.hid hall
    have HBL := Lib.hid hbel
    have hsz := hbel.size
    clear hall hbel HB
    by_cases h : i < c
    · have hi2 : (i : Int) < (c : Int) := by omega
      have hc0 : (0 : Int) < (c : Int) := by omega
      have hicb : (i : Int) ≤ (cb : Int) := by omega
      have hi0 : (0 : Int) ≤ (i : Int) := by omega
      obtain ⟨b1, o1, rfl, hcell⟩ := (HI.out.below (Nat.le_refl _) HBL.out) (by omega)
      have d0 := hcell i h
      have zb1 := lt_of_cell d0
      simp only at zb1
      have HCELL := Lib.hid hcell
      clear hcell
      obtain ⟨x, hx⟩ : ∃ x, x = It i := ⟨_, rfl⟩
      rw [← hx] at d0
      have HX := Lib.hid hx
      clear hx
      have HS := Lib.hid (shapeAt_any n E N x a ca wr (HA.out.below (Nat.le_refl _) HBL.out) (by omega))
      go_wp2_with fail
      refine HS.out.mono ?_
      rintro e w2 ⟨rfl, hb2⟩
      have HB2 := Lib.hid (HBL.out.trans (hb2.mono hsz))
      have hs2 := hb2.size
      have d1 : w2.cell? ⟨b1, o1 + i, none⟩ = some (.int .i64 x) := by rw [hb2.cell (by simp; omega)]; exact d0
      clear hb2 d0 HS
      by_cases hf : findV n E x < 0
      case pos =>
        have HT := Lib.hid (togE_some HE.out (Int.not_lt.2 HL.out) h HALL.out (by rw [bad_none (by rw [← HX.out]; exact hf)]; omega))
        have HT2 := Lib.hid (bad_none (n := n) (E := E) (It := It) (i := i) (by rw [← HX.out]; exact hf))
        go_wp2_with fail
        go_ret
        exact ⟨by rw [HT.out, HT2.out]; rfl, HB2.out⟩
      have HF := Lib.hid (Int.not_lt.1 hf)
      obtain ⟨k, hk⟩ : ∃ k : Nat, k = pos n E It i := ⟨_, rfl⟩
      have hk2 : findV n E x = k := by rw [hk, HX.out]; exact (pos_find (by rw [← HX.out]; exact hf)).1
      have hkn : k < n := by rw [hk]; exact (pos_find (by rw [← HX.out]; exact hf)).2.1
      have HK := Lib.hid hk
      rw [hk2]
      clear hf hk hk2
      go_wp2_with fail
      go_loopw [38] (fun ix wr => ∃ q : Nat, ix = .int .i64 q ∧ q ≤ i ∧ (∀ j, j < q → It j ≠ x) ∧ Below w.heap.size w wr) (fun ix _ => i - (intOf ix).toNat)
      case atStart => exact ⟨0, rfl, by omega, fun j hj => by omega, HB2.out⟩
      case round =>
        obtain ⟨q, rfl, hqi, hne, hbel⟩ := hrel
        have HNE := Lib.hid hne
        have HBQ := Lib.hid hbel
        have hsq := hbel.size
        clear hne hbel d1
        obtain ⟨b2, o2, he2, hcell⟩ := (HI.out.below (Nat.le_refl _) HBQ.out) (by omega)
        cases he2
        by_cases hq : q < i
        · have hq2 : (q : Int) < (i : Int) := by omega
          have d2 := hcell q (by omega)
          obtain ⟨y, hy⟩ : ∃ y, y = It q := ⟨_, rfl⟩
          rw [← hy] at d2
          have HY := Lib.hid hy
          clear hcell hy
          by_cases hyx : y = x
          · have HT := Lib.hid (togE_some HE.out (Int.not_lt.2 HL.out) h HALL.out (by rw [bad_twice (by rw [← HX.out]; exact Int.not_lt.2 HF.out) (by rw [List.any_eq_true]; exact ⟨q, by simpa using hq, by simpa [← HY.out, ← HX.out] using hyx⟩)]; omega))
            have HT2 := Lib.hid (bad_twice (n := n) (E := E) (It := It) (i := i) (by rw [← HX.out]; exact Int.not_lt.2 HF.out) (by rw [List.any_eq_true]; exact ⟨q, by simpa using hq, by simpa [← HY.out, ← HX.out] using hyx⟩))
            have g : (y == x) = true := by simpa using hyx
            clear hyx
            go_wp2_with fail
            go_ret
            exact ⟨by rw [HT.out, HT2.out]; rfl, HBQ.out⟩
          · have g : (y == x) = false := by simpa using hyx
            have HYX := Lib.hid hyx
            clear hyx
            go_wp2_with fail
            go_roundw
            case rel => exact ⟨q + 1, by go_num, by omega, fun j hj => by
              rcases Nat.lt_or_ge j q with h1 | h1
              · exact HNE.out j h1
              · obtain rfl : j = q := by omega
                rw [← HY.out]; exact HYX.out, HBQ.out⟩
            case measure => simp [intOf]; omega
        · obtain rfl : q = i := by omega
          have hqq : ¬ (q : Int) < (q : Int) := by omega
          have HDIS := Lib.hid (show (List.range q).any (fun m => decide (It m = It q)) = false by
            rw [List.any_eq_false]
            intro m hm
            have := HNE.out m (by simpa using hm)
            rw [HX.out] at this
            simpa using this)
          have k3 := hcell 0 (by omega)
          rw [Nat.add_zero] at k3
          clear hcell
          have hsa := HA.out.below (Nat.le_refl _) HBQ.out
          obtain ⟨b, off, hba, hcc⟩ := hsa (by omega)
          have HZ := Lib.hid (show findV n E (It 0) = pos n E It 0 ∧ pos n E It 0 < n by
            rcases Nat.eq_zero_or_pos q with h0 | h0
            · have e : It 0 = x := by rw [HX.out, h0]
              have := pos_find (n := n) (E := E) (It := It) (i := 0) (by rw [e]; exact Int.not_lt.2 HF.out)
              exact ⟨this.1, this.2.1⟩
            · have := pos_find (ok_bad (HALL.out 0 (by omega))).1
              exact ⟨this.1, this.2.1⟩)
          obtain ⟨P0, hP0⟩ : ∃ p, p = pos n E It 0 := ⟨_, rfl⟩
          have HP0 := Lib.hid (show findV n E (It 0) = (P0 : Int) by rw [hP0]; exact HZ.out.1)
          have hp0 : P0 < n := by rw [hP0]; exact HZ.out.2
          have HPE := Lib.hid hP0
          have k1 := (hcc k hkn).1 1 (by omega)
          have k2 := (hcc P0 hp0).1 1 (by omega)
          obtain ⟨PK, hPK⟩ : ∃ p, p = E k 1 := ⟨_, rfl⟩
          obtain ⟨PZ, hPZ⟩ : ∃ p, p = E P0 1 := ⟨_, rfl⟩
          have HPK := Lib.hid hPK
          have HPZ := Lib.hid hPZ
          rw [← hPK] at k1
          rw [← hPZ] at k2
          have zk := lt_of_cell k1
          have zk3 := lt_of_cell k3
          simp only at zk zk3
          have hk0 : (0 : Int) ≤ (k : Int) := by omega
          have hkn2 : (k : Int) < (n : Int) := by omega
          have hp0n : (P0 : Int) < (n : Int) := by omega
          have hp00 : (0 : Int) ≤ (P0 : Int) := by omega
          have hcn : 0 < c := by omega
          have HCON := fun W (hW : ShF W a n E N) => shapeAt_any n E N (It 0) a ca W hW (by omega)
          have HCO := Lib.hid HCON
          have HSA := Lib.hid hsa
          clear hcc hP0 hPK hPZ HCON hsa
          subst hba
          go_upto_region 18 with fail
          refine wp_region_held_drew (S := fun w' => w'.cell? ⟨b, off + k * 12 + 1, none⟩ = some (.int .i64 PK) ∧ w'.cell? ⟨b, off + P0 * 12 + 1, none⟩ = some (.int .i64 PZ) ∧ w'.cell? ⟨b1, o1, none⟩ = some (.int .i64 (It 0))) (by kernel_rfl) (by exact ⟨by rw [World.cell?_drew]; exact k1, by rw [World.cell?_drew]; exact k2, by rw [World.cell?_drew]; exact k3⟩) ?_
          intro hHeld
          refine takeD (i := 0) (oi := { dst := some 46, op := _, type := _, pos := _, after := _, guard := _ }) (d := some 46) (v := ?vva46) rfl rfl (by kernel_rfl) (by kernel_rfl) (by kernel_rfl) ?dda46 (by rfl) ?yya46 hHeld ?rra46
          case dda46 => first | exact fun _ _ _ h => h | exact fun _ _ _ h => HQ.out _ _ _ _ (by rfl) h
          case yya46 => (intro wx hSw; obtain ⟨y0, y1, y2⟩ := hSw; go_simp; try (with_reducible rfl))
          try simp only [Act.put, List.setIfInBounds_toArray, List.set_cons_zero, List.set_cons_succ]
          refine takeD (i := 1) (oi := { dst := some 47, op := _, type := _, pos := _, after := _, guard := _ }) (d := some 47) (v := ?vva47) rfl rfl (by kernel_rfl) (by kernel_rfl) (by kernel_rfl) ?dda47 (by rfl) ?yya47 hHeld ?rra47
          case dda47 => first | exact fun _ _ _ h => h | exact fun _ _ _ h => HQ.out _ _ _ _ (by rfl) h
          case yya47 => (intro wx hSw; obtain ⟨y0, y1, y2⟩ := hSw; go_simp; try (with_reducible rfl))
          try simp only [Act.put, List.setIfInBounds_toArray, List.set_cons_zero, List.set_cons_succ]
          refine takeD (i := 2) (oi := { dst := some 48, op := _, type := _, pos := _, after := _, guard := _ }) (d := some 48) (v := ?vva48) rfl rfl (by kernel_rfl) (by kernel_rfl) (by kernel_rfl) ?dda48 (by rfl) ?yya48 hHeld ?rra48
          case dda48 => first | exact fun _ _ _ h => h | exact fun _ _ _ h => HQ.out _ _ _ _ (by rfl) h
          case yya48 => (intro wx hSw; obtain ⟨y0, y1, y2⟩ := hSw; go_simp; try (with_reducible rfl))
          try simp only [Act.put, List.setIfInBounds_toArray, List.set_cons_zero, List.set_cons_succ]
          refine takeD (i := 3) (oi := { dst := some 49, op := _, type := _, pos := _, after := _, guard := _ }) (d := some 49) (v := ?vva49) rfl rfl (by kernel_rfl) (by kernel_rfl) (by kernel_rfl) ?dda49 (by rfl) ?yya49 hHeld ?rra49
          case dda49 => first | exact fun _ _ _ h => h | exact fun _ _ _ h => HQ.out _ _ _ _ (by rfl) h
          case yya49 => (intro wx hSw; obtain ⟨y0, y1, y2⟩ := hSw; go_simp; try (with_reducible rfl))
          try simp only [Act.put, List.setIfInBounds_toArray, List.set_cons_zero, List.set_cons_succ]
          refine takeD (i := 4) (oi := { dst := some 50, op := _, type := _, pos := _, after := _, guard := _ }) (d := some 50) (v := ?vva50) rfl rfl (by kernel_rfl) (by kernel_rfl) (by kernel_rfl) ?dda50 (by rfl) ?yya50 hHeld ?rra50
          case dda50 => first | exact fun _ _ _ h => h | exact fun _ _ _ h => HQ.out _ _ _ _ (by rfl) h
          case yya50 => (intro wx hSw; obtain ⟨y0, y1, y2⟩ := hSw; go_simp; try (with_reducible rfl))
          try simp only [Act.put, List.setIfInBounds_toArray, List.set_cons_zero, List.set_cons_succ]
          refine takeD (i := 5) (oi := { dst := some 51, op := _, type := _, pos := _, after := _, guard := _ }) (d := some 51) (v := ?vva51) rfl rfl (by kernel_rfl) (by kernel_rfl) (by kernel_rfl) ?dda51 (by rfl) ?yya51 hHeld ?rra51
          case dda51 => first | exact fun _ _ _ h => h | exact fun _ _ _ h => HQ.out _ _ _ _ (by rfl) h
          case yya51 => (intro wx hSw; obtain ⟨y0, y1, y2⟩ := hSw; go_simp; try (with_reducible rfl))
          try simp only [Act.put, List.setIfInBounds_toArray, List.set_cons_zero, List.set_cons_succ]
          refine takeD (i := 6) (oi := { dst := some 52, op := _, type := _, pos := _, after := _, guard := _ }) (d := some 52) (v := ?vva52) rfl rfl (by kernel_rfl) (by kernel_rfl) (by kernel_rfl) ?dda52 (by rfl) ?yya52 hHeld ?rra52
          case dda52 => first | exact fun _ _ _ h => h | exact fun _ _ _ h => HQ.out _ _ _ _ (by rfl) h
          case yya52 => (intro wx hSw; obtain ⟨y0, y1, y2⟩ := hSw; go_simp; try (with_reducible rfl))
          try simp only [Act.put, List.setIfInBounds_toArray, List.set_cons_zero, List.set_cons_succ]
          refine takeD (i := 7) (oi := { dst := some 53, op := _, type := _, pos := _, after := _, guard := _ }) (d := some 53) (v := ?vva53) rfl rfl (by kernel_rfl) (by kernel_rfl) (by kernel_rfl) ?dda53 (by rfl) ?yya53 hHeld ?rra53
          case dda53 => first | exact fun _ _ _ h => h | exact fun _ _ _ h => HQ.out _ _ _ _ (by rfl) h
          case yya53 => (intro wx hSw; obtain ⟨y0, y1, y2⟩ := hSw; go_simp; try (with_reducible rfl))
          try simp only [Act.put, List.setIfInBounds_toArray, List.set_cons_zero, List.set_cons_succ]
          refine takeD (i := 8) (oi := { dst := some 54, op := _, type := _, pos := _, after := _, guard := _ }) (d := some 54) (v := ?vva54) rfl rfl (by kernel_rfl) (by kernel_rfl) (by kernel_rfl) ?dda54 (by rfl) ?yya54 hHeld ?rra54
          case dda54 => first | exact fun _ _ _ h => h | exact fun _ _ _ h => HQ.out _ _ _ _ (by rfl) h
          case yya54 => (intro wx hSw; obtain ⟨y0, y1, y2⟩ := hSw; go_simp; try (with_reducible rfl))
          try simp only [Act.put, List.setIfInBounds_toArray, List.set_cons_zero, List.set_cons_succ]
          refine takeD (i := 9) (oi := { dst := some 55, op := _, type := _, pos := _, after := _, guard := _ }) (d := some 55) (v := ?vva55) rfl rfl (by kernel_rfl) (by kernel_rfl) (by kernel_rfl) ?dda55 (by rfl) ?yya55 hHeld ?rra55
          case dda55 => first | exact fun _ _ _ h => h | exact fun _ _ _ h => HQ.out _ _ _ _ (by rfl) h
          case yya55 => (intro wx hSw; obtain ⟨y0, y1, y2⟩ := hSw; go_simp; try (with_reducible rfl))
          try simp only [Act.put, List.setIfInBounds_toArray, List.set_cons_zero, List.set_cons_succ]
          refine wpAnyH_ready (rs := [10]) (by kernel_rfl) (by simp) ?_
          refine AllReadyH.cons (o := { dst := some 56, op := _, type := _, pos := _, after := _, guard := _ }) rfl (fun K hK => ?_) AllReadyH.nil
          go_simp
          refine (HCO.out _ (HSA.out.below (Nat.le_refl _) (Below.refl _ _).drew)).mono ?_
          rintro e wz ⟨rfl, hb2⟩
          rw [HP0.out]
          refine hK.out _ _ ⟨by rw [hb2.cell (by simp; omega), World.cell?_drew]; exact k1, by rw [hb2.cell (by simp; omega), World.cell?_drew]; exact k2, by rw [hb2.cell (by simp; omega), World.cell?_drew]; exact k3⟩ (fun hHeld2 => ?_)
          clear hK K
          try simp only [Act.put, List.setIfInBounds_toArray, List.set_cons_zero, List.set_cons_succ]
          refine takeD (i := 11) (oi := { dst := some 57, op := _, type := _, pos := _, after := _, guard := _ }) (d := some 57) (v := ?vvb57) rfl rfl (by kernel_rfl) (by kernel_rfl) (by kernel_rfl) ?ddb57 (by rfl) ?yyb57 hHeld2 ?rrb57
          case ddb57 => first | exact fun _ _ _ h => h | exact fun _ _ _ h => HQ.out _ _ _ _ (by rfl) h
          case yyb57 => (intro wx hSw; obtain ⟨y0, y1, y2⟩ := hSw; go_simp; try (with_reducible rfl))
          try simp only [Act.put, List.setIfInBounds_toArray, List.set_cons_zero, List.set_cons_succ]
          refine takeD (i := 12) (oi := { dst := some 58, op := _, type := _, pos := _, after := _, guard := _ }) (d := some 58) (v := ?vvb58) rfl rfl (by kernel_rfl) (by kernel_rfl) (by kernel_rfl) ?ddb58 (by rfl) ?yyb58 hHeld2 ?rrb58
          case ddb58 => first | exact fun _ _ _ h => h | exact fun _ _ _ h => HQ.out _ _ _ _ (by rfl) h
          case yyb58 => (intro wx hSw; obtain ⟨y0, y1, y2⟩ := hSw; go_simp; try (with_reducible rfl))
          try simp only [Act.put, List.setIfInBounds_toArray, List.set_cons_zero, List.set_cons_succ]
          refine takeD (i := 13) (oi := { dst := some 59, op := _, type := _, pos := _, after := _, guard := _ }) (d := some 59) (v := ?vvb59) rfl rfl (by kernel_rfl) (by kernel_rfl) (by kernel_rfl) ?ddb59 (by rfl) ?yyb59 hHeld2 ?rrb59
          case ddb59 => first | exact fun _ _ _ h => h | exact fun _ _ _ h => HQ.out _ _ _ _ (by rfl) h
          case yyb59 => (intro wx hSw; obtain ⟨y0, y1, y2⟩ := hSw; go_simp; try (with_reducible rfl))
          try simp only [Act.put, List.setIfInBounds_toArray, List.set_cons_zero, List.set_cons_succ]
          refine takeD (i := 14) (oi := { dst := some 60, op := _, type := _, pos := _, after := _, guard := _ }) (d := some 60) (v := ?vvb60) rfl rfl (by kernel_rfl) (by kernel_rfl) (by kernel_rfl) ?ddb60 (by rfl) ?yyb60 hHeld2 ?rrb60
          case ddb60 => first | exact fun _ _ _ h => h | exact fun _ _ _ h => HQ.out _ _ _ _ (by rfl) h
          case yyb60 => (intro wx hSw; obtain ⟨y0, y1, y2⟩ := hSw; go_simp; try (with_reducible rfl))
          try simp only [Act.put, List.setIfInBounds_toArray, List.set_cons_zero, List.set_cons_succ]
          refine wpAnyH_done (by kernel_rfl) ?_ _
          have HBF := Lib.hid (HBQ.out.trans ((((Below.refl _ _).drew).trans (hb2.mono (Nat.le_refl _))).mono hsq))
          clear hb2
          by_cases hpp : PK = PZ
          · have g : (PK != PZ) = false := by simpa using hpp
            have HOK := Lib.hid (show badAt n E It q = 0 from bad_ok (by rw [← HX.out]; exact Int.not_lt.2 HF.out) HDIS.out (by rw [← HK.out, ← HPE.out, ← HPK.out, ← HPZ.out]; exact hpp))
            clear hpp
            go_wp2_with fail
            go_roundw
            case rel => exact ⟨q + 1, by go_num, by omega, fun j hj => by
              rcases Nat.lt_or_ge j q with h1 | h1
              · exact HALL.out j h1
              · obtain rfl : j = q := by omega
                exact HOK.out, HBF.out⟩
            case measure => simp [intOf]; omega
          · have g : (PK != PZ) = true := by simpa using hpp
            have HT2 := Lib.hid (bad_fit (n := n) (E := E) (It := It) (i := q) (by rw [← HX.out]; exact Int.not_lt.2 HF.out) HDIS.out (by rw [← HK.out, ← HPE.out, ← HPK.out, ← HPZ.out]; exact hpp))
            have HT := Lib.hid (togE_some HE.out (Int.not_lt.2 HL.out) h HALL.out (by rw [HT2.out]; omega))
            clear hpp
            go_wp2_with fail
            go_ret
            exact ⟨by rw [HT.out, HT2.out]; rfl, HBF.out⟩
    · obtain rfl : i = c := by omega
      have hnc2 : ¬ (i : Int) < (i : Int) := by omega
      have HT := Lib.hid (togE_none HE.out (Int.not_lt.2 HL.out) HALL.out)
      go_wp2_with fail
      go_ret
      exact ⟨by rw [HT.out]; rfl, HBL.out⟩
end Go.Proofs.YtabnohphgegflaaDoor.ShT
