


/-
  alike: the program's.
-/
import Derived.Test.YtabnohphgegflaaDoorSaTogP
import Derived.Test.YtabnohphgegflaaDoorSaSortW
import Derived.Test.YtabnohphgegflaaDoorShCheck
import Derived.Test.YtabnohphgegflaaDoorTakes
import Derived.Test.YtabnohphgegflaaDoorParts
namespace Go.Proofs.YtabnohphgegflaaDoor.ShT
open Go.RowKit Go.Law Go.Law.Sh
set_option linter.unusedVariables false
set_option linter.unusedSimpArgs false
set_option maxRecDepth 100000
/-- the places of the items, in order -/
def posF (n : Nat) (E : Nat → Nat → Int) (It : Nat → Int) : Nat → Int := fun j => (pos n E It j : Int)
def AlikePost (n c : Nat) (E : Nat → Nat → Int) (It : Nat → Int) (least : Int) (w : World) (e : Ending) (w' : World) : Prop :=
  Below w.heap.size w w' ∧ ((togE n E It c least ≠ 0 ∧ e = .returned (.tuple #[.slice none 0 0, .int .i64 (togE n E It c least)])) ∨
    (togE n E It c least = 0 ∧ ∃ v, e = .returned (.tuple #[v, .int .i64 0]) ∧ RowI w' w.heap.size 3 1 v c (fun i => (srt c (posF n E It)).getD i 0)))
set_option maxHeartbeats 4000000 in
theorem alike_any (n c ca cb : Nat) (E : Nat → Nat → Int) (N : Nat → Nat → ByteArray) (It : Nat → Int) (least : Int) (a b : Option Addr) (w : World) (ha : ShF w a n E N) (hi : IntsF w b c It) (hn : n ≤ 1000) (hnc : n ≤ ca) (hc : c ≤ cb) (hm : cb ≤ maxLen) (hle : 1 ≤ least) :
    Calls Tryd.prog 16 #[.slice a n ca, .slice b c cb, .int .i64 least] w (AlikePost n c E It least w) := by
  unfold maxLen at hm
  have HA := Lib.hid ha
  have HI := Lib.hid hi
  have HC := Lib.hid (check_any n E N a ca w ha (by omega) hnc)
  clear ha hi
  by_cases he : shE n E = 0
  case neg =>
    have HT := Lib.hid (togE_shapes (It := It) (c := c) (least := least) he)
    have HNE := Lib.hid he
    obtain ⟨V, hV⟩ : ∃ V, V = shE n E := ⟨_, rfl⟩
    have g : (V != 0) = true := by rw [hV]; simpa using he
    have HV := Lib.hid hV
    clear hV he
    go_enter Tryd.func16, Tryd.ntmps16
    go_wp2_with fail
    refine HC.out.mono ?_
    rintro e w1 ⟨rfl, hb1⟩
    rw [← HV.out]
    have HB := Lib.hid hb1
    clear hb1
    go_wp2_with fail
    go_ret2
    exact ⟨HB.out, .inl ⟨by rw [HT.out]; exact HNE.out, by rw [HT.out, ← HV.out]; rfl⟩⟩
  have HE := Lib.hid he
  clear he
  by_cases hl : (c : Int) < least
  case pos =>
    have HT := Lib.hid (togE_few (It := It) HE.out hl)
    go_enter Tryd.func16, Tryd.ntmps16
    go_wp2_with fail
    refine HC.out.mono ?_
    rintro e w1 ⟨rfl, hb1⟩
    rw [HE.out]
    have HB := Lib.hid hb1
    clear hb1
    go_wp2_with fail
    go_ret2
    exact ⟨HB.out, .inl ⟨by rw [HT.out]; omega, by rw [HT.out]; rfl⟩⟩
  have HL := Lib.hid (Int.not_lt.1 hl)
  have HLE := Lib.hid hle
  clear hle
  go_enter Tryd.func16, Tryd.ntmps16
  go_wp2_with fail
  refine HC.out.mono ?_
  rintro e w1 ⟨rfl, hb1⟩
  rw [HE.out]
  have HB := Lib.hid hb1
  clear hb1 HC
  go_wp2_with fail
  clear hl
  go_loopw [9, 24] (fun ov ix wr => ∃ i : Nat, ix = .int .i64 i ∧ i ≤ c ∧ (∀ j, j < i → badAt n E It j = 0) ∧ Below w.heap.size w wr ∧ RowI wr w.heap.size 3 1 ov i (posF n E It)) (fun _ ix _ => c - (intOf ix).toNat)
  case atStart => exact ⟨0, rfl, by omega, fun j hj => by omega, HB.out, RowI.nil _ _ _ _ _⟩
  case round =>
    obtain ⟨i, rfl, hic, hall, hbel, hrow⟩ := hrel
    have HALL := Lib.hid hall
    have HBL := Lib.hid hbel
    have hsz := hbel.size
    obtain ⟨oa, oc, hov, hoc, hocm⟩ := RowI.slice hrow
    subst hov
    have HR := Lib.hid hrow
    have hin : i ≤ n := count_le hall
    clear hall hbel HB hrow
    by_cases h : i < c
    · have hi2 : (i : Int) < (c : Int) := by omega
      have hicb : (i : Int) ≤ (cb : Int) := by omega
      have hi0' : (0 : Int) ≤ (i : Int) := by omega
      obtain ⟨b1, o1, rfl, hcell⟩ := (HI.out.below (Nat.le_refl _) HBL.out) (by omega)
      have d0 := hcell i h
      have zb1 := lt_of_cell d0
      simp only at zb1
      have HCELL := Lib.hid hcell
      clear hcell
      obtain ⟨x, hx⟩ : ∃ x, x = It i := ⟨_, rfl⟩
      rw [← hx] at d0
      have HX := Lib.hid hx
      clear hx
      have HS := Lib.hid (find_any n E N x a ca wr (HA.out.below (Nat.le_refl _) HBL.out) (by omega))
      go_wp2_with fail
      refine HS.out.mono ?_
      rintro e w2 ⟨rfl, hb2⟩
      have HB2 := Lib.hid (HBL.out.trans (hb2.mono hsz))
      have HR2 := Lib.hid (RowI.below HR.out hb2 (Nat.le_refl _))
      have hs2 := hb2.size
      have HBX := Lib.hid hb2
      clear hb2 d0 HS
      by_cases hf : findV n E x < 0
      case pos =>
        have HT2 := Lib.hid (bad_none (n := n) (E := E) (It := It) (i := i) (by rw [← HX.out]; exact hf))
        have HT := Lib.hid (togE_some HE.out (Int.not_lt.2 HL.out) h HALL.out (by rw [HT2.out]; omega))
        go_wp2_with fail
        go_ret2
        exact ⟨HB2.out, .inl ⟨by rw [HT.out, HT2.out]; omega, by rw [HT.out, HT2.out]; rfl⟩⟩
      have HF := Lib.hid (Int.not_lt.1 hf)
      obtain ⟨k, hk⟩ : ∃ k : Nat, k = pos n E It i := ⟨_, rfl⟩
      have hk2 : findV n E x = k := by rw [hk, HX.out]; exact (pos_find (by rw [← HX.out]; exact hf)).1
      have hkn : k < n := by rw [hk]; exact (pos_find (by rw [← HX.out]; exact hf)).2.1
      have HK := Lib.hid hk
      rw [hk2]
      have HIF := Lib.hid (show IntsF w2 (some ⟨b1, o1, none⟩) i It from IntsF.below (fun hi' => ⟨b1, o1, rfl, fun j hj => HCELL.out j (by omega)⟩) (Nat.le_refl _) HBX.out)
      have HCO := Lib.hid (contains_any i cb It x (some ⟨b1, o1, none⟩) w2 HIF.out (by omega))
      clear hf hk hk2
      go_wp2_with fail
      refine HCO.out.mono ?_
      rintro e w3 ⟨rfl, rfl⟩
      obtain ⟨CB, hCB⟩ : ∃ CB, CB = (List.range i).any fun m => decide (It m = x) := ⟨_, rfl⟩
      rw [← hCB]
      have HCB := Lib.hid hCB
      clear hCB HCO
      cases CB
      case true =>
        have HT2 := Lib.hid (bad_twice (n := n) (E := E) (It := It) (i := i) (by rw [← HX.out]; exact Int.not_lt.2 HF.out) (by rw [← HX.out]; exact HCB.out.symm))
        have HT := Lib.hid (togE_some HE.out (Int.not_lt.2 HL.out) h HALL.out (by rw [HT2.out]; omega))
        go_wp2_with fail
        go_ret2
        exact ⟨HB2.out, .inl ⟨by rw [HT.out, HT2.out]; omega, by rw [HT.out, HT2.out]; rfl⟩⟩
      case false =>
        have HDIS := Lib.hid (show (List.range i).any (fun m => decide (It m = It i)) = false by rw [← HX.out]; exact HCB.out.symm)
        have k3 := (show w2.cell? ⟨b1, o1, none⟩ = some (.int .i64 (It 0)) by rw [HBX.out.cell (by simp; omega)]; exact HCELL.out 0 (by omega))
        have hsa := HA.out.below (Nat.le_refl _) HB2.out
        obtain ⟨b, off, hba, hcc⟩ := hsa (by omega)
        have HZ := Lib.hid (show findV n E (It 0) = pos n E It 0 ∧ pos n E It 0 < n by
          rcases Nat.eq_zero_or_pos i with h0 | h0
          · have e : It 0 = x := by rw [HX.out, h0]
            have := pos_find (n := n) (E := E) (It := It) (i := 0) (by rw [e]; exact Int.not_lt.2 HF.out)
            exact ⟨this.1, this.2.1⟩
          · have := pos_find (ok_bad (HALL.out 0 (by omega))).1
            exact ⟨this.1, this.2.1⟩)
        obtain ⟨P0, hP0⟩ : ∃ p, p = pos n E It 0 := ⟨_, rfl⟩
        have HP0 := Lib.hid (show findV n E (It 0) = (P0 : Int) by rw [hP0]; exact HZ.out.1)
        have hp0 : P0 < n := by rw [hP0]; exact HZ.out.2
        have HPE := Lib.hid hP0
        have k1 := (hcc k hkn).1 1 (by omega)
        have k2 := (hcc P0 hp0).1 1 (by omega)
        obtain ⟨PK, hPK⟩ : ∃ p, p = E k 1 := ⟨_, rfl⟩
        obtain ⟨PZ, hPZ⟩ : ∃ p, p = E P0 1 := ⟨_, rfl⟩
        have HPK := Lib.hid hPK
        have HPZ := Lib.hid hPZ
        rw [← hPK] at k1
        rw [← hPZ] at k2
        have zk := lt_of_cell k1
        have zk3 := lt_of_cell k3
        simp only at zk zk3
        have hk0 : (0 : Int) ≤ (k : Int) := by omega
        have hkn2 : (k : Int) < (n : Int) := by omega
        have hp0n : (P0 : Int) < (n : Int) := by omega
        have hp00 : (0 : Int) ≤ (P0 : Int) := by omega
        have hcn : 0 < c := by omega
        have HCO := Lib.hid (fun W (hW : ShF W a n E N) => find_any n E N (It 0) a ca W hW (by omega))
        have HSA := Lib.hid hsa
        clear hcc hP0 hPK hPZ hsa
        subst hba
        go_upto_region 15 with fail
        obtain ⟨wy, hwy⟩ : ∃ v : World, v = w2 := ⟨_, rfl⟩
        refine wp_region_held_drew (S := fun w' => w'.cell? ⟨b, off + k * 12 + 1, none⟩ = some (.int .i64 PK) ∧ w'.cell? ⟨b, off + P0 * 12 + 1, none⟩ = some (.int .i64 PZ) ∧ w'.cell? ⟨b1, o1, none⟩ = some (.int .i64 (It 0))) (by kernel_rfl) (by exact ⟨by rw [World.cell?_drew]; exact k1, by rw [World.cell?_drew]; exact k2, by rw [World.cell?_drew]; exact k3⟩) ?_
        intro hHeld
        refine takeD (i := 0) (oi := { dst := some 39, op := _, type := _, pos := _, after := _, guard := _ }) (d := some 39) (v := ?vva39) rfl rfl (by kernel_rfl) (by kernel_rfl) (by kernel_rfl) ?dda39 (by rfl) ?yya39 hHeld ?rra39
        case dda39 => first | exact fun _ _ _ h => h | exact fun _ _ _ h => HQ.out _ _ _ _ (by rfl) h
        case yya39 => (intro wx hSw; obtain ⟨y0, y1, y2⟩ := hSw; go_simp; try (with_reducible rfl))
        try simp only [Act.put, List.setIfInBounds_toArray, List.set_cons_zero, List.set_cons_succ]
        refine takeD (i := 1) (oi := { dst := some 40, op := _, type := _, pos := _, after := _, guard := _ }) (d := some 40) (v := ?vva40) rfl rfl (by kernel_rfl) (by kernel_rfl) (by kernel_rfl) ?dda40 (by rfl) ?yya40 hHeld ?rra40
        case dda40 => first | exact fun _ _ _ h => h | exact fun _ _ _ h => HQ.out _ _ _ _ (by rfl) h
        case yya40 => (intro wx hSw; obtain ⟨y0, y1, y2⟩ := hSw; go_simp; try (with_reducible rfl))
        try simp only [Act.put, List.setIfInBounds_toArray, List.set_cons_zero, List.set_cons_succ]
        refine takeD (i := 2) (oi := { dst := some 41, op := _, type := _, pos := _, after := _, guard := _ }) (d := some 41) (v := ?vva41) rfl rfl (by kernel_rfl) (by kernel_rfl) (by kernel_rfl) ?dda41 (by rfl) ?yya41 hHeld ?rra41
        case dda41 => first | exact fun _ _ _ h => h | exact fun _ _ _ h => HQ.out _ _ _ _ (by rfl) h
        case yya41 => (intro wx hSw; obtain ⟨y0, y1, y2⟩ := hSw; go_simp; try (with_reducible rfl))
        try simp only [Act.put, List.setIfInBounds_toArray, List.set_cons_zero, List.set_cons_succ]
        refine takeD (i := 3) (oi := { dst := some 42, op := _, type := _, pos := _, after := _, guard := _ }) (d := some 42) (v := ?vva42) rfl rfl (by kernel_rfl) (by kernel_rfl) (by kernel_rfl) ?dda42 (by rfl) ?yya42 hHeld ?rra42
        case dda42 => first | exact fun _ _ _ h => h | exact fun _ _ _ h => HQ.out _ _ _ _ (by rfl) h
        case yya42 => (intro wx hSw; obtain ⟨y0, y1, y2⟩ := hSw; go_simp; try (with_reducible rfl))
        try simp only [Act.put, List.setIfInBounds_toArray, List.set_cons_zero, List.set_cons_succ]
        refine takeD (i := 4) (oi := { dst := some 43, op := _, type := _, pos := _, after := _, guard := _ }) (d := some 43) (v := ?vva43) rfl rfl (by kernel_rfl) (by kernel_rfl) (by kernel_rfl) ?dda43 (by rfl) ?yya43 hHeld ?rra43
        case dda43 => first | exact fun _ _ _ h => h | exact fun _ _ _ h => HQ.out _ _ _ _ (by rfl) h
        case yya43 => (intro wx hSw; obtain ⟨y0, y1, y2⟩ := hSw; go_simp; try (with_reducible rfl))
        try simp only [Act.put, List.setIfInBounds_toArray, List.set_cons_zero, List.set_cons_succ]
        refine takeD (i := 5) (oi := { dst := some 44, op := _, type := _, pos := _, after := _, guard := _ }) (d := some 44) (v := ?vva44) rfl rfl (by kernel_rfl) (by kernel_rfl) (by kernel_rfl) ?dda44 (by rfl) ?yya44 hHeld ?rra44
        case dda44 => first | exact fun _ _ _ h => h | exact fun _ _ _ h => HQ.out _ _ _ _ (by rfl) h
        case yya44 => (intro wx hSw; obtain ⟨y0, y1, y2⟩ := hSw; go_simp; try (with_reducible rfl))
        try simp only [Act.put, List.setIfInBounds_toArray, List.set_cons_zero, List.set_cons_succ]
        refine takeD (i := 6) (oi := { dst := some 45, op := _, type := _, pos := _, after := _, guard := _ }) (d := some 45) (v := ?vva45) rfl rfl (by kernel_rfl) (by kernel_rfl) (by kernel_rfl) ?dda45 (by rfl) ?yya45 hHeld ?rra45
        case dda45 => first | exact fun _ _ _ h => h | exact fun _ _ _ h => HQ.out _ _ _ _ (by rfl) h
        case yya45 => (intro wx hSw; obtain ⟨y0, y1, y2⟩ := hSw; go_simp; try (with_reducible rfl))
        try simp only [Act.put, List.setIfInBounds_toArray, List.set_cons_zero, List.set_cons_succ]
        refine takeD (i := 7) (oi := { dst := some 46, op := _, type := _, pos := _, after := _, guard := _ }) (d := some 46) (v := ?vva46) rfl rfl (by kernel_rfl) (by kernel_rfl) (by kernel_rfl) ?dda46 (by rfl) ?yya46 hHeld ?rra46
        case dda46 => first | exact fun _ _ _ h => h | exact fun _ _ _ h => HQ.out _ _ _ _ (by rfl) h
        case yya46 => (intro wx hSw; obtain ⟨y0, y1, y2⟩ := hSw; go_simp; try (with_reducible rfl))
        try simp only [Act.put, List.setIfInBounds_toArray, List.set_cons_zero, List.set_cons_succ]
        refine takeD (i := 8) (oi := { dst := some 47, op := _, type := _, pos := _, after := _, guard := _ }) (d := some 47) (v := ?vva47) rfl rfl (by kernel_rfl) (by kernel_rfl) (by kernel_rfl) ?dda47 (by rfl) ?yya47 hHeld ?rra47
        case dda47 => first | exact fun _ _ _ h => h | exact fun _ _ _ h => HQ.out _ _ _ _ (by rfl) h
        case yya47 => (intro wx hSw; obtain ⟨y0, y1, y2⟩ := hSw; go_simp; try (with_reducible rfl))
        try simp only [Act.put, List.setIfInBounds_toArray, List.set_cons_zero, List.set_cons_succ]
        refine takeD (i := 9) (oi := { dst := some 48, op := _, type := _, pos := _, after := _, guard := _ }) (d := some 48) (v := ?vva48) rfl rfl (by kernel_rfl) (by kernel_rfl) (by kernel_rfl) ?dda48 (by rfl) ?yya48 hHeld ?rra48
        case dda48 => first | exact fun _ _ _ h => h | exact fun _ _ _ h => HQ.out _ _ _ _ (by rfl) h
        case yya48 => (intro wx hSw; obtain ⟨y0, y1, y2⟩ := hSw; go_simp; try (with_reducible rfl))
        try simp only [Act.put, List.setIfInBounds_toArray, List.set_cons_zero, List.set_cons_succ]
        refine wpAnyH_ready (rs := [10]) (by kernel_rfl) (by simp) ?_
        refine AllReadyH.cons (o := { dst := some 49, op := _, type := _, pos := _, after := _, guard := _ }) rfl (fun K hK => ?_) AllReadyH.nil
        go_simp
        refine (HCO.out _ (HSA.out.below (Nat.le_refl _) (Below.refl _ _).drew)).mono ?_
        rintro e wz ⟨rfl, hb2⟩
        rw [HP0.out]
        refine hK.out _ _ ⟨by rw [hb2.cell (by simp; omega), World.cell?_drew]; exact k1, by rw [hb2.cell (by simp; omega), World.cell?_drew]; exact k2, by rw [hb2.cell (by simp; omega), World.cell?_drew]; exact k3⟩ (fun hHeld2 => ?_)
        clear hK K
        try simp only [Act.put, List.setIfInBounds_toArray, List.set_cons_zero, List.set_cons_succ]
        refine takeD (i := 11) (oi := { dst := some 50, op := _, type := _, pos := _, after := _, guard := _ }) (d := some 50) (v := ?vvb50) rfl rfl (by kernel_rfl) (by kernel_rfl) (by kernel_rfl) ?ddb50 (by rfl) ?yyb50 hHeld2 ?rrb50
        case ddb50 => first | exact fun _ _ _ h => h | exact fun _ _ _ h => HQ.out _ _ _ _ (by rfl) h
        case yyb50 => (intro wx hSw; obtain ⟨y0, y1, y2⟩ := hSw; go_simp; try (with_reducible rfl))
        try simp only [Act.put, List.setIfInBounds_toArray, List.set_cons_zero, List.set_cons_succ]
        refine takeD (i := 12) (oi := { dst := some 51, op := _, type := _, pos := _, after := _, guard := _ }) (d := some 51) (v := ?vvb51) rfl rfl (by kernel_rfl) (by kernel_rfl) (by kernel_rfl) ?ddb51 (by rfl) ?yyb51 hHeld2 ?rrb51
        case ddb51 => first | exact fun _ _ _ h => h | exact fun _ _ _ h => HQ.out _ _ _ _ (by rfl) h
        case yyb51 => (intro wx hSw; obtain ⟨y0, y1, y2⟩ := hSw; go_simp; try (with_reducible rfl))
        try simp only [Act.put, List.setIfInBounds_toArray, List.set_cons_zero, List.set_cons_succ]
        refine takeD (i := 13) (oi := { dst := some 52, op := _, type := _, pos := _, after := _, guard := _ }) (d := some 52) (v := ?vvb52) rfl rfl (by kernel_rfl) (by kernel_rfl) (by kernel_rfl) ?ddb52 (by rfl) ?yyb52 hHeld2 ?rrb52
        case ddb52 => first | exact fun _ _ _ h => h | exact fun _ _ _ h => HQ.out _ _ _ _ (by rfl) h
        case yyb52 => (intro wx hSw; obtain ⟨y0, y1, y2⟩ := hSw; go_simp; try (with_reducible rfl))
        try simp only [Act.put, List.setIfInBounds_toArray, List.set_cons_zero, List.set_cons_succ]
        refine takeD (i := 14) (oi := { dst := some 53, op := _, type := _, pos := _, after := _, guard := _ }) (d := some 53) (v := ?vvb53) rfl rfl (by kernel_rfl) (by kernel_rfl) (by kernel_rfl) ?ddb53 (by rfl) ?yyb53 hHeld2 ?rrb53
        case ddb53 => first | exact fun _ _ _ h => h | exact fun _ _ _ h => HQ.out _ _ _ _ (by rfl) h
        case yyb53 => (intro wx hSw; obtain ⟨y0, y1, y2⟩ := hSw; go_simp; try (with_reducible rfl))
        try simp only [Act.put, List.setIfInBounds_toArray, List.set_cons_zero, List.set_cons_succ]
        refine wpAnyH_done (by kernel_rfl) ?_ _
        have HBD := Lib.hid (show Below w2.heap.size w2 wz from ((Below.refl _ _).drew).trans (hb2.mono (Nat.le_refl _)))
        have HBF := Lib.hid (HB2.out.trans (HBD.out.mono HB2.out.size))
        have HR3 := Lib.hid (RowI.below HR2.out HBD.out (Nat.le_refl _))
        clear hb2 hHeld hHeld2
        by_cases hpp : PK = PZ
        · have g : (PK != PZ) = false := by simpa using hpp
          have HOK := Lib.hid (show badAt n E It i = 0 from bad_ok (by rw [← HX.out]; exact Int.not_lt.2 HF.out) HDIS.out (by rw [← HK.out, ← HPE.out, ← HPK.out, ← HPZ.out]; exact hpp))
          clear hpp k1 k2 k3
          obtain ⟨xs, hown, hxs⟩ := HR3.out
          have hxl := hown.1
          have HXS := Lib.hid hxs
          have HXL := Lib.hid hxl
          have hszz := HBF.out.size
          clear hxs hxl
          obtain ⟨i0, hi0, hz0, hz1, hz2⟩ := info_parts (show (Tryd.prog.info? 3).map (fun i => (i.zero, i.size, i.bytes)) = some (some (.int .i64 0), 1, 8) by kernel_rfl)
          go_upto_region 17 with fail
          go_wp2_with (at_builtin; refine wpList_append_own _ rfl _ _ 22 rfl (w.heap.size) 3 i0 (.int .i64 0) 1 8 Tryd.underlying22 hi0 hz0 hz1 hz2 rfl (by decide) _ _ _ rfl ((hown).alloc _) ⟨wz.heap.size, 0, none⟩ 1 1 [.int .i64 k] rfl rfl ?c1 ?c2 ?c3 ?c4 ?c5 ?_)
          case c1 =>
            intro j u hj
            match j, hj with
            | 0, hj => simp at hj; subst hj; simp [Addr.add]
          case c2 => intro u hu; simp at hu; subst hu; rfl
          case c3 => unfold maxLen; omega
          case c4 => omega
          case c5 => simp; omega
          intro v7 w7 hown7 hgrow _
          have HKV := Lib.hid (show (Value.int .i64 (k : Int)) = .int .i64 (posF n E It i) by rw [HK.out]; rfl)
          have HR7 := Lib.hid (RowI.push (F' := posF n E It) hown7 HXL.out HXS.out (fun j hj => by
            obtain rfl : j = 0 := by omega
            rw [HKV.out, Nat.mul_one, Nat.add_zero]
            rfl) (fun j hj => rfl))
          have HB7 := Lib.hid (Below.grown (B := w.heap.size) (a := w) (HBF.out.alloc HBF.out.size _) hgrow (by simp; omega) (fun q hq => RowL.ge hown q hq))
          clear hown hown7 hgrow hi0 hz0 hz1 hz2
          go_wp2_with fail
          go_roundw
          case rel => exact ⟨i + 1, by go_num, by omega, fun j hj => by
            rcases Nat.lt_or_ge j i with h1 | h1
            · exact HALL.out j h1
            · obtain rfl : j = i := by omega
              exact HOK.out, HB7.out, HR7.out⟩
          case measure => simp [intOf]; omega
        · have g : (PK != PZ) = true := by simpa using hpp
          have HT2 := Lib.hid (bad_fit (n := n) (E := E) (It := It) (i := i) (by rw [← HX.out]; exact Int.not_lt.2 HF.out) HDIS.out (by rw [← HK.out, ← HPE.out, ← HPK.out, ← HPZ.out]; exact hpp))
          have HT := Lib.hid (togE_some HE.out (Int.not_lt.2 HL.out) h HALL.out (by rw [HT2.out]; omega))
          clear hpp
          go_wp2_with fail
          go_ret2
          exact ⟨HBF.out, .inl ⟨by rw [HT.out, HT2.out]; omega, by rw [HT.out, HT2.out]; rfl⟩⟩
    · obtain rfl : i = c := by omega
      have hnc2 : ¬ (i : Int) < (i : Int) := by omega
      have HT := Lib.hid (togE_none HE.out (Int.not_lt.2 HL.out) HALL.out)
      have HSO := Lib.hid (sort_own w.heap.size i (.slice oa i oc) (posF n E It) wr HR.out (by have := HL.out; have := HLE.out; omega) (by omega) hsz)
      go_wp2_with fail
      refine HSO.out.mono ?_
      rintro e w2 ⟨rfl, hr2, hb2⟩
      have HR2 := Lib.hid hr2
      have HB2 := Lib.hid (HBL.out.trans hb2)
      clear hr2 hb2 HSO
      go_wp2_with fail
      go_ret2
      exact ⟨HB2.out, .inr ⟨HT.out, _, rfl, HR2.out⟩⟩
end Go.Proofs.YtabnohphgegflaaDoor.ShT
