


/-
  Spread: the program's.
-/
import Derived.Test.YtabnohphgegflaaDoorSaSpreadP
import Derived.Test.YtabnohphgegflaaDoorSaAlign
import Derived.Test.YtabnohphgegflaaDoorSaSpreadL
import Derived.Test.YtabnohphgegflaaDoorSaRow
namespace Go.Proofs.YtabnohphgegflaaDoor.ShT
open Go.RowKit Go.Law Go.Law.Sh
set_option linter.unusedVariables false
set_option linter.unusedSimpArgs false
set_option maxRecDepth 100000
theorem cmpI_of {n ca q1 q2 g : Nat} {ax : Int} {E : Nat → Nat → Int} {N : Nat → Nat → ByteArray} {a : Option Addr} {w0 w1 : World} (ha : ShF w0 a n E N) (hb : Below w0.heap.size w0 w1) (hg : w0.heap.size ≤ g) (hbx : ∀ k, k < n → boxS (E k))
    (h1 : w0.cell? ⟨q1, 0, none⟩ = some (.slice a n ca)) (h2 : w0.cell? ⟨q2, 0, none⟩ = some (.int .i64 ax)) (ht : Arr w0 1) :
    CmpI 18 q1 q2 g (fun p => 0 ≤ p ∧ p < (n : Int)) (fun p => extA (E p.toNat) ax) w1 := by
  intro W p q hW hp hq
  have hB : Below w0.heap.size w0 W := hb.trans (Only.to_below hW hb.size hg)
  obtain ⟨p', rfl⟩ : ∃ k : Nat, p = (k : Int) := ⟨p.toNat, by omega⟩
  obtain ⟨q', rfl⟩ : ∃ k : Nat, q = (k : Int) := ⟨q.toNat, by omega⟩
  exact cmp_any p' q' n ca q1 q2 ax E N a W (ha.below (Nat.le_refl _) hB) (by omega) (by omega) hbx ((hB.cell (lt_of_cell h1)).trans h1) ((hB.cell (lt_of_cell h2)).trans h2) (ht.below (Nat.le_refl _) hB)
def SpreadPost (n c : Nat) (E : Nat → Nat → Int) (N : Nat → Nat → ByteArray) (It : Nat → Int) (ax : Int) (w : World) (e : Ending) (w' : World) : Prop :=
  ∃ S, PermF c S (posF n E It) ∧ (∀ a b, a < b → b < c → lexL (fun p => extA (E p.toNat) ax) (S a) (S b)) ∧ GivePost n (sprE E S ax c) N w e w'
set_option maxHeartbeats 8000000 in
theorem spread_ok (n c ca cb : Nat) (E : Nat → Nat → Int) (N : Nat → Nat → ByteArray) (It : Nat → Int) (ax : Int) (a b : Option Addr) (w : World) (ha : ShF w a n E N) (hi : IntsF w b c It) (hn : n ≤ 20) (hnc : n ≤ ca) (hc : c ≤ cb) (hm : cb ≤ maxLen)
    (hok : togE n E It c 3 = 0) (hs0 : 0 ≤ ax) (hs1 : ax ≤ 1) (ht : Arr w 1) :
    Calls Tryd.prog 8 #[.slice a n ca, .slice b c cb, .int .i64 ax] w (SpreadPost n c E N It ax w) := by
  obtain ⟨hE0, hc1, hall⟩ := togE_zero hok
  have hcn := count_le hall
  have hc0 : 3 ≤ c := by omega
  obtain ⟨b0, off0, rfl, _⟩ := ha (by omega)
  have HI := Lib.hid hi
  have HA := Lib.hid ha
  have HT := Lib.hid ht
  have HBX := Lib.hid (show ∀ k, k < n → boxS (E k) from fun k hk => (right_of ((shE_zero hE0).2 k hk)).2.2.1)
  have HSA := Lib.hid (show ∀ j, j < c → 0 ≤ srtF n E It c j ∧ srtF n E It c j < n from fun j hj => srtF_at hall hj)
  have HAS := Lib.hid (srtF_asc hall)
  have HOK := Lib.hid hok
  have HM := Lib.hid hm
  clear ha hi hok hc1 hall hE0 ht hm
  have k0 : ¬ ax < 0 := by omega
  have k6 : ¬ 1 < ax := by omega
  go_enter Tryd.func8, Tryd.ntmps8
  go_wp2_with fail
  obtain ⟨w0, hw0⟩ : ∃ v, v = ((w.alloc (Obj.cells #[Value.slice (some ⟨b0, off0, none⟩) n ca] 28)).alloc (Obj.cells #[Value.int IntKind.i64 ax] 3)) := ⟨_, rfl⟩
  have HB0 := Lib.hid (show Below w.heap.size w w0 by rw [hw0]; exact ((Below.refl _ _).alloc (Nat.le_refl _) _).alloc (by simp) _)
  obtain ⟨q1, hq1⟩ : ∃ q, q = w.heap.size := ⟨_, rfl⟩
  obtain ⟨q2, hq2⟩ : ∃ q, q = w.heap.size + 1 := ⟨_, rfl⟩
  have HBOX := Lib.hid (show w0.cell? ⟨q1, 0, none⟩ = some (.slice (some ⟨b0, off0, none⟩) n ca) ∧ w0.cell? ⟨q2, 0, none⟩ = some (.int .i64 ax) ∧ q1 < w0.heap.size ∧ q2 < w0.heap.size by
    rw [hw0, hq1, hq2]
    have h := Blk.new (w.alloc (Obj.cells #[Value.slice (some ⟨b0, off0, none⟩) n ca] 28)) #[Value.int IntKind.i64 ax] 3
    have h' := (Blk.new w #[Value.slice (some ⟨b0, off0, none⟩) n ca] 28).alloc (Obj.cells #[Value.int IntKind.i64 ax] 3)
    rw [World.size_alloc] at h
    exact ⟨h'.cell (i := 0) rfl, h.cell (i := 0) rfl, h'.lt, h.lt⟩)
  rw [← hw0, ← hq2, ← hq1]
  have hsz0 := HB0.out.size
  have HA0 := Lib.hid (HA.out.below (Nat.le_refl _) HB0.out)
  have HT0 := Lib.hid (HT.out.below (Nat.le_refl _) HB0.out)
  have HI0 := Lib.hid (HI.out.below (Nat.le_refl _) HB0.out)
  clear hw0 hq1 hq2 HA HT HI
  have HA := HA0
  have HT := HT0
  clear HA0 HT0
  refine (alike_any n c ca cb E N It 3 _ b w0 HA.out HI0.out (by omega) hnc hc HM.out (by omega)).mono ?_
  rintro e w1 ⟨hb1, ⟨h, _⟩ | ⟨_, v, rfl, hrow⟩⟩
  · exact absurd HOK.out h
  obtain ⟨g, cap, rfl, hgB, hg1, hcap, hcm, hfz, hcx⟩ := RowI.at hrow (by omega)
  have hx1 : w1.cell? ⟨q1, 0, none⟩ = some (.slice (some ⟨b0, off0, none⟩) n ca) := (hb1.cell (lt_of_cell HBOX.out.1)).trans HBOX.out.1
  have hx2 : w1.cell? ⟨q2, 0, none⟩ = some (.int .i64 ax) := (hb1.cell (lt_of_cell HBOX.out.2.1)).trans HBOX.out.2.1
  have HSO := Lib.hid (sortStable_any g cap c w0.heap.size q1 q2 _ (fun p => 0 ≤ p ∧ p < (n : Int)) (fun p => extA (E p.toNat) ax) (srtF n E It c) w1 rfl hrow (by omega) (by omega) HAS.out HSA.out
    (cmpI_of HA.out hb1 hgB HBX.out HBOX.out.1 HBOX.out.2.1 HT.out) (fun p => extA_bound _ _))
  have HB1 := Lib.hid hb1
  clear hcm hfz hcx hrow hb1
  go_wp2_with fail
  refine HSO.out.mono ?_
  rintro e w2 ⟨rfl, ho, S, hrow, hperm, hord⟩
  have HB2 := Lib.hid (show Below w0.heap.size w0 w2 from HB1.out.trans (Only.to_below ho HB1.out.size hgB))
  have HR2 := Lib.hid hrow
  have HPS := Lib.hid (hperm.trans srtF_perm)
  have HORD := Lib.hid hord
  have HSN := Lib.hid (show ∀ j, j < c → 0 ≤ S j ∧ S j < n from fun j hj => by
    obtain ⟨i, hi, e⟩ := hperm.mem hj
    rw [← e]; exact HSA.out i hi)
  clear ho hrow hperm hord HSO HB1 HSA HAS hx1 hx2
  have hspr : ∃ E', E' = sprE E S ax c := ⟨_, rfl⟩
  obtain ⟨ke, hke, hken⟩ : ∃ k : Nat, S 0 = (k : Int) ∧ k < n := ⟨(S 0).toNat, by have := HSN.out 0 (by omega); omega, by have := HSN.out 0 (by omega); omega⟩
  obtain ⟨_, _, hv, _, hg2, _, _, hfz, hcell⟩ := RowI.at HR2.out (by omega)
  cases hv
  have z0 := hcell 0 (by omega)
  rw [hke] at z0
  have hc00 : 0 < c := by omega
  have hkn2 : (ke : Int) < (n : Int) := by omega
  have hk0 : (0 : Int) ≤ (ke : Int) := by omega
  have HKE := Lib.hid (show (S 0).toNat = ke by rw [hke]; rfl)
  clear hke hfz
  have HCELL := Lib.hid hcell
  clear hcell
  go_upto_region 7 with fail
  refine wp_region_held_drew (S := fun w' => w'.cell? ⟨g, 0, none⟩ = some (.int .i64 (ke : Nat)) ∧ CS q1 q2 b0 off0 ke n ca ax E N w') (by kernel_rfl) (by exact ⟨by rw [World.cell?_drew]; exact z0, CS.of (ShF.below HA.out (Nat.le_refl _) ((HB2.out).drew)) (by assumption) (by rw [World.cell?_drew]; exact ((HB2.out).cell (lt_of_cell HBOX.out.1)).trans HBOX.out.1) (by rw [World.cell?_drew]; exact ((HB2.out).cell (lt_of_cell HBOX.out.2.1)).trans HBOX.out.2.1)⟩) ?_
  intro hHeld
  refine takeD (i := 0) (oi := { dst := some 45, op := _, type := _, pos := _, after := _, guard := _ }) (d := some 45) (v := ?vvpa45) rfl rfl (by kernel_rfl) (by kernel_rfl) (by kernel_rfl) ?ddpa45 (by rfl) ?yypa45 hHeld ?rrpa45
  case ddpa45 => first | exact fun _ _ _ h => h | exact fun _ _ _ h => HQ.out _ _ _ _ (by rfl) h
  case yypa45 => (intro wx hSw; obtain ⟨y0, y1, y2, y3, y4, y5, y6, y7, y8, y9, y10, y11, y12, y13, y14⟩ := hSw; go_simp; try (with_reducible rfl))
  try simp only [Act.put, List.setIfInBounds_toArray, List.set_cons_zero, List.set_cons_succ]
  refine takeD (i := 1) (oi := { dst := some 46, op := _, type := _, pos := _, after := _, guard := _ }) (d := some 46) (v := ?vvpa46) rfl rfl (by kernel_rfl) (by kernel_rfl) (by kernel_rfl) ?ddpa46 (by rfl) ?yypa46 hHeld ?rrpa46
  case ddpa46 => first | exact fun _ _ _ h => h | exact fun _ _ _ h => HQ.out _ _ _ _ (by rfl) h
  case yypa46 => (intro wx hSw; obtain ⟨y0, y1, y2, y3, y4, y5, y6, y7, y8, y9, y10, y11, y12, y13, y14⟩ := hSw; go_simp; try (with_reducible rfl))
  try simp only [Act.put, List.setIfInBounds_toArray, List.set_cons_zero, List.set_cons_succ]
  refine takeD (i := 2) (oi := { dst := some 47, op := _, type := _, pos := _, after := _, guard := _ }) (d := some 47) (v := ?vvpa47) rfl rfl (by kernel_rfl) (by kernel_rfl) (by kernel_rfl) ?ddpa47 (by rfl) ?yypa47 hHeld ?rrpa47
  case ddpa47 => first | exact fun _ _ _ h => h | exact fun _ _ _ h => HQ.out _ _ _ _ (by rfl) h
  case yypa47 => (intro wx hSw; obtain ⟨y0, y1, y2, y3, y4, y5, y6, y7, y8, y9, y10, y11, y12, y13, y14⟩ := hSw; go_simp; try (with_reducible rfl))
  try simp only [Act.put, List.setIfInBounds_toArray, List.set_cons_zero, List.set_cons_succ]
  refine takeD (i := 3) (oi := { dst := some 48, op := _, type := _, pos := _, after := _, guard := _ }) (d := some 48) (v := ?vvpa48) rfl rfl (by kernel_rfl) (by kernel_rfl) (by kernel_rfl) ?ddpa48 (by rfl) ?yypa48 hHeld ?rrpa48
  case ddpa48 => first | exact fun _ _ _ h => h | exact fun _ _ _ h => HQ.out _ _ _ _ (by rfl) h
  case yypa48 => (intro wx hSw; obtain ⟨y0, y1, y2, y3, y4, y5, y6, y7, y8, y9, y10, y11, y12, y13, y14⟩ := hSw; go_simp; try (with_reducible rfl))
  try simp only [Act.put, List.setIfInBounds_toArray, List.set_cons_zero, List.set_cons_succ]
  refine takeD (i := 4) (oi := { dst := some 49, op := _, type := _, pos := _, after := _, guard := _ }) (d := some 49) (v := ?vvpa49) rfl rfl (by kernel_rfl) (by kernel_rfl) (by kernel_rfl) ?ddpa49 (by rfl) ?yypa49 hHeld ?rrpa49
  case ddpa49 => first | exact fun _ _ _ h => h | exact fun _ _ _ h => HQ.out _ _ _ _ (by rfl) h
  case yypa49 => (intro wx hSw; obtain ⟨y0, y1, y2, y3, y4, y5, y6, y7, y8, y9, y10, y11, y12, y13, y14⟩ := hSw; go_simp; try (with_reducible rfl))
  try simp only [Act.put, List.setIfInBounds_toArray, List.set_cons_zero, List.set_cons_succ]
  refine takeD (i := 5) (oi := { dst := some 50, op := _, type := _, pos := _, after := _, guard := _ }) (d := some 50) (v := ?vvpa50) rfl rfl (by kernel_rfl) (by kernel_rfl) (by kernel_rfl) ?ddpa50 (by rfl) ?yypa50 hHeld ?rrpa50
  case ddpa50 => first | exact fun _ _ _ h => h | exact fun _ _ _ h => HQ.out _ _ _ _ (by rfl) h
  case yypa50 => (intro wx hSw; obtain ⟨y0, y1, y2, y3, y4, y5, y6, y7, y8, y9, y10, y11, y12, y13, y14⟩ := hSw; go_simp; try (with_reducible rfl))
  try simp only [Act.put, List.setIfInBounds_toArray, List.set_cons_zero, List.set_cons_succ]
  refine takeD (i := 6) (oi := { dst := some 51, op := _, type := _, pos := _, after := _, guard := _ }) (d := some 51) (v := ?vvpa51) rfl rfl (by kernel_rfl) (by kernel_rfl) (by kernel_rfl) ?ddpa51 (by rfl) ?yypa51 hHeld ?rrpa51
  case ddpa51 => first | exact fun _ _ _ h => h | exact fun _ _ _ h => HQ.out _ _ _ _ (by rfl) h
  case yypa51 => (intro wx hSw; obtain ⟨y0, y1, y2, y3, y4, y5, y6, y7, y8, y9, y10, y11, y12, y13, y14⟩ := hSw; go_simp; try (with_reducible rfl))
  try simp only [Act.put, List.setIfInBounds_toArray, List.set_cons_zero, List.set_cons_succ]
  refine wpAnyH_ready (rs := [7]) (by kernel_rfl) (by simp) ?_
  refine AllReadyH.cons (o := { dst := some 52, op := _, type := _, pos := _, after := _, guard := _ }) rfl (fun K hK => ?_) AllReadyH.nil
  go_simp
  refine (extent_any ke E N ax (w2).drew (HBX.out ke (by assumption)) (HT.out.below (Nat.le_refl _) (HB2.out).drew)).mono ?_
  rintro e w3 ⟨rfl, hbx⟩
  have HB3 := Lib.hid ((HB2.out).drew.trans (hbx.mono (HB2.out).size))
  refine hK.out _ _ ⟨by rw [hbx.cell (lt_of_cell (show (w2).drew.cell? ⟨g, 0, none⟩ = _ by rw [World.cell?_drew]; exact z0)), World.cell?_drew]; exact z0, CS.of (ShF.below HA.out (Nat.le_refl _) (HB3).out) (by assumption) (((HB3).out.cell (lt_of_cell HBOX.out.1)).trans HBOX.out.1) (((HB3).out.cell (lt_of_cell HBOX.out.2.1)).trans HBOX.out.2.1)⟩ (fun hHeld2 => ?_)
  clear hK K hHeld
  try simp only [Act.put, List.setIfInBounds_toArray, List.set_cons_zero, List.set_cons_succ]
  refine takeD (i := 8) (oi := { dst := some 44, op := _, type := _, pos := _, after := _, guard := _ }) (d := some 44) (v := ?vvpb44) rfl rfl (by kernel_rfl) (by kernel_rfl) (by kernel_rfl) ?ddpb44 (by rfl) ?yypb44 hHeld2 ?rrpb44
  case ddpb44 => first | exact fun _ _ _ h => h | exact fun _ _ _ h => HQ.out _ _ _ _ (by rfl) h
  case yypb44 => (intro wx hSw; obtain ⟨y0, y1, y2, y3, y4, y5, y6, y7, y8, y9, y10, y11, y12, y13, y14⟩ := hSw; go_simp; try (with_reducible rfl))
  try simp only [Act.put, List.setIfInBounds_toArray, List.set_cons_zero, List.set_cons_succ]
  refine takeD (i := 9) (oi := { dst := some 53, op := _, type := _, pos := _, after := _, guard := _ }) (d := some 53) (v := ?vvpb53) rfl rfl (by kernel_rfl) (by kernel_rfl) (by kernel_rfl) ?ddpb53 (by rfl) ?yypb53 hHeld2 ?rrpb53
  case ddpb53 => first | exact fun _ _ _ h => h | exact fun _ _ _ h => HQ.out _ _ _ _ (by rfl) h
  case yypb53 => (intro wx hSw; obtain ⟨y0, y1, y2, y3, y4, y5, y6, y7, y8, y9, y10, y11, y12, y13, y14⟩ := hSw; go_simp; try (with_reducible rfl))
  try simp only [Act.put, List.setIfInBounds_toArray, List.set_cons_zero, List.set_cons_succ]
  refine takeD (i := 10) (oi := { dst := some 54, op := _, type := _, pos := _, after := _, guard := _ }) (d := some 54) (v := ?vvpb54) rfl rfl (by kernel_rfl) (by kernel_rfl) (by kernel_rfl) ?ddpb54 (by rfl) ?yypb54 hHeld2 ?rrpb54
  case ddpb54 => first | exact fun _ _ _ h => h | exact fun _ _ _ h => HQ.out _ _ _ _ (by rfl) h
  case yypb54 => (intro wx hSw; obtain ⟨y0, y1, y2, y3, y4, y5, y6, y7, y8, y9, y10, y11, y12, y13, y14⟩ := hSw; go_simp; try (with_reducible rfl))
  try simp only [Act.put, List.setIfInBounds_toArray, List.set_cons_zero, List.set_cons_succ]
  refine takeD (i := 11) (oi := { dst := some 10, op := _, type := _, pos := _, after := _, guard := _ }) (d := some 10) (v := ?vvpb10) rfl rfl (by kernel_rfl) (by kernel_rfl) (by kernel_rfl) ?ddpb10 (by rfl) ?yypb10 hHeld2 ?rrpb10
  case ddpb10 => first | exact fun _ _ _ h => h | exact fun _ _ _ h => HQ.out _ _ _ _ (by rfl) h
  case yypb10 => (intro wx hSw; obtain ⟨y0, y1, y2, y3, y4, y5, y6, y7, y8, y9, y10, y11, y12, y13, y14⟩ := hSw; go_simp; try (with_reducible rfl))
  try simp only [Act.put, List.setIfInBounds_toArray, List.set_cons_zero, List.set_cons_succ]
  refine takeD (i := 12) (oi := { dst := some 11, op := _, type := _, pos := _, after := _, guard := _ }) (d := some 11) (v := ?vvpb11) rfl rfl (by kernel_rfl) (by kernel_rfl) (by kernel_rfl) ?ddpb11 (by rfl) ?yypb11 hHeld2 ?rrpb11
  case ddpb11 => first | exact fun _ _ _ h => h | exact fun _ _ _ h => HQ.out _ _ _ _ (by rfl) h
  case yypb11 => (intro wx hSw; obtain ⟨y0, y1, y2, y3, y4, y5, y6, y7, y8, y9, y10, y11, y12, y13, y14⟩ := hSw; go_simp; try (with_reducible rfl))
  try simp only [Act.put, List.setIfInBounds_toArray, List.set_cons_zero, List.set_cons_succ]
  refine wpAnyH_done (by kernel_rfl) ?_ _
  clear hHeld2
  have HR3 := Lib.hid (RowI.below (RowI.drew HR2.out) hbx (Nat.le_refl _))
  obtain ⟨fr, hfr⟩ : ∃ x, x = sB E S ax 0 := ⟨_, rfl⟩
  rw [show extB (E ke) ax = fr by rw [hfr]; unfold sB; rw [HKE.out]]
  obtain ⟨fa, hfa⟩ : ∃ x, x = extA (E ke) ax := ⟨_, rfl⟩
  rw [← hfa]
  have HFR := Lib.hid hfr
  clear hfr hfa hbx z0 HR2 HCELL hkn2 hk0
  obtain ⟨kt, hke, hktn⟩ : ∃ k : Nat, S (c - 1) = (k : Int) ∧ k < n := ⟨(S (c - 1)).toNat, by have := HSN.out (c - 1) (by omega); omega, by have := HSN.out (c - 1) (by omega); omega⟩
  obtain ⟨_, _, hv, _, hg3, _, _, hfz, hcell⟩ := RowI.at HR3.out (by omega)
  cases hv
  have z0 := hcell (c - 1) (by omega)
  rw [hke] at z0
  have e1 : (c : Int) - 1 = ((c - 1 : Nat) : Int) := by omega
  have hw1 := IntWalk.i64_in ((c - 1 : Nat) : Int) (by omega)
  have hc01 : ((c - 1 : Nat) : Int) < (c : Int) := by omega
  have hc02 : (0 : Int) ≤ ((c - 1 : Nat) : Int) := by omega
  have hkn2 : (kt : Int) < (n : Int) := by omega
  have hk0 : (0 : Int) ≤ (kt : Int) := by omega
  have HKT := Lib.hid (show (S (c - 1)).toNat = kt by rw [hke]; rfl)
  clear hke hfz hcell
  go_upto_region 8 with fail
  refine wp_region_held_drew (S := fun w' => w'.cell? ⟨g, c - 1, none⟩ = some (.int .i64 (kt : Nat)) ∧ CS q1 q2 b0 off0 kt n ca ax E N w') (by kernel_rfl) (by exact ⟨by rw [World.cell?_drew]; exact z0, CS.of (ShF.below HA.out (Nat.le_refl _) ((HB3.out).drew)) (by assumption) (by rw [World.cell?_drew]; exact ((HB3.out).cell (lt_of_cell HBOX.out.1)).trans HBOX.out.1) (by rw [World.cell?_drew]; exact ((HB3.out).cell (lt_of_cell HBOX.out.2.1)).trans HBOX.out.2.1)⟩) ?_
  intro hHeld
  refine takeD (i := 0) (oi := { dst := some 56, op := _, type := _, pos := _, after := _, guard := _ }) (d := some 56) (v := ?vvqa56) rfl rfl (by kernel_rfl) (by kernel_rfl) (by kernel_rfl) ?ddqa56 (by rfl) ?yyqa56 hHeld ?rrqa56
  case ddqa56 => first | exact fun _ _ _ h => h | exact fun _ _ _ h => HQ.out _ _ _ _ (by rfl) h
  case yyqa56 => (intro wx hSw; obtain ⟨y0, y1, y2, y3, y4, y5, y6, y7, y8, y9, y10, y11, y12, y13, y14⟩ := hSw; go_simp; try (with_reducible rfl))
  try simp only [Act.put, List.setIfInBounds_toArray, List.set_cons_zero, List.set_cons_succ]
  refine takeD (i := 1) (oi := { dst := some 57, op := _, type := _, pos := _, after := _, guard := _ }) (d := some 57) (v := ?vvqa57) rfl rfl (by kernel_rfl) (by kernel_rfl) (by kernel_rfl) ?ddqa57 (by rfl) ?yyqa57 hHeld ?rrqa57
  case ddqa57 => first | exact fun _ _ _ h => h | exact fun _ _ _ h => HQ.out _ _ _ _ (by rfl) h
  case yyqa57 => (intro wx hSw; obtain ⟨y0, y1, y2, y3, y4, y5, y6, y7, y8, y9, y10, y11, y12, y13, y14⟩ := hSw; go_simp; try (with_reducible rfl))
  try simp only [Act.put, List.setIfInBounds_toArray, List.set_cons_zero, List.set_cons_succ]
  refine takeD (i := 2) (oi := { dst := some 58, op := _, type := _, pos := _, after := _, guard := _ }) (d := some 58) (v := ?vvqa58) rfl rfl (by kernel_rfl) (by kernel_rfl) (by kernel_rfl) ?ddqa58 (by rfl) ?yyqa58 hHeld ?rrqa58
  case ddqa58 => first | exact fun _ _ _ h => h | exact fun _ _ _ h => HQ.out _ _ _ _ (by rfl) h
  case yyqa58 => (intro wx hSw; obtain ⟨y0, y1, y2, y3, y4, y5, y6, y7, y8, y9, y10, y11, y12, y13, y14⟩ := hSw; go_simp; try (with_reducible rfl))
  try simp only [Act.put, List.setIfInBounds_toArray, List.set_cons_zero, List.set_cons_succ]
  refine takeD (i := 3) (oi := { dst := some 59, op := _, type := _, pos := _, after := _, guard := _ }) (d := some 59) (v := ?vvqa59) rfl rfl (by kernel_rfl) (by kernel_rfl) (by kernel_rfl) ?ddqa59 (by rfl) ?yyqa59 hHeld ?rrqa59
  case ddqa59 => first | exact fun _ _ _ h => h | exact fun _ _ _ h => HQ.out _ _ _ _ (by rfl) h
  case yyqa59 => (intro wx hSw; obtain ⟨y0, y1, y2, y3, y4, y5, y6, y7, y8, y9, y10, y11, y12, y13, y14⟩ := hSw; go_simp; try (with_reducible rfl))
  try simp only [Act.put, List.setIfInBounds_toArray, List.set_cons_zero, List.set_cons_succ]
  refine takeD (i := 4) (oi := { dst := some 60, op := _, type := _, pos := _, after := _, guard := _ }) (d := some 60) (v := ?vvqa60) rfl rfl (by kernel_rfl) (by kernel_rfl) (by kernel_rfl) ?ddqa60 (by rfl) ?yyqa60 hHeld ?rrqa60
  case ddqa60 => first | exact fun _ _ _ h => h | exact fun _ _ _ h => HQ.out _ _ _ _ (by rfl) h
  case yyqa60 => (intro wx hSw; obtain ⟨y0, y1, y2, y3, y4, y5, y6, y7, y8, y9, y10, y11, y12, y13, y14⟩ := hSw; go_simp; try (with_reducible rfl))
  try simp only [Act.put, List.setIfInBounds_toArray, List.set_cons_zero, List.set_cons_succ]
  refine takeD (i := 5) (oi := { dst := some 61, op := _, type := _, pos := _, after := _, guard := _ }) (d := some 61) (v := ?vvqa61) rfl rfl (by kernel_rfl) (by kernel_rfl) (by kernel_rfl) ?ddqa61 (by rfl) ?yyqa61 hHeld ?rrqa61
  case ddqa61 => first | exact fun _ _ _ h => h | exact fun _ _ _ h => HQ.out _ _ _ _ (by rfl) h
  case yyqa61 => (intro wx hSw; obtain ⟨y0, y1, y2, y3, y4, y5, y6, y7, y8, y9, y10, y11, y12, y13, y14⟩ := hSw; go_simp; try (with_reducible rfl))
  try simp only [Act.put, List.setIfInBounds_toArray, List.set_cons_zero, List.set_cons_succ]
  refine takeD (i := 6) (oi := { dst := some 62, op := _, type := _, pos := _, after := _, guard := _ }) (d := some 62) (v := ?vvqa62) rfl rfl (by kernel_rfl) (by kernel_rfl) (by kernel_rfl) ?ddqa62 (by rfl) ?yyqa62 hHeld ?rrqa62
  case ddqa62 => first | exact fun _ _ _ h => h | exact fun _ _ _ h => HQ.out _ _ _ _ (by rfl) h
  case yyqa62 => (intro wx hSw; obtain ⟨y0, y1, y2, y3, y4, y5, y6, y7, y8, y9, y10, y11, y12, y13, y14⟩ := hSw; go_simp; try (with_reducible rfl))
  try simp only [Act.put, List.setIfInBounds_toArray, List.set_cons_zero, List.set_cons_succ]
  refine takeD (i := 7) (oi := { dst := some 63, op := _, type := _, pos := _, after := _, guard := _ }) (d := some 63) (v := ?vvqa63) rfl rfl (by kernel_rfl) (by kernel_rfl) (by kernel_rfl) ?ddqa63 (by rfl) ?yyqa63 hHeld ?rrqa63
  case ddqa63 => first | exact fun _ _ _ h => h | exact fun _ _ _ h => HQ.out _ _ _ _ (by rfl) h
  case yyqa63 => (intro wx hSw; obtain ⟨y0, y1, y2, y3, y4, y5, y6, y7, y8, y9, y10, y11, y12, y13, y14⟩ := hSw; go_simp; try (with_reducible rfl))
  try simp only [Act.put, List.setIfInBounds_toArray, List.set_cons_zero, List.set_cons_succ]
  refine takeD (i := 8) (oi := { dst := some 64, op := _, type := _, pos := _, after := _, guard := _ }) (d := some 64) (v := ?vvqa64) rfl rfl (by kernel_rfl) (by kernel_rfl) (by kernel_rfl) ?ddqa64 (by rfl) ?yyqa64 hHeld ?rrqa64
  case ddqa64 => first | exact fun _ _ _ h => h | exact fun _ _ _ h => HQ.out _ _ _ _ (by rfl) h
  case yyqa64 => (intro wx hSw; obtain ⟨y0, y1, y2, y3, y4, y5, y6, y7, y8, y9, y10, y11, y12, y13, y14⟩ := hSw; go_simp; try (with_reducible rfl))
  try simp only [Act.put, List.setIfInBounds_toArray, List.set_cons_zero, List.set_cons_succ]
  refine takeD (i := 9) (oi := { dst := some 65, op := _, type := _, pos := _, after := _, guard := _ }) (d := some 65) (v := ?vvqa65) rfl rfl (by kernel_rfl) (by kernel_rfl) (by kernel_rfl) ?ddqa65 (by rfl) ?yyqa65 hHeld ?rrqa65
  case ddqa65 => first | exact fun _ _ _ h => h | exact fun _ _ _ h => HQ.out _ _ _ _ (by rfl) h
  case yyqa65 => (intro wx hSw; obtain ⟨y0, y1, y2, y3, y4, y5, y6, y7, y8, y9, y10, y11, y12, y13, y14⟩ := hSw; go_simp; try (with_reducible rfl))
  try simp only [Act.put, List.setIfInBounds_toArray, List.set_cons_zero, List.set_cons_succ]
  refine wpAnyH_ready (rs := [10]) (by kernel_rfl) (by simp) ?_
  refine AllReadyH.cons (o := { dst := some 66, op := _, type := _, pos := _, after := _, guard := _ }) rfl (fun K hK => ?_) AllReadyH.nil
  go_simp
  refine (extent_any kt E N ax (w3).drew (HBX.out kt (by assumption)) (HT.out.below (Nat.le_refl _) (HB3.out).drew)).mono ?_
  rintro e w4 ⟨rfl, hbx⟩
  have HB4 := Lib.hid ((HB3.out).drew.trans (hbx.mono (HB3.out).size))
  refine hK.out _ _ ⟨by rw [hbx.cell (lt_of_cell (show (w3).drew.cell? ⟨g, c - 1, none⟩ = _ by rw [World.cell?_drew]; exact z0)), World.cell?_drew]; exact z0, CS.of (ShF.below HA.out (Nat.le_refl _) (HB4).out) (by assumption) (((HB4).out.cell (lt_of_cell HBOX.out.1)).trans HBOX.out.1) (((HB4).out.cell (lt_of_cell HBOX.out.2.1)).trans HBOX.out.2.1)⟩ (fun hHeld2 => ?_)
  clear hK K hHeld
  try simp only [Act.put, List.setIfInBounds_toArray, List.set_cons_zero, List.set_cons_succ]
  refine takeD (i := 11) (oi := { dst := some 55, op := _, type := _, pos := _, after := _, guard := _ }) (d := some 55) (v := ?vvqb55) rfl rfl (by kernel_rfl) (by kernel_rfl) (by kernel_rfl) ?ddqb55 (by rfl) ?yyqb55 hHeld2 ?rrqb55
  case ddqb55 => first | exact fun _ _ _ h => h | exact fun _ _ _ h => HQ.out _ _ _ _ (by rfl) h
  case yyqb55 => (intro wx hSw; obtain ⟨y0, y1, y2, y3, y4, y5, y6, y7, y8, y9, y10, y11, y12, y13, y14⟩ := hSw; go_simp; try (with_reducible rfl))
  try simp only [Act.put, List.setIfInBounds_toArray, List.set_cons_zero, List.set_cons_succ]
  refine takeD (i := 12) (oi := { dst := some 67, op := _, type := _, pos := _, after := _, guard := _ }) (d := some 67) (v := ?vvqb67) rfl rfl (by kernel_rfl) (by kernel_rfl) (by kernel_rfl) ?ddqb67 (by rfl) ?yyqb67 hHeld2 ?rrqb67
  case ddqb67 => first | exact fun _ _ _ h => h | exact fun _ _ _ h => HQ.out _ _ _ _ (by rfl) h
  case yyqb67 => (intro wx hSw; obtain ⟨y0, y1, y2, y3, y4, y5, y6, y7, y8, y9, y10, y11, y12, y13, y14⟩ := hSw; go_simp; try (with_reducible rfl))
  try simp only [Act.put, List.setIfInBounds_toArray, List.set_cons_zero, List.set_cons_succ]
  refine takeD (i := 13) (oi := { dst := some 68, op := _, type := _, pos := _, after := _, guard := _ }) (d := some 68) (v := ?vvqb68) rfl rfl (by kernel_rfl) (by kernel_rfl) (by kernel_rfl) ?ddqb68 (by rfl) ?yyqb68 hHeld2 ?rrqb68
  case ddqb68 => first | exact fun _ _ _ h => h | exact fun _ _ _ h => HQ.out _ _ _ _ (by rfl) h
  case yyqb68 => (intro wx hSw; obtain ⟨y0, y1, y2, y3, y4, y5, y6, y7, y8, y9, y10, y11, y12, y13, y14⟩ := hSw; go_simp; try (with_reducible rfl))
  try simp only [Act.put, List.setIfInBounds_toArray, List.set_cons_zero, List.set_cons_succ]
  refine takeD (i := 14) (oi := { dst := some 12, op := _, type := _, pos := _, after := _, guard := _ }) (d := some 12) (v := ?vvqb12) rfl rfl (by kernel_rfl) (by kernel_rfl) (by kernel_rfl) ?ddqb12 (by rfl) ?yyqb12 hHeld2 ?rrqb12
  case ddqb12 => first | exact fun _ _ _ h => h | exact fun _ _ _ h => HQ.out _ _ _ _ (by rfl) h
  case yyqb12 => (intro wx hSw; obtain ⟨y0, y1, y2, y3, y4, y5, y6, y7, y8, y9, y10, y11, y12, y13, y14⟩ := hSw; go_simp; try (with_reducible rfl))
  try simp only [Act.put, List.setIfInBounds_toArray, List.set_cons_zero, List.set_cons_succ]
  refine takeD (i := 15) (oi := { dst := some 13, op := _, type := _, pos := _, after := _, guard := _ }) (d := some 13) (v := ?vvqb13) rfl rfl (by kernel_rfl) (by kernel_rfl) (by kernel_rfl) ?ddqb13 (by rfl) ?yyqb13 hHeld2 ?rrqb13
  case ddqb13 => first | exact fun _ _ _ h => h | exact fun _ _ _ h => HQ.out _ _ _ _ (by rfl) h
  case yyqb13 => (intro wx hSw; obtain ⟨y0, y1, y2, y3, y4, y5, y6, y7, y8, y9, y10, y11, y12, y13, y14⟩ := hSw; go_simp; try (with_reducible rfl))
  try simp only [Act.put, List.setIfInBounds_toArray, List.set_cons_zero, List.set_cons_succ]
  refine wpAnyH_done (by kernel_rfl) ?_ _
  clear hHeld2
  have HR4 := Lib.hid (RowI.below (RowI.drew HR3.out) hbx (Nat.le_refl _))
  obtain ⟨tv, htv⟩ : ∃ x, x = sA E S ax (c - 1) := ⟨_, rfl⟩
  rw [show extA (E kt) ax = tv by rw [htv]; unfold sA; rw [HKT.out]]
  obtain ⟨tb, htb⟩ : ∃ x, x = extB (E kt) ax := ⟨_, rfl⟩
  rw [← htb]
  have HTV := Lib.hid htv
  clear htv htb hbx z0 HR3 hkn2 hk0
  have HCAP := Lib.hid hcap
  go_upto_block 0 with fail
  go_cut [14] from 14 to 14 (fun rv wx => rv = .int .i64 (roomR E S ax c (c - 2)) ∧ Below w0.heap.size w0 wx ∧ RowI wx w0.heap.size 3 1 (.slice (some ⟨g, 0, none⟩) c cap) c S)
  case first => exact spRoom hc0 hcn hn hcap HA HT HBX HBOX HSN HB4 HR4 (Lib.hid (show wrap64 (tv - fr) = roomR E S ax c 0 by rw [HTV.out, HFR.out]; rfl)) (Lib.hid fun _ _ _ _ hd h => ⟨hd.symm.trans h.1, h.2⟩) (by assumption) (by assumption)
  case rest =>
  obtain ⟨rfl, hbel, hrow⟩ := hcut
  obtain ⟨w5, rfl⟩ : ∃ v : World, v = wc := ⟨_, rfl⟩
  have HB5 := Lib.hid hbel
  have HR5 := Lib.hid hrow
  obtain ⟨room, hroom⟩ : ∃ x, x = roomR E S ax c (c - 2) := ⟨_, rfl⟩
  rw [← hroom]
  have HRO := Lib.hid hroom
  clear hbel hrow hroom HB4 HR4
  have hsz5 := HB5.out.size
  have hxs : w5.cell? ⟨q1, 0, none⟩ = some (.slice (some ⟨b0, off0, none⟩) n ca) := (HB5.out.cell (lt_of_cell HBOX.out.1)).trans HBOX.out.1
  have HCL := Lib.hid (clone_any n E N (some ⟨b0, off0, none⟩) ca w5 (HA.out.below (Nat.le_refl _) HB5.out) (by omega) (by omega))
  go_wp2_with fail
  refine HCL.out.mono ?_
  rintro e w6 ⟨hbb, v, rfl, hrow⟩
  obtain ⟨o, oc, rfl, hoB, hob, _, _, hfz, hcx⟩ := RowV.at hrow (by omega)
  have HB6 := Lib.hid (HB5.out.trans (hbb.mono hsz5))
  have HR6 := Lib.hid (RowI.below HR5.out hbb (Nat.le_refl _))
  obtain ⟨_, _, hv, _, hg5, _, _, hfz2, hcx2⟩ := RowI.at HR5.out (by omega)
  cases hv
  have hgo : g < o := by omega
  have hoB0 : w0.heap.size ≤ o := by omega
  have HO6 := Lib.hid (show ShR w6 w0.heap.size (.slice (some ⟨o, 0, none⟩) n oc) n E N from RowV.mono hrow hsz5)
  clear hbb hrow hfz hcx hfz2 hcx2 HCL HR5 hxs
  go_upto_block 2 with fail
  go_cut [] from 20 to 20 (fun wx => Below w0.heap.size w0 wx ∧ ShR wx w0.heap.size (.slice (some ⟨o, 0, none⟩) n oc) n (sprE E S ax c) N)
  case first => exact spMove hc0 hcn hn hcap HA HT HBX HBOX HSN HB6 HR6 HFR HRO hgo hoB0 HO6 (Lib.hid fun _ _ _ _ hd h => ⟨hd.symm.trans h.1, h.2⟩) (by assumption) (by assumption)
  case rest =>
  obtain ⟨hbel, hso⟩ := hcut
  obtain ⟨wf, rfl⟩ : ∃ v : World, v = wc := ⟨_, rfl⟩
  have HBF := Lib.hid hbel
  have HO := Lib.hid hso
  have hszf := hbel.size
  obtain ⟨E', hE'⟩ : ∃ E', E' = sprE E S ax c := ⟨_, rfl⟩
  rw [← hE'] at HO
  have HEE := Lib.hid hE'
  obtain ⟨_, _, hv, _, _, hnoc, _, hfz, hcl⟩ := RowV.at hso (by omega)
  cases hv
  have HCK := Lib.hid (check_any n E' N (some ⟨o, 0, none⟩) oc wf (ShR.shF HO.out) (by omega) hnoc)
  clear hbel hso hE' hfz hcl HO6 HB6 HR6
  go_wp2_with fail
  refine HCK.out.mono ?_
  rintro e wg ⟨rfl, hbg⟩
  have HBG := Lib.hid (HB0.out.trans ((HBF.out.trans (hbg.mono hszf)).mono hsz0))
  have HOG := Lib.hid (show ShR wg w.heap.size (.slice (some ⟨o, 0, none⟩) n oc) n E' N from RowV.mono (RowV.below HO.out hbg (Nat.le_refl _)) hsz0)
  clear hbg HCK
  by_cases hz : shE n E' = 0
  · have HZ := Lib.hid hz
    rw [hz]
    clear hz
    go_wp2_with fail
    go_ret2
    exact ⟨S, HPS.out, HORD.out, HBG.out, .inr ⟨by rw [← HEE.out]; exact HZ.out, _, rfl, by rw [← HEE.out]; exact HOG.out⟩⟩
  · obtain ⟨V, hV⟩ : ∃ V, V = shE n E' := ⟨_, rfl⟩
    have g1 : (V != 0) = true := by rw [hV]; simpa using hz
    have HV := Lib.hid hV
    have HZ := Lib.hid hz
    rw [← hV]
    clear hV hz
    go_wp2_with fail
    go_ret2
    exact ⟨S, HPS.out, HORD.out, HBG.out, .inl ⟨by rw [← HEE.out]; exact HZ.out, by rw [← HEE.out, ← HV.out]; rfl⟩⟩
end Go.Proofs.YtabnohphgegflaaDoor.ShT
