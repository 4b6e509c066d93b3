
/-
  The text of the bounds of a repetition.
-/
import Derived.Test.YtghbicajcffjhaaDoorPcEnv
import Derived.Test.YtghbicajcffjhaaDoorTakes
namespace Go.Proofs.YtghbicajcffjhaaDoor.PC
open Go.RowKit Go.Law Go.Law.Pn
set_option linter.unusedVariables false
set_option linter.unusedSimpArgs false
set_option maxRecDepth 100000
noncomputable def itS (n : Int) : ByteArray := ⟨(Lib.itoa n).toArray⟩
theorem itS_size (n : Int) (h0 : 0 ≤ n) (h1 : n ≤ 100) : (itS n).size ≤ 3 := by
  have h2 : ∀ k : Fin 101, (Lib.itoa (k.val : Int)).length ≤ 3 := by decide +kernel
  have h3 := h2 ⟨n.toNat, by omega⟩
  rw [show ((n.toNat : Nat) : Int) = n by omega] at h3
  unfold itS
  simpa [ByteArray.size] using h3
noncomputable def bnd0 (lo hi : Int) : ByteArray :=
  if lo = 0 ∧ hi = -1 then ⟨#[42]⟩ else if lo = 1 ∧ hi = -1 then ⟨#[43]⟩ else if lo = 0 ∧ hi = 1 then ⟨#[63]⟩
  else if hi = -1 then ⟨#[123]⟩ ++ itS lo ++ ⟨#[44, 125]⟩ else if lo = hi then ⟨#[123]⟩ ++ itS lo ++ ⟨#[125]⟩
  else ⟨#[123]⟩ ++ itS lo ++ ⟨#[44]⟩ ++ itS hi ++ ⟨#[125]⟩
noncomputable def bndS (lo hi : Int) (lz : Bool) : ByteArray := if lz then bnd0 lo hi ++ ⟨#[63]⟩ else bnd0 lo hi
theorem bnd0_size (lo hi : Int) (h0 : 0 ≤ lo) (h1 : lo ≤ 100) (h2 : -1 ≤ hi) (h3 : hi ≤ 100) : (bnd0 lo hi).size ≤ 9 := by
  have a1 : (⟨#[42]⟩ : ByteArray).size = 1 := rfl
  have a2 : (⟨#[43]⟩ : ByteArray).size = 1 := rfl
  have a3 : (⟨#[63]⟩ : ByteArray).size = 1 := rfl
  have a4 : (⟨#[123]⟩ : ByteArray).size = 1 := rfl
  have a5 : (⟨#[44, 125]⟩ : ByteArray).size = 2 := rfl
  have a6 : (⟨#[125]⟩ : ByteArray).size = 1 := rfl
  have a7 : (⟨#[44]⟩ : ByteArray).size = 1 := rfl
  have b1 := itS_size lo h0 h1
  unfold bnd0
  by_cases c1 : lo = 0 ∧ hi = -1
  · rw [if_pos c1]; omega
  rw [if_neg c1]
  by_cases c2 : lo = 1 ∧ hi = -1
  · rw [if_pos c2]; omega
  rw [if_neg c2]
  by_cases c3 : lo = 0 ∧ hi = 1
  · rw [if_pos c3]; omega
  rw [if_neg c3]
  by_cases c4 : hi = -1
  · rw [if_pos c4]; simp only [ByteArray.size_append]; omega
  rw [if_neg c4]
  have b2 := itS_size hi (by omega) h3
  by_cases c5 : lo = hi
  · rw [if_pos c5]; simp only [ByteArray.size_append]; omega
  rw [if_neg c5]
  simp only [ByteArray.size_append]; omega
theorem bndS_size (lo hi : Int) (lz : Bool) (h0 : 0 ≤ lo) (h1 : lo ≤ 100) (h2 : -1 ≤ hi) (h3 : hi ≤ 100) : (bndS lo hi lz).size ≤ 10 := by
  have a3 : (⟨#[63]⟩ : ByteArray).size = 1 := rfl
  have b := bnd0_size lo hi h0 h1 h2 h3
  unfold bndS
  split
  · simp only [ByteArray.size_append]; omega
  · omega
theorem it_any (n : Int) (h0 : 0 ≤ n) (h1 : n ≤ 100) (w : World) (hE : PEnv w) : Calls Tryd.prog 86 #[.int .i64 n] w fun e w' => e = .returned (.string (itS n)) ∧ Below w.heap.size w w' := by
  refine (Tryd.strconv_Itoa n (by omega) (by omega) w hE.tb).mono ?_
  rintro e w2 ⟨rfl, k, os, rfl⟩
  exact ⟨rfl, Lib.below_grow _ _ (Nat.le_refl _) _ _⟩
set_option maxHeartbeats 8000000 in
theorem bounds_any (kind : Int) (nt lz : Bool) (lo hi : Int) (sn : Nat) (sa : Option Addr) (sc : Nat) (kn : Nat) (ka : Option Addr) (kc : Nat) (w : World) (hE : PEnv w) (h0 : 0 ≤ lo) (h1 : lo ≤ 100) (h2 : -1 ≤ hi) (h3 : hi ≤ 100) :
    Calls Tryd.prog 59 #[.agg #[.int .i64 kind, .bool nt, .bool lz, .int .i64 lo, .int .i64 hi, .slice sa sn sc, .slice ka kn kc]] w fun e w' => e = .returned (.string (bndS lo hi lz)) ∧ Below w.heap.size w w' := by
  obtain ⟨B, hB⟩ : ∃ B, B = bnd0 lo hi := ⟨_, rfl⟩
  have hBz := bnd0_size lo hi h0 h1 h2 h3
  have HV := Lib.hid (show bndS lo hi lz = if lz then B ++ ⟨#[63]⟩ else B by rw [hB]; rfl)
  obtain ⟨V, hV⟩ : ∃ V, V = bndS lo hi lz := ⟨_, rfl⟩
  rw [← hV] at HV ⊢
  rw [← hB] at hBz
  have HBD := Lib.hid hB
  have hz1 := itS_size lo h0 h1
  have HL := Lib.hid (fun w' (hb : Below w.heap.size w w') => it_any lo h0 h1 w' (hE.below hb (Nat.le_refl _)))
  have HH := Lib.hid (fun (h : 0 ≤ hi) w' (hb : Below w.heap.size w w') => it_any hi h h3 w' (hE.below hb (Nat.le_refl _)))
  have HZ2 := Lib.hid (fun (h : 0 ≤ hi) => itS_size hi h h3)
  obtain ⟨L, hL⟩ : ∃ L, L = itS lo := ⟨_, rfl⟩
  rw [← hL] at hz1 HL
  have HLE := Lib.hid hL
  obtain ⟨w1, hw1⟩ : ∃ x, x = w.alloc (.cells #[.int .i64 kind, .bool nt, .bool lz, .int .i64 lo, .int .i64 hi, .slice sa sn sc, .slice ka kn kc] 25) := ⟨_, rfl⟩
  have HB1 := Lib.hid (show Below w.heap.size w w1 by rw [hw1]; exact (Below.refl _ _).alloc (Nat.le_refl _) _)
  obtain ⟨P, hP⟩ : ∃ x, x = w.heap.size := ⟨_, rfl⟩
  have HP1 := Lib.hid (show Blk w1 P #[.int .i64 kind, .bool nt, .bool lz, .int .i64 lo, .int .i64 hi, .slice sa sn sc, .slice ka kn kc] 25 by rw [hw1, hP]; exact Blk.new _ _ _)
  have HW1 := Lib.hid hw1
  have HPE := Lib.hid hP
  clear hB hV hE hL hw1 hP
  go_enter Tryd.func59, Tryd.ntmps59
  go_upto_region 1 with fail
  rw [← HW1.out, ← HPE.out]
  have p2 : w1.cell? ⟨P, 2, none⟩ = some (.bool lz) := HP1.out.cell (i := 2) rfl
  have p3 : w1.cell? ⟨P, 3, none⟩ = some (.int .i64 lo) := HP1.out.cell (i := 3) rfl
  have p4 : w1.cell? ⟨P, 4, none⟩ = some (.int .i64 hi) := HP1.out.cell (i := 4) rfl
  have hPl := HP1.out.lt
  go_upto_block 0 with fail
  go_cut [3] from 4 to 60 (fun v wx => v = .string B ∧ Below w1.heap.size w1 wx)
  case first =>
    clear p2
    by_cases c1 : lo = 0 ∧ hi = -1
    · have HE := Lib.hid (show B = ⟨#[42]⟩ by rw [HBD.out, bnd0, if_pos c1])
      obtain ⟨rfl, rfl⟩ := c1
      go_wp2_with fail
      go_meet
      exact ⟨by rw [HE.out], Below.refl _ _⟩
    by_cases c2 : lo = 1 ∧ hi = -1
    · have HE := Lib.hid (show B = ⟨#[43]⟩ by rw [HBD.out, bnd0, if_neg c1, if_pos c2])
      obtain ⟨rfl, rfl⟩ := c2
      clear c1
      go_wp2_with fail
      go_meet
      exact ⟨by rw [HE.out], Below.refl _ _⟩
    by_cases c3 : lo = 0 ∧ hi = 1
    · have HE := Lib.hid (show B = ⟨#[63]⟩ by rw [HBD.out, bnd0, if_neg c1, if_neg c2, if_pos c3])
      obtain ⟨rfl, rfl⟩ := c3
      clear c1 c2
      go_wp2_with fail
      go_meet
      exact ⟨by rw [HE.out], Below.refl _ _⟩
    by_cases c4 : hi = -1
    · have HE := Lib.hid (show B = ⟨#[123]⟩ ++ L ++ ⟨#[44, 125]⟩ by rw [HBD.out, bnd0, if_neg c1, if_neg c2, if_neg c3, if_pos c4, HLE.out])
      subst c4
      have d1 : (lo == 0) = false := by simp; omega
      have d2 : (lo == 1) = false := by simp; omega
      clear c1 c2 c3
      go_wp2_with (go_at_call 86; refine (HL.out w1 HB1.out).mono ?_; rintro e w2 ⟨rfl, hb2⟩)
      go_meet
      exact ⟨by rw [HE.out], hb2⟩
    have hi0 : 0 ≤ hi := by omega
    have d3 : (hi == -1) = false := by simp; omega
    by_cases c5 : lo = hi
    · have HE := Lib.hid (show B = ⟨#[123]⟩ ++ L ++ ⟨#[125]⟩ by rw [HBD.out, bnd0, if_neg c1, if_neg c2, if_neg c3, if_neg c4, if_pos c5, HLE.out])
      by_cases e0 : lo = 0
      · subst e0 c5
        clear c1 c2 c3 c4 d3
        go_wp2_with (go_at_call 86; refine (HL.out w1 HB1.out).mono ?_; rintro e w2 ⟨rfl, hb2⟩)
        go_meet
        exact ⟨by rw [HE.out], hb2⟩
      by_cases e1 : lo = 1
      · subst e1 c5
        clear c1 c2 c3 c4 d3
        go_wp2_with (go_at_call 86; refine (HL.out w1 HB1.out).mono ?_; rintro e w2 ⟨rfl, hb2⟩)
        go_meet
        exact ⟨by rw [HE.out], hb2⟩
      have f0 : (lo == 0) = false := by simp; omega
      have f1 : (lo == 1) = false := by simp; omega
      subst c5
      clear c1 c2 c3 c4 e0 e1
      go_wp2_with (go_at_call 86; refine (HL.out w1 HB1.out).mono ?_; rintro e w2 ⟨rfl, hb2⟩)
      go_meet
      exact ⟨by rw [HE.out], hb2⟩
    have hz2 := HZ2.out hi0
    obtain ⟨H, hH⟩ : ∃ H, H = itS hi := ⟨_, rfl⟩
    have HE := Lib.hid (show B = ⟨#[123]⟩ ++ L ++ ⟨#[44]⟩ ++ H ++ ⟨#[125]⟩ by rw [HBD.out, bnd0, if_neg c1, if_neg c2, if_neg c3, if_neg c4, if_neg c5, HLE.out, hH])
    rw [← hH] at hz2 HH
    have d4 : (lo == hi) = false := by simpa using c5
    clear hH
    by_cases e0 : lo = 0
    · subst e0
      have d5 : (hi == 1) = false := by simp; omega
      clear c1 c2 c3 c4 c5
      go_upto_region 2 with fail
      refine wp_region_held_drew (S := fun w' => w'.cell? ⟨P, 3, none⟩ = some (.int .i64 (0)) ∧ w'.cell? ⟨P, 4, none⟩ = some (.int .i64 hi)) (by kernel_rfl) (by exact ⟨by rw [World.cell?_drew]; exact p3, by rw [World.cell?_drew]; exact p4⟩) ?_
      intro hHeld
      refine takeD (i := 0) (oi := { dst := some 4, op := _, type := _, pos := _, after := _, guard := _ }) (d := some 4) (v := ?vvap4) rfl rfl (by kernel_rfl) (by kernel_rfl) (by kernel_rfl) ?ddap4 (by rfl) ?yyap4 hHeld ?rrap4
      case ddap4 => first | exact fun _ _ _ h => h | exact fun _ _ _ h => HQ.out _ _ _ _ (by rfl) h
      case yyap4 => (intro wx hSw; obtain ⟨y0, y1⟩ := hSw; go_simp; try (with_reducible rfl))
      try simp (maxSteps := 1000000) only [Act.put, List.setIfInBounds_toArray, List.set_cons_zero, List.set_cons_succ]
      refine takeD (i := 1) (oi := { dst := some 5, op := _, type := _, pos := _, after := _, guard := _ }) (d := some 5) (v := ?vvap5) rfl rfl (by kernel_rfl) (by kernel_rfl) (by kernel_rfl) ?ddap5 (by rfl) ?yyap5 hHeld ?rrap5
      case ddap5 => first | exact fun _ _ _ h => h | exact fun _ _ _ h => HQ.out _ _ _ _ (by rfl) h
      case yyap5 => (intro wx hSw; obtain ⟨y0, y1⟩ := hSw; go_simp; try (with_reducible rfl))
      try simp (maxSteps := 1000000) only [Act.put, List.setIfInBounds_toArray, List.set_cons_zero, List.set_cons_succ]
      refine takeD (i := 5) (oi := { dst := some 9, op := _, type := _, pos := _, after := _, guard := _ }) (d := some 9) (v := ?vvap9) rfl rfl (by kernel_rfl) (by kernel_rfl) (by kernel_rfl) ?ddap9 (by rfl) ?yyap9 hHeld ?rrap9
      case ddap9 => first | exact fun _ _ _ h => h | exact fun _ _ _ h => HQ.out _ _ _ _ (by rfl) h
      case yyap9 => (intro wx hSw; obtain ⟨y0, y1⟩ := hSw; go_simp; try (with_reducible rfl))
      try simp (maxSteps := 1000000) only [Act.put, List.setIfInBounds_toArray, List.set_cons_zero, List.set_cons_succ]
      refine takeD (i := 6) (oi := { dst := some 10, op := _, type := _, pos := _, after := _, guard := _ }) (d := some 10) (v := ?vvap10) rfl rfl (by kernel_rfl) (by kernel_rfl) (by kernel_rfl) ?ddap10 (by rfl) ?yyap10 hHeld ?rrap10
      case ddap10 => first | exact fun _ _ _ h => h | exact fun _ _ _ h => HQ.out _ _ _ _ (by rfl) h
      case yyap10 => (intro wx hSw; obtain ⟨y0, y1⟩ := hSw; go_simp; try (with_reducible rfl))
      try simp (maxSteps := 1000000) only [Act.put, List.setIfInBounds_toArray, List.set_cons_zero, List.set_cons_succ]
      refine wpAnyH_ready (rs := [2]) (by kernel_rfl) (by simp) ?_
      refine AllReadyH.cons (o := { dst := some 6, op := _, type := _, pos := _, after := _, guard := _ }) rfl (fun K hK => ?_) AllReadyH.nil
      go_simp
      refine (HL.out w1.drew HB1.out.drew).mono ?_
      rintro e w2 ⟨rfl, hb2⟩
      have HB2 := Lib.hid (HB1.out.drew.trans (hb2.mono HB1.out.size))
      have HC2 := Lib.hid (show w2.cell? ⟨P, 3, none⟩ = some (.int .i64 (0)) ∧ w2.cell? ⟨P, 4, none⟩ = some (.int .i64 hi) from ⟨by rw [hb2.cell (by simpa using hPl), World.cell?_drew]; exact p3, by rw [hb2.cell (by simpa using hPl), World.cell?_drew]; exact p4⟩)
      have HB12 := Lib.hid (show Below w1.heap.size w1 w2 from ((Below.refl _ _).drew).trans hb2)
      have hs2 := hb2.size
      refine hK.out _ _ HC2.out (fun hHeld2 => ?_)
      clear hK K hHeld hb2
      try simp only [Act.put, List.setIfInBounds_toArray, List.set_cons_zero, List.set_cons_succ]
      have q1 : (9223372036854775807 < 1 + L.size) = False := by simp; omega
      have q2 : (9223372036854775807 < 1 + L.size + 1) = False := by simp; omega
      refine takeD (i := 3) (oi := { dst := some 7, op := _, type := _, pos := _, after := _, guard := _ }) (d := some 7) (v := ?vvbp7) rfl rfl (by kernel_rfl) (by kernel_rfl) (by kernel_rfl) ?ddbp7 (by rfl) ?yybp7 hHeld2 ?rrbp7
      case ddbp7 => first | exact fun _ _ _ h => h | exact fun _ _ _ h => HQ.out _ _ _ _ (by rfl) h
      case yybp7 => (intro wx hSw; obtain ⟨y0, y1⟩ := hSw; go_simp; try (with_reducible rfl))
      try simp (maxSteps := 1000000) only [Act.put, List.setIfInBounds_toArray, List.set_cons_zero, List.set_cons_succ]
      refine takeD (i := 4) (oi := { dst := some 8, op := _, type := _, pos := _, after := _, guard := _ }) (d := some 8) (v := ?vvbp8) rfl rfl (by kernel_rfl) (by kernel_rfl) (by kernel_rfl) ?ddbp8 (by rfl) ?yybp8 hHeld2 ?rrbp8
      case ddbp8 => first | exact fun _ _ _ h => h | exact fun _ _ _ h => HQ.out _ _ _ _ (by rfl) h
      case yybp8 => (intro wx hSw; obtain ⟨y0, y1⟩ := hSw; go_simp; try (with_reducible rfl))
      try simp (maxSteps := 1000000) only [Act.put, List.setIfInBounds_toArray, List.set_cons_zero, List.set_cons_succ]
      refine wpAnyH_ready (rs := [7]) (by kernel_rfl) (by simp) ?_
      refine AllReadyH.cons (o := { dst := some 11, op := _, type := _, pos := _, after := _, guard := _ }) rfl (fun K hK => ?_) AllReadyH.nil
      go_simp
      refine (HH.out hi0 w2 HB2.out).mono ?_
      rintro e w3 ⟨rfl, hb3⟩
      refine hK.out _ _ ⟨by rw [hb3.cell (lt_of_cell HC2.out.1)]; exact HC2.out.1, by rw [hb3.cell (lt_of_cell HC2.out.2)]; exact HC2.out.2⟩ (fun hHeld3 => ?_)
      clear hK K hHeld2
      try simp only [Act.put, List.setIfInBounds_toArray, List.set_cons_zero, List.set_cons_succ]
      have q3 : (9223372036854775807 < 1 + L.size + 1 + H.size) = False := by simp; omega
      have q4 : (9223372036854775807 < 1 + L.size + 1 + H.size + 1) = False := by simp; omega
      refine takeD (i := 8) (oi := { dst := some 12, op := _, type := _, pos := _, after := _, guard := _ }) (d := some 12) (v := ?vvcp12) rfl rfl (by kernel_rfl) (by kernel_rfl) (by kernel_rfl) ?ddcp12 (by rfl) ?yycp12 hHeld3 ?rrcp12
      case ddcp12 => first | exact fun _ _ _ h => h | exact fun _ _ _ h => HQ.out _ _ _ _ (by rfl) h
      case yycp12 => (intro wx hSw; obtain ⟨y0, y1⟩ := hSw; go_simp; try (with_reducible rfl))
      try simp (maxSteps := 1000000) only [Act.put, List.setIfInBounds_toArray, List.set_cons_zero, List.set_cons_succ]
      refine takeD (i := 9) (oi := { dst := some 13, op := _, type := _, pos := _, after := _, guard := _ }) (d := some 13) (v := ?vvcp13) rfl rfl (by kernel_rfl) (by kernel_rfl) (by kernel_rfl) ?ddcp13 (by rfl) ?yycp13 hHeld3 ?rrcp13
      case ddcp13 => first | exact fun _ _ _ h => h | exact fun _ _ _ h => HQ.out _ _ _ _ (by rfl) h
      case yycp13 => (intro wx hSw; obtain ⟨y0, y1⟩ := hSw; go_simp; try (with_reducible rfl))
      try simp (maxSteps := 1000000) only [Act.put, List.setIfInBounds_toArray, List.set_cons_zero, List.set_cons_succ]
      refine takeD (i := 10) (oi := { dst := some 3, op := _, type := _, pos := _, after := _, guard := _ }) (d := some 3) (v := ?vvcp3) rfl rfl (by kernel_rfl) (by kernel_rfl) (by kernel_rfl) ?ddcp3 (by rfl) ?yycp3 hHeld3 ?rrcp3
      case ddcp3 => first | exact fun _ _ _ h => h | exact fun _ _ _ h => HQ.out _ _ _ _ (by rfl) h
      case yycp3 => (intro wx hSw; obtain ⟨y0, y1⟩ := hSw; go_simp; try (with_reducible rfl))
      try simp (maxSteps := 1000000) only [Act.put, List.setIfInBounds_toArray, List.set_cons_zero, List.set_cons_succ]
      refine wpAnyH_done (by kernel_rfl) ?_ _
      go_wp2_with fail
      go_meet
      exact ⟨by rw [HE.out], HB12.out.trans (hb3.mono HB12.out.size)⟩
    by_cases e1 : lo = 1
    · subst e1
      clear c1 c2 c3 c4 c5
      go_upto_region 2 with fail
      refine wp_region_held_drew (S := fun w' => w'.cell? ⟨P, 3, none⟩ = some (.int .i64 (1)) ∧ w'.cell? ⟨P, 4, none⟩ = some (.int .i64 hi)) (by kernel_rfl) (by exact ⟨by rw [World.cell?_drew]; exact p3, by rw [World.cell?_drew]; exact p4⟩) ?_
      intro hHeld
      refine takeD (i := 0) (oi := { dst := some 4, op := _, type := _, pos := _, after := _, guard := _ }) (d := some 4) (v := ?vvaq4) rfl rfl (by kernel_rfl) (by kernel_rfl) (by kernel_rfl) ?ddaq4 (by rfl) ?yyaq4 hHeld ?rraq4
      case ddaq4 => first | exact fun _ _ _ h => h | exact fun _ _ _ h => HQ.out _ _ _ _ (by rfl) h
      case yyaq4 => (intro wx hSw; obtain ⟨y0, y1⟩ := hSw; go_simp; try (with_reducible rfl))
      try simp (maxSteps := 1000000) only [Act.put, List.setIfInBounds_toArray, List.set_cons_zero, List.set_cons_succ]
      refine takeD (i := 1) (oi := { dst := some 5, op := _, type := _, pos := _, after := _, guard := _ }) (d := some 5) (v := ?vvaq5) rfl rfl (by kernel_rfl) (by kernel_rfl) (by kernel_rfl) ?ddaq5 (by rfl) ?yyaq5 hHeld ?rraq5
      case ddaq5 => first | exact fun _ _ _ h => h | exact fun _ _ _ h => HQ.out _ _ _ _ (by rfl) h
      case yyaq5 => (intro wx hSw; obtain ⟨y0, y1⟩ := hSw; go_simp; try (with_reducible rfl))
      try simp (maxSteps := 1000000) only [Act.put, List.setIfInBounds_toArray, List.set_cons_zero, List.set_cons_succ]
      refine takeD (i := 5) (oi := { dst := some 9, op := _, type := _, pos := _, after := _, guard := _ }) (d := some 9) (v := ?vvaq9) rfl rfl (by kernel_rfl) (by kernel_rfl) (by kernel_rfl) ?ddaq9 (by rfl) ?yyaq9 hHeld ?rraq9
      case ddaq9 => first | exact fun _ _ _ h => h | exact fun _ _ _ h => HQ.out _ _ _ _ (by rfl) h
      case yyaq9 => (intro wx hSw; obtain ⟨y0, y1⟩ := hSw; go_simp; try (with_reducible rfl))
      try simp (maxSteps := 1000000) only [Act.put, List.setIfInBounds_toArray, List.set_cons_zero, List.set_cons_succ]
      refine takeD (i := 6) (oi := { dst := some 10, op := _, type := _, pos := _, after := _, guard := _ }) (d := some 10) (v := ?vvaq10) rfl rfl (by kernel_rfl) (by kernel_rfl) (by kernel_rfl) ?ddaq10 (by rfl) ?yyaq10 hHeld ?rraq10
      case ddaq10 => first | exact fun _ _ _ h => h | exact fun _ _ _ h => HQ.out _ _ _ _ (by rfl) h
      case yyaq10 => (intro wx hSw; obtain ⟨y0, y1⟩ := hSw; go_simp; try (with_reducible rfl))
      try simp (maxSteps := 1000000) only [Act.put, List.setIfInBounds_toArray, List.set_cons_zero, List.set_cons_succ]
      refine wpAnyH_ready (rs := [2]) (by kernel_rfl) (by simp) ?_
      refine AllReadyH.cons (o := { dst := some 6, op := _, type := _, pos := _, after := _, guard := _ }) rfl (fun K hK => ?_) AllReadyH.nil
      go_simp
      refine (HL.out w1.drew HB1.out.drew).mono ?_
      rintro e w2 ⟨rfl, hb2⟩
      have HB2 := Lib.hid (HB1.out.drew.trans (hb2.mono HB1.out.size))
      have HC2 := Lib.hid (show w2.cell? ⟨P, 3, none⟩ = some (.int .i64 (1)) ∧ w2.cell? ⟨P, 4, none⟩ = some (.int .i64 hi) from ⟨by rw [hb2.cell (by simpa using hPl), World.cell?_drew]; exact p3, by rw [hb2.cell (by simpa using hPl), World.cell?_drew]; exact p4⟩)
      have HB12 := Lib.hid (show Below w1.heap.size w1 w2 from ((Below.refl _ _).drew).trans hb2)
      have hs2 := hb2.size
      refine hK.out _ _ HC2.out (fun hHeld2 => ?_)
      clear hK K hHeld hb2
      try simp only [Act.put, List.setIfInBounds_toArray, List.set_cons_zero, List.set_cons_succ]
      have q1 : (9223372036854775807 < 1 + L.size) = False := by simp; omega
      have q2 : (9223372036854775807 < 1 + L.size + 1) = False := by simp; omega
      refine takeD (i := 3) (oi := { dst := some 7, op := _, type := _, pos := _, after := _, guard := _ }) (d := some 7) (v := ?vvbq7) rfl rfl (by kernel_rfl) (by kernel_rfl) (by kernel_rfl) ?ddbq7 (by rfl) ?yybq7 hHeld2 ?rrbq7
      case ddbq7 => first | exact fun _ _ _ h => h | exact fun _ _ _ h => HQ.out _ _ _ _ (by rfl) h
      case yybq7 => (intro wx hSw; obtain ⟨y0, y1⟩ := hSw; go_simp; try (with_reducible rfl))
      try simp (maxSteps := 1000000) only [Act.put, List.setIfInBounds_toArray, List.set_cons_zero, List.set_cons_succ]
      refine takeD (i := 4) (oi := { dst := some 8, op := _, type := _, pos := _, after := _, guard := _ }) (d := some 8) (v := ?vvbq8) rfl rfl (by kernel_rfl) (by kernel_rfl) (by kernel_rfl) ?ddbq8 (by rfl) ?yybq8 hHeld2 ?rrbq8
      case ddbq8 => first | exact fun _ _ _ h => h | exact fun _ _ _ h => HQ.out _ _ _ _ (by rfl) h
      case yybq8 => (intro wx hSw; obtain ⟨y0, y1⟩ := hSw; go_simp; try (with_reducible rfl))
      try simp (maxSteps := 1000000) only [Act.put, List.setIfInBounds_toArray, List.set_cons_zero, List.set_cons_succ]
      refine wpAnyH_ready (rs := [7]) (by kernel_rfl) (by simp) ?_
      refine AllReadyH.cons (o := { dst := some 11, op := _, type := _, pos := _, after := _, guard := _ }) rfl (fun K hK => ?_) AllReadyH.nil
      go_simp
      refine (HH.out hi0 w2 HB2.out).mono ?_
      rintro e w3 ⟨rfl, hb3⟩
      refine hK.out _ _ ⟨by rw [hb3.cell (lt_of_cell HC2.out.1)]; exact HC2.out.1, by rw [hb3.cell (lt_of_cell HC2.out.2)]; exact HC2.out.2⟩ (fun hHeld3 => ?_)
      clear hK K hHeld2
      try simp only [Act.put, List.setIfInBounds_toArray, List.set_cons_zero, List.set_cons_succ]
      have q3 : (9223372036854775807 < 1 + L.size + 1 + H.size) = False := by simp; omega
      have q4 : (9223372036854775807 < 1 + L.size + 1 + H.size + 1) = False := by simp; omega
      refine takeD (i := 8) (oi := { dst := some 12, op := _, type := _, pos := _, after := _, guard := _ }) (d := some 12) (v := ?vvcq12) rfl rfl (by kernel_rfl) (by kernel_rfl) (by kernel_rfl) ?ddcq12 (by rfl) ?yycq12 hHeld3 ?rrcq12
      case ddcq12 => first | exact fun _ _ _ h => h | exact fun _ _ _ h => HQ.out _ _ _ _ (by rfl) h
      case yycq12 => (intro wx hSw; obtain ⟨y0, y1⟩ := hSw; go_simp; try (with_reducible rfl))
      try simp (maxSteps := 1000000) only [Act.put, List.setIfInBounds_toArray, List.set_cons_zero, List.set_cons_succ]
      refine takeD (i := 9) (oi := { dst := some 13, op := _, type := _, pos := _, after := _, guard := _ }) (d := some 13) (v := ?vvcq13) rfl rfl (by kernel_rfl) (by kernel_rfl) (by kernel_rfl) ?ddcq13 (by rfl) ?yycq13 hHeld3 ?rrcq13
      case ddcq13 => first | exact fun _ _ _ h => h | exact fun _ _ _ h => HQ.out _ _ _ _ (by rfl) h
      case yycq13 => (intro wx hSw; obtain ⟨y0, y1⟩ := hSw; go_simp; try (with_reducible rfl))
      try simp (maxSteps := 1000000) only [Act.put, List.setIfInBounds_toArray, List.set_cons_zero, List.set_cons_succ]
      refine takeD (i := 10) (oi := { dst := some 3, op := _, type := _, pos := _, after := _, guard := _ }) (d := some 3) (v := ?vvcq3) rfl rfl (by kernel_rfl) (by kernel_rfl) (by kernel_rfl) ?ddcq3 (by rfl) ?yycq3 hHeld3 ?rrcq3
      case ddcq3 => first | exact fun _ _ _ h => h | exact fun _ _ _ h => HQ.out _ _ _ _ (by rfl) h
      case yycq3 => (intro wx hSw; obtain ⟨y0, y1⟩ := hSw; go_simp; try (with_reducible rfl))
      try simp (maxSteps := 1000000) only [Act.put, List.setIfInBounds_toArray, List.set_cons_zero, List.set_cons_succ]
      refine wpAnyH_done (by kernel_rfl) ?_ _
      go_wp2_with fail
      go_meet
      exact ⟨by rw [HE.out], HB12.out.trans (hb3.mono HB12.out.size)⟩
    have f0 : (lo == 0) = false := by simp; omega
    have f1 : (lo == 1) = false := by simp; omega
    clear c1 c2 c3 c4 c5 e0 e1
    go_upto_region 2 with fail
    refine wp_region_held_drew (S := fun w' => w'.cell? ⟨P, 3, none⟩ = some (.int .i64 (lo)) ∧ w'.cell? ⟨P, 4, none⟩ = some (.int .i64 hi)) (by kernel_rfl) (by exact ⟨by rw [World.cell?_drew]; exact p3, by rw [World.cell?_drew]; exact p4⟩) ?_
    intro hHeld
    refine takeD (i := 0) (oi := { dst := some 4, op := _, type := _, pos := _, after := _, guard := _ }) (d := some 4) (v := ?vvar4) rfl rfl (by kernel_rfl) (by kernel_rfl) (by kernel_rfl) ?ddar4 (by rfl) ?yyar4 hHeld ?rrar4
    case ddar4 => first | exact fun _ _ _ h => h | exact fun _ _ _ h => HQ.out _ _ _ _ (by rfl) h
    case yyar4 => (intro wx hSw; obtain ⟨y0, y1⟩ := hSw; go_simp; try (with_reducible rfl))
    try simp (maxSteps := 1000000) only [Act.put, List.setIfInBounds_toArray, List.set_cons_zero, List.set_cons_succ]
    refine takeD (i := 1) (oi := { dst := some 5, op := _, type := _, pos := _, after := _, guard := _ }) (d := some 5) (v := ?vvar5) rfl rfl (by kernel_rfl) (by kernel_rfl) (by kernel_rfl) ?ddar5 (by rfl) ?yyar5 hHeld ?rrar5
    case ddar5 => first | exact fun _ _ _ h => h | exact fun _ _ _ h => HQ.out _ _ _ _ (by rfl) h
    case yyar5 => (intro wx hSw; obtain ⟨y0, y1⟩ := hSw; go_simp; try (with_reducible rfl))
    try simp (maxSteps := 1000000) only [Act.put, List.setIfInBounds_toArray, List.set_cons_zero, List.set_cons_succ]
    refine takeD (i := 5) (oi := { dst := some 9, op := _, type := _, pos := _, after := _, guard := _ }) (d := some 9) (v := ?vvar9) rfl rfl (by kernel_rfl) (by kernel_rfl) (by kernel_rfl) ?ddar9 (by rfl) ?yyar9 hHeld ?rrar9
    case ddar9 => first | exact fun _ _ _ h => h | exact fun _ _ _ h => HQ.out _ _ _ _ (by rfl) h
    case yyar9 => (intro wx hSw; obtain ⟨y0, y1⟩ := hSw; go_simp; try (with_reducible rfl))
    try simp (maxSteps := 1000000) only [Act.put, List.setIfInBounds_toArray, List.set_cons_zero, List.set_cons_succ]
    refine takeD (i := 6) (oi := { dst := some 10, op := _, type := _, pos := _, after := _, guard := _ }) (d := some 10) (v := ?vvar10) rfl rfl (by kernel_rfl) (by kernel_rfl) (by kernel_rfl) ?ddar10 (by rfl) ?yyar10 hHeld ?rrar10
    case ddar10 => first | exact fun _ _ _ h => h | exact fun _ _ _ h => HQ.out _ _ _ _ (by rfl) h
    case yyar10 => (intro wx hSw; obtain ⟨y0, y1⟩ := hSw; go_simp; try (with_reducible rfl))
    try simp (maxSteps := 1000000) only [Act.put, List.setIfInBounds_toArray, List.set_cons_zero, List.set_cons_succ]
    refine wpAnyH_ready (rs := [2]) (by kernel_rfl) (by simp) ?_
    refine AllReadyH.cons (o := { dst := some 6, op := _, type := _, pos := _, after := _, guard := _ }) rfl (fun K hK => ?_) AllReadyH.nil
    go_simp
    refine (HL.out w1.drew HB1.out.drew).mono ?_
    rintro e w2 ⟨rfl, hb2⟩
    have HB2 := Lib.hid (HB1.out.drew.trans (hb2.mono HB1.out.size))
    have HC2 := Lib.hid (show w2.cell? ⟨P, 3, none⟩ = some (.int .i64 (lo)) ∧ w2.cell? ⟨P, 4, none⟩ = some (.int .i64 hi) from ⟨by rw [hb2.cell (by simpa using hPl), World.cell?_drew]; exact p3, by rw [hb2.cell (by simpa using hPl), World.cell?_drew]; exact p4⟩)
    have HB12 := Lib.hid (show Below w1.heap.size w1 w2 from ((Below.refl _ _).drew).trans hb2)
    have hs2 := hb2.size
    refine hK.out _ _ HC2.out (fun hHeld2 => ?_)
    clear hK K hHeld hb2
    try simp only [Act.put, List.setIfInBounds_toArray, List.set_cons_zero, List.set_cons_succ]
    have q1 : (9223372036854775807 < 1 + L.size) = False := by simp; omega
    have q2 : (9223372036854775807 < 1 + L.size + 1) = False := by simp; omega
    refine takeD (i := 3) (oi := { dst := some 7, op := _, type := _, pos := _, after := _, guard := _ }) (d := some 7) (v := ?vvbr7) rfl rfl (by kernel_rfl) (by kernel_rfl) (by kernel_rfl) ?ddbr7 (by rfl) ?yybr7 hHeld2 ?rrbr7
    case ddbr7 => first | exact fun _ _ _ h => h | exact fun _ _ _ h => HQ.out _ _ _ _ (by rfl) h
    case yybr7 => (intro wx hSw; obtain ⟨y0, y1⟩ := hSw; go_simp; try (with_reducible rfl))
    try simp (maxSteps := 1000000) only [Act.put, List.setIfInBounds_toArray, List.set_cons_zero, List.set_cons_succ]
    refine takeD (i := 4) (oi := { dst := some 8, op := _, type := _, pos := _, after := _, guard := _ }) (d := some 8) (v := ?vvbr8) rfl rfl (by kernel_rfl) (by kernel_rfl) (by kernel_rfl) ?ddbr8 (by rfl) ?yybr8 hHeld2 ?rrbr8
    case ddbr8 => first | exact fun _ _ _ h => h | exact fun _ _ _ h => HQ.out _ _ _ _ (by rfl) h
    case yybr8 => (intro wx hSw; obtain ⟨y0, y1⟩ := hSw; go_simp; try (with_reducible rfl))
    try simp (maxSteps := 1000000) only [Act.put, List.setIfInBounds_toArray, List.set_cons_zero, List.set_cons_succ]
    refine wpAnyH_ready (rs := [7]) (by kernel_rfl) (by simp) ?_
    refine AllReadyH.cons (o := { dst := some 11, op := _, type := _, pos := _, after := _, guard := _ }) rfl (fun K hK => ?_) AllReadyH.nil
    go_simp
    refine (HH.out hi0 w2 HB2.out).mono ?_
    rintro e w3 ⟨rfl, hb3⟩
    refine hK.out _ _ ⟨by rw [hb3.cell (lt_of_cell HC2.out.1)]; exact HC2.out.1, by rw [hb3.cell (lt_of_cell HC2.out.2)]; exact HC2.out.2⟩ (fun hHeld3 => ?_)
    clear hK K hHeld2
    try simp only [Act.put, List.setIfInBounds_toArray, List.set_cons_zero, List.set_cons_succ]
    have q3 : (9223372036854775807 < 1 + L.size + 1 + H.size) = False := by simp; omega
    have q4 : (9223372036854775807 < 1 + L.size + 1 + H.size + 1) = False := by simp; omega
    refine takeD (i := 8) (oi := { dst := some 12, op := _, type := _, pos := _, after := _, guard := _ }) (d := some 12) (v := ?vvcr12) rfl rfl (by kernel_rfl) (by kernel_rfl) (by kernel_rfl) ?ddcr12 (by rfl) ?yycr12 hHeld3 ?rrcr12
    case ddcr12 => first | exact fun _ _ _ h => h | exact fun _ _ _ h => HQ.out _ _ _ _ (by rfl) h
    case yycr12 => (intro wx hSw; obtain ⟨y0, y1⟩ := hSw; go_simp; try (with_reducible rfl))
    try simp (maxSteps := 1000000) only [Act.put, List.setIfInBounds_toArray, List.set_cons_zero, List.set_cons_succ]
    refine takeD (i := 9) (oi := { dst := some 13, op := _, type := _, pos := _, after := _, guard := _ }) (d := some 13) (v := ?vvcr13) rfl rfl (by kernel_rfl) (by kernel_rfl) (by kernel_rfl) ?ddcr13 (by rfl) ?yycr13 hHeld3 ?rrcr13
    case ddcr13 => first | exact fun _ _ _ h => h | exact fun _ _ _ h => HQ.out _ _ _ _ (by rfl) h
    case yycr13 => (intro wx hSw; obtain ⟨y0, y1⟩ := hSw; go_simp; try (with_reducible rfl))
    try simp (maxSteps := 1000000) only [Act.put, List.setIfInBounds_toArray, List.set_cons_zero, List.set_cons_succ]
    refine takeD (i := 10) (oi := { dst := some 3, op := _, type := _, pos := _, after := _, guard := _ }) (d := some 3) (v := ?vvcr3) rfl rfl (by kernel_rfl) (by kernel_rfl) (by kernel_rfl) ?ddcr3 (by rfl) ?yycr3 hHeld3 ?rrcr3
    case ddcr3 => first | exact fun _ _ _ h => h | exact fun _ _ _ h => HQ.out _ _ _ _ (by rfl) h
    case yycr3 => (intro wx hSw; obtain ⟨y0, y1⟩ := hSw; go_simp; try (with_reducible rfl))
    try simp (maxSteps := 1000000) only [Act.put, List.setIfInBounds_toArray, List.set_cons_zero, List.set_cons_succ]
    refine wpAnyH_done (by kernel_rfl) ?_ _
    go_wp2_with fail
    go_meet
    exact ⟨by rw [HE.out], HB12.out.trans (hb3.mono HB12.out.size)⟩
  case rest =>
  obtain ⟨rfl, hb⟩ := hcut
  obtain ⟨w5, rfl⟩ : ∃ x : World, x = wc := ⟨_, rfl⟩
  have HP5 := Lib.hid (HP1.out.below hb HP1.out.lt)
  have HB5 := Lib.hid (HB1.out.trans (hb.mono HB1.out.size))
  clear p2 p3 p4 hb
  have p2 : w5.cell? ⟨P, 2, none⟩ = some (.bool lz) := HP5.out.cell (i := 2) rfl
  cases lz
  · go_wp2_with fail
    go_ret
    exact ⟨by rw [HV.out]; rfl, HB5.out⟩
  · go_wp2_with fail
    go_ret
    exact ⟨by rw [HV.out]; rfl, HB5.out⟩
end Go.Proofs.YtghbicajcffjhaaDoor.PC
