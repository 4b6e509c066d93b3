/-
  BdBordW, BdSeqC.
-/
import Derived.Test.YtojbicdmcodgdaaDoorBdM03
import Derived.Test.YtojbicdmcodgdaaDoorBdM08
import Derived.BigRegion
import Derived.Deep.CutRange
import Derived.Deep.CutBlock
import Derived.Deep.AppendLies
namespace Go.Proofs.YtojbicdmcodgdaaDoor.BD
open Go.RowKit Go.Law Go.Law.Bd
set_option linter.unusedVariables false
set_option linter.unusedSimpArgs false
set_option maxRecDepth 100000
/-- what borders reads -/
structure Bq (p : SqP) (L M : Nat → Int) (O : Nat → Bool) (w : World) : Prop where
  st : SqW p w
  lev : OwnF w 3 p.gl p.n L
  out : OwnB w 4 p.go p.n O
  mt : OwnF w 3 p.gm p.n M
section
variable {p : SqP} {L M : Nat → Int} {O : Nat → Bool} {w0 w : World} {ta : Option Addr} {tc : Nat}
theorem Bq.drewN (h : Bq p L M O w) (q : Nat) : Bq p L M O (w.drewN q) := ⟨h.st.drewN q, h.lev.drewN q, h.out.drewN q, h.mt.drewN q⟩
set_option maxHeartbeats 8000000 in
theorem borders_any (h : Bq p L (matB p.K p.n p.n) O w) (ht : p.tv = .slice ta p.n tc) (hm : 0 < p.m) (hA : ∀ k, k < p.m → p.A k < p.n) (hmn : p.m ≤ p.n) (hn2 : p.n ≤ 200) (hmc : p.m ≤ p.cap) (hb : p.base = 0 ∨ p.base = 1) (hv : 0 ≤ p.lev ∧ p.lev ≤ 1000) (hL : ∀ j, 0 ≤ L j ∧ L j ≤ 1000)
    (hd : p.sz ≠ p.pz ∧ p.sz ≠ p.ga ∧ p.sz ≠ p.gw) :
    Calls Tryd.prog 35 #[.pointer (some ⟨p.sz, 0, none⟩)] w fun e w' => e = .returned (.tuple #[]) ∧ SqW { p with beg := befB O L p.base p.lev (p.A 0), en := aftB O L p.K p.base p.lev p.n (p.A (p.m - 1)) } w' ∧ Only p.sz w w' := by
  have s0 : w.cell? ⟨p.sz, 0, none⟩ = _ := h.st.sb.cell (i := 0) rfl
  have p3 : w.cell? ⟨p.pz, 3, none⟩ = _ := h.st.pb.cell (i := 3) rfl
  have H := Lib.hid h
  have HL := Lib.hid hL
  have HAA := Lib.hid hA
  have hmax : ∀ x y : Int, (if x < y then y else x) = max x y := fun x y => by omega
  have HTV := Lib.hid ht
  have HD := Lib.hid hd
  clear h hL ht hA hd
  go_enter Tryd.func35, Tryd.ntmps35
  go_wp2_with fail
  go_quiet (fail)
  obtain ⟨w1, hw1⟩ : ∃ w1, w1 = w.drewN nq := ⟨_, rfl⟩
  have HQ1 := Lib.hid (show Bq p L (matB p.K p.n p.n) O w1 by rw [hw1]; exact H.out.drewN nq)
  have HON1 := Lib.hid (show Only p.sz w w1 by rw [hw1]; exact Aside.drewN (Aside.refl _ _ _) nq)
  rw [← hw1]
  clear hw1 s0 p3 H
  have s1 : w1.cell? ⟨p.sz, 1, none⟩ = _ := HQ1.out.st.sb.cell (i := 1) rfl
  have a0 := HQ1.out.st.at_ 0 hm
  have hA0 := HAA.out 0 hm
  have hmi : (0 : Int) < (p.m : Int) := by omega
  have hw2 := IntWalk.i64_in ((p.A 0 : Int) - 1) (by omega)
  go_upto_block 0 with fail
  go_cut [2] from 28 to 52 (fun v wx => v = .int .i64 (ahL O L p.base (p.A 0)) ∧ wx = w1)
  case first =>
    go_wp2_with fail
    go_loopw [2, 4] (fun v iv wx => ∃ k : Nat, v = .int .i64 p.base ∧ iv = .int .i64 ((k : Int) - 1) ∧ k ≤ p.A 0 ∧ ahL O L p.base (p.A 0) = ahL O L p.base k ∧ wx = w1) (fun _ iv _ => (intOf iv + 1).toNat)
    case atStart => exact ⟨p.A 0, rfl, rfl, Nat.le_refl _, rfl, rfl⟩
    case round =>
      obtain ⟨k, rfl, rfl, hk, hs, hwr⟩ := hrel
      obtain rfl : w1 = wr := hwr.symm
      clear hwr s1 a0 hw2
      have HS := Lib.hid hs
      clear hs
      cases k with
      | zero =>
        have HZ := Lib.hid (show ahL O L p.base (p.A 0) = p.base from HS.out)
        go_wp2_with fail
        go_meet
        exact ⟨by rw [HZ.out], rfl⟩
      | succ k =>
        have e1 : ((k + 1 : Nat) : Int) - 1 = k := by omega
        have h0 : (0 : Int) ≤ k := by omega
        rw [e1]
        have hkn : (k : Int) < (p.n : Int) := by omega
        have hw2 := IntWalk.i64_in ((k : Int) - 1) (by omega)
        have s0 : w1.cell? ⟨p.sz, 0, none⟩ = _ := HQ1.out.st.sb.cell (i := 0) rfl
        have p4 : w1.cell? ⟨p.pz, 4, none⟩ = _ := HQ1.out.st.pb.cell (i := 4) rfl
        have p2 : w1.cell? ⟨p.pz, 2, none⟩ = _ := HQ1.out.st.pb.cell (i := 2) rfl
        have d1 := HQ1.out.out.cell (i := k) (by omega)
        have d2 := HQ1.out.lev.cell (i := k) (by omega)
        have HT := Lib.hid (show ahL O L p.base (k + 1) = if O k = true then ahL O L p.base k else L k from rfl)
        obtain ⟨o, ho⟩ : ∃ o, o = O k := ⟨_, rfl⟩
        rw [← ho] at d1 HT
        clear e1 ho
        cases o with
        | true =>
          have HZ := Lib.hid (HS.out.trans (HT.out.trans (if_pos rfl)))
          go_wp2_with fail
          go_roundw
          case rel => exact ⟨k, rfl, by go_num, by omega, HZ.out, trivial⟩
          case measure => simp [intOf]
        | false =>
          have HZ := Lib.hid (HS.out.trans (HT.out.trans (if_neg (by decide))))
          go_wp2_with fail
          go_meet
          exact ⟨by rw [HZ.out], rfl⟩
  case rest =>
  obtain ⟨rfl, hw⟩ := hcut
  obtain rfl : w1 = wc := hw.symm
  clear hw a0 hw2
  obtain ⟨B0, hB0⟩ : ∃ B, B = ahL O L p.base (p.A 0) := ⟨_, rfl⟩
  rw [← hB0]
  have hB0r : 0 ≤ B0 ∧ B0 ≤ 1000 := by
    rw [hB0]
    rcases ahL_mem (O := O) (L := L) (base := p.base) (p.A 0) with h | ⟨j, _, _, h⟩
    · rw [h]; omega
    · rw [h]; exact HL.out j
  have HB0 := Lib.hid hB0
  clear hB0
  have a1 := HQ1.out.st.at_ (p.m - 1) (by omega)
  have hA1 := HAA.out (p.m - 1) (by omega)
  obtain ⟨z, hz⟩ : ∃ z, z = p.A (p.m - 1) := ⟨_, rfl⟩
  rw [← hz] at a1 hA1
  have HZ := Lib.hid hz
  have e1 : (p.m : Int) - 1 = ((p.m - 1 : Nat) : Int) := by omega
  have hw3 := IntWalk.i64_in ((p.m - 1 : Nat) : Int) (by omega)
  have hmi2 : ((p.m - 1 : Nat) : Int) < (p.m : Int) := by omega
  have hmi3 : (0 : Int) ≤ ((p.m - 1 : Nat) : Int) := by omega
  clear hz
  go_wp2_with fail
  go_quiet (fail)
  obtain ⟨w2, hw2⟩ : ∃ w2, w2 = w1.drewN nq := ⟨_, rfl⟩
  have HQ2 := Lib.hid (show Bq p L (matB p.K p.n p.n) O w2 by rw [hw2]; exact HQ1.out.drewN nq)
  have HON2 := Lib.hid (show Only p.sz w w2 by rw [hw2]; exact Aside.drewN HON1.out nq)
  rw [← hw2]
  clear hw2 s1 a1 e1 hw3 hmi2 hmi3 HQ1 HON1
  have s0 : w2.cell? ⟨p.sz, 0, none⟩ = _ := HQ2.out.st.sb.cell (i := 0) rfl
  have s2 : w2.cell? ⟨p.sz, 2, none⟩ = _ := HQ2.out.st.sb.cell (i := 2) rfl
  have p5 : w2.cell? ⟨p.pz, 5, none⟩ = _ := HQ2.out.st.pb.cell (i := 5) rfl
  have d1 := HQ2.out.st.ow z hA1
  have d2 := HQ2.out.mt.cell (i := z) hA1
  have hzn : (z : Int) < (p.n : Int) := by omega
  have HMA := Lib.hid (mat_ask (K := p.K) hA1)
  obtain ⟨kz, hkz⟩ : ∃ k, k = p.K z := ⟨_, rfl⟩
  obtain ⟨mz, hmz⟩ : ∃ k, k = matB p.K p.n p.n z := ⟨_, rfl⟩
  rw [← hkz] at d1
  rw [← hmz] at d2
  have HKZ := Lib.hid hkz
  have HMZ := Lib.hid hmz
  obtain ⟨TB, hTB⟩ : ∃ TB, TB = decide (isoB kz = false ∨ 0 ≤ mz) := ⟨_, rfl⟩
  have HTB := Lib.hid hTB
  obtain ⟨B1, hB1⟩ : ∃ B1 : Int, B1 = if isoB (p.K z) = true ∧ p.n ≤ partner p.K p.n z then p.base else beL O L p.base p.n (z + 1) := ⟨_, rfl⟩
  have HB1 := Lib.hid (show B1 = if TB = true then beL O L p.base p.n (z + 1) else p.base by
    have h1 := HMA.out
    rw [← hkz, ← hmz] at h1
    rw [hB1, hTB, ← hkz]
    by_cases h2 : isoB kz = false ∨ 0 ≤ mz
    · rw [if_neg (h1.1 h2), decide_eq_true h2, if_pos rfl]
    · rw [if_pos (Classical.not_not.1 (fun h => h2 (h1.2 h))), decide_eq_false h2, if_neg (by decide)])
  have hB1r : 0 ≤ B1 ∧ B1 ≤ 1000 := by
    rw [hB1]
    split
    · omega
    · rcases beL_mem (O := O) (L := L) (base := p.base) _ (z + 1) rfl with h | ⟨j, _, _, _, h⟩
      · rw [h]; omega
      · rw [h]; exact HL.out j
  have HB1D := Lib.hid hB1
  clear hTB hkz hmz HMA hB1
  go_upto_region 7 with fail
  go_cut [86] from 65 to 86 (fun v wx => v = .bool TB ∧ wx = w2)
  case first =>
    by_cases hi : isoB kz = false
    · have HT := Lib.hid (show TB = true by rw [HTB.out]; exact decide_eq_true (.inl hi))
      go_wp2_with fail
      refine (isolate_is hi _).mono ?_
      rintro e9 w9 ⟨rfl, rfl⟩
      go_wp2_with fail
      go_meet
      exact ⟨by rw [HT.out], rfl⟩
    · have hi2 : isoB kz = true := by simpa using hi
      have HT := Lib.hid (show TB = decide (0 ≤ mz) by rw [HTB.out, Bool.eq_iff_iff]; simp [hi2])
      have HI := Lib.hid hi2
      clear hi hi2
      go_wp2_with fail
      refine (isolate_is HI.out _).mono ?_
      rintro e9 w9 ⟨rfl, rfl⟩
      go_wp2_with fail
      go_meet
      exact ⟨by rw [HT.out], rfl⟩
  case rest =>
  obtain ⟨rfl, hw⟩ := hcut
  obtain rfl : w2 = wc := hw.symm
  clear hw s2 p5 d1 d2
  have hw5 := IntWalk.i64_in ((z : Int) + 1) (by omega)
  go_upto_if 86 with fail
  go_cut [3] from 87 to 121 (fun v wx => v = .int .i64 B1 ∧ wx = w2)
  case first =>
    cases TB with
    | false =>
      have HBB := Lib.hid (HB1.out.trans (if_neg (by decide)))
      go_wp2_with fail
      go_meet
      exact ⟨by rw [HBB.out], rfl⟩
    | true =>
      have HBB := Lib.hid (HB1.out.trans (if_pos rfl))
      go_wp2_with fail
      go_loopw [3, 6] (fun v iv wx => ∃ k : Nat, v = .int .i64 p.base ∧ iv = .int .i64 k ∧ k ≤ p.n ∧ B1 = beL O L p.base p.n k ∧ wx = w2) (fun _ iv _ => p.n - (intOf iv).toNat)
      case atStart => exact ⟨z + 1, rfl, by go_num, by omega, HBB.out, rfl⟩
      case round =>
        obtain ⟨k, rfl, rfl, hk, hs, hwr⟩ := hrel
        obtain rfl : w2 = wr := hwr.symm
        clear hwr s0 hw5
        have HS := Lib.hid hs
        clear hs
        have s0 : w2.cell? ⟨p.sz, 0, none⟩ = _ := HQ2.out.st.sb.cell (i := 0) rfl
        have p0 : w2.cell? ⟨p.pz, 0, none⟩ = some p.tv := HQ2.out.st.pb.cell (i := 0) rfl
        rw [HTV.out] at p0
        by_cases hkn : k < p.n
        · have hkn2 : (k : Int) < (p.n : Int) := by omega
          have p4 : w2.cell? ⟨p.pz, 4, none⟩ = _ := HQ2.out.st.pb.cell (i := 4) rfl
          have p2 : w2.cell? ⟨p.pz, 2, none⟩ = _ := HQ2.out.st.pb.cell (i := 2) rfl
          have d1 := HQ2.out.out.cell hkn
          have d2 := HQ2.out.lev.cell hkn
          have HT := Lib.hid (beL_step (O := O) (L := L) (base := p.base) hkn)
          obtain ⟨o, ho⟩ : ∃ o, o = O k := ⟨_, rfl⟩
          rw [← ho] at d1 HT
          clear ho
          cases o with
          | true =>
            have HZ2 := Lib.hid (HS.out.trans (HT.out.trans (if_pos rfl)))
            go_wp2_with fail
            go_roundw
            case rel => exact ⟨k + 1, rfl, by go_num, by omega, HZ2.out, trivial⟩
            case measure => simp [intOf]; omega
          | false =>
            have HZ2 := Lib.hid (HS.out.trans (HT.out.trans (if_neg (by decide))))
            go_wp2_with fail
            go_meet
            exact ⟨by rw [HZ2.out], rfl⟩
        · have HZ2 := Lib.hid (HS.out.trans (beL_end (by omega)))
          go_wp2_with fail
          go_meet
          exact ⟨by rw [HZ2.out], rfl⟩
  case rest =>
  obtain ⟨rfl, hw⟩ := hcut
  obtain rfl : w2 = wc := hw.symm
  clear hw s0 hw5 hzn
  have s3 : w2.cell? ⟨p.sz, 3, none⟩ = some (.int .i64 p.lev) := HQ2.out.st.sb.cell (i := 3) rfl
  have s4 : w2.cell? ⟨p.sz, 4, none⟩ = some (.int .i64 p.beg) := HQ2.out.st.sb.cell (i := 4) rfl
  have s5 : w2.cell? ⟨p.sz, 5, none⟩ = some (.int .i64 p.en) := HQ2.out.st.sb.cell (i := 5) rfl
  have z4 := HQ2.out.st.sb.frozen 4
  have z5 := HQ2.out.st.sb.frozen 5
  have HS0 := Lib.hid (fun x => side_any (max B0 p.lev) (by omega) x)
  have HS1 := Lib.hid (fun x => side_any (max B1 p.lev) (by omega) x)
  obtain ⟨X0, hX0⟩ : ∃ X, X = sideB (max B0 p.lev) := ⟨_, rfl⟩
  obtain ⟨X1, hX1⟩ : ∃ X, X = sideB (max B1 p.lev) := ⟨_, rfl⟩
  rw [← hX0] at HS0
  rw [← hX1] at HS1
  have HX0 := Lib.hid hX0
  have HX1 := Lib.hid hX1
  clear hX0 hX1
  go_wp2_with fail
  refine wp_region_until 18 (fun w' => w'.cell? ⟨p.sz, 3, none⟩ = some (.int .i64 p.lev)) (by kernel_rfl) (by exact (by rw [World.cell?_drew]; exact s3)) ?_
  intro hHeld
  refine moveU (i := 0) (oi := { dst := some 122, op := _, type := _, pos := _, after := _, guard := _ }) (d := some 122) (v := ?vva122) rfl rfl (by kernel_rfl) (by kernel_rfl) (by kernel_rfl) (by rfl) ?dda122 (by rfl) ?yya122 hHeld ?rra122
  case dda122 => first | exact fun _ _ _ h => h | exact fun _ _ _ h => HQ.out _ _ _ _ (by rfl) h
  case yya122 => (intro wx; go_simp; try (with_reducible rfl))
  clear hHeld; intro hHeld
  try simp only [Act.put, List.setIfInBounds_toArray, List.set_cons_zero, List.set_cons_succ]
  refine moveU (i := 1) (oi := { dst := some 123, op := _, type := _, pos := _, after := _, guard := _ }) (d := some 123) (v := ?vva123) rfl rfl (by kernel_rfl) (by kernel_rfl) (by kernel_rfl) (by rfl) ?dda123 (by rfl) ?yya123 hHeld ?rra123
  case dda123 => first | exact fun _ _ _ h => h | exact fun _ _ _ h => HQ.out _ _ _ _ (by rfl) h
  case yya123 => (intro wx; go_simp; try (with_reducible rfl))
  clear hHeld; intro hHeld
  try simp only [Act.put, List.setIfInBounds_toArray, List.set_cons_zero, List.set_cons_succ]
  refine moveU (i := 2) (oi := { dst := some 124, op := _, type := _, pos := _, after := _, guard := _ }) (d := some 124) (v := ?vva124) rfl rfl (by kernel_rfl) (by kernel_rfl) (by kernel_rfl) (by rfl) ?dda124 (by rfl) ?yya124 hHeld ?rra124
  case dda124 => first | exact fun _ _ _ h => h | exact fun _ _ _ h => HQ.out _ _ _ _ (by rfl) h
  case yya124 => (intro wx; go_simp; try (with_reducible rfl))
  clear hHeld; intro hHeld
  try simp only [Act.put, List.setIfInBounds_toArray, List.set_cons_zero, List.set_cons_succ]
  refine moveU (i := 3) (oi := { dst := some 125, op := _, type := _, pos := _, after := _, guard := _ }) (d := some 125) (v := ?vva125) rfl rfl (by kernel_rfl) (by kernel_rfl) (by kernel_rfl) (by rfl) ?dda125 (by rfl) ?yya125 hHeld ?rra125
  case dda125 => first | exact fun _ _ _ h => h | exact fun _ _ _ h => HQ.out _ _ _ _ (by rfl) h
  case yya125 => (intro wx; go_simp; try (with_reducible rfl))
  clear hHeld; intro hHeld
  try simp only [Act.put, List.setIfInBounds_toArray, List.set_cons_zero, List.set_cons_succ]
  refine moveU (i := 4) (oi := { dst := some 126, op := _, type := _, pos := _, after := _, guard := _ }) (d := some 126) (v := ?vva126) rfl rfl (by kernel_rfl) (by kernel_rfl) (by kernel_rfl) (by rfl) ?dda126 (by rfl) ?yya126 hHeld ?rra126
  case dda126 => first | exact fun _ _ _ h => h | exact fun _ _ _ h => HQ.out _ _ _ _ (by rfl) h
  case yya126 => (intro wx; go_simp; try (with_reducible rfl))
  clear hHeld; intro hHeld
  try simp only [Act.put, List.setIfInBounds_toArray, List.set_cons_zero, List.set_cons_succ]
  refine moveU (i := 5) (oi := { dst := some 127, op := _, type := _, pos := _, after := _, guard := _ }) (d := some 127) (v := ?vva127) rfl rfl (by kernel_rfl) (by kernel_rfl) (by kernel_rfl) (by rfl) ?dda127 (by rfl) ?yya127 hHeld ?rra127
  case dda127 => first | exact fun _ _ _ h => h | exact fun _ _ _ h => HQ.out _ _ _ _ (by rfl) h
  case yya127 => (intro wx; go_simp; try (with_reducible rfl))
  clear hHeld; intro hHeld
  try simp only [Act.put, List.setIfInBounds_toArray, List.set_cons_zero, List.set_cons_succ]
  refine takeU [18] (i := 6) (oi := { dst := some 128, op := _, type := _, pos := _, after := _, guard := _ }) (d := some 128) (v := ?vva128) rfl rfl (by kernel_rfl) (by kernel_rfl) (by kernel_rfl) (by kernel_rfl) ?dda128 (by rfl) ?yya128 hHeld ?rra128
  case dda128 => first | exact fun _ _ _ h => h | exact fun _ _ _ h => HQ.out _ _ _ _ (by rfl) h
  case yya128 => (intro wx hSw; obtain y0 := hSw; go_simp; try (with_reducible rfl))
  clear hHeld; intro hHeld
  try simp only [Act.put, List.setIfInBounds_toArray, List.set_cons_zero, List.set_cons_succ]
  refine moveU (i := 7) (oi := { dst := some 129, op := _, type := _, pos := _, after := _, guard := _ }) (d := some 129) (v := ?vva129) rfl rfl (by kernel_rfl) (by kernel_rfl) (by kernel_rfl) (by rfl) ?dda129 (by rfl) ?yya129 hHeld ?rra129
  case dda129 => first | exact fun _ _ _ h => h | exact fun _ _ _ h => HQ.out _ _ _ _ (by rfl) h
  case yya129 => (intro wx; go_simp; try (with_reducible rfl))
  clear hHeld; intro hHeld
  try simp only [Act.put, List.setIfInBounds_toArray, List.set_cons_zero, List.set_cons_succ]
  refine moveU (i := 9) (oi := { dst := some 131, op := _, type := _, pos := _, after := _, guard := _ }) (d := some 131) (v := ?vva131) rfl rfl (by kernel_rfl) (by kernel_rfl) (by kernel_rfl) (by rfl) ?dda131 (by rfl) ?yya131 hHeld ?rra131
  case dda131 => first | exact fun _ _ _ h => h | exact fun _ _ _ h => HQ.out _ _ _ _ (by rfl) h
  case yya131 => (intro wx; go_simp; try (with_reducible rfl))
  clear hHeld; intro hHeld
  try simp only [Act.put, List.setIfInBounds_toArray, List.set_cons_zero, List.set_cons_succ]
  refine moveU (i := 10) (oi := { dst := some 132, op := _, type := _, pos := _, after := _, guard := _ }) (d := some 132) (v := ?vva132) rfl rfl (by kernel_rfl) (by kernel_rfl) (by kernel_rfl) (by rfl) ?dda132 (by rfl) ?yya132 hHeld ?rra132
  case dda132 => first | exact fun _ _ _ h => h | exact fun _ _ _ h => HQ.out _ _ _ _ (by rfl) h
  case yya132 => (intro wx; go_simp; try (with_reducible rfl))
  clear hHeld; intro hHeld
  try simp only [Act.put, List.setIfInBounds_toArray, List.set_cons_zero, List.set_cons_succ]
  refine moveU (i := 11) (oi := { dst := some 133, op := _, type := _, pos := _, after := _, guard := _ }) (d := some 133) (v := ?vva133) rfl rfl (by kernel_rfl) (by kernel_rfl) (by kernel_rfl) (by rfl) ?dda133 (by rfl) ?yya133 hHeld ?rra133
  case dda133 => first | exact fun _ _ _ h => h | exact fun _ _ _ h => HQ.out _ _ _ _ (by rfl) h
  case yya133 => (intro wx; go_simp; try (with_reducible rfl))
  clear hHeld; intro hHeld
  try simp only [Act.put, List.setIfInBounds_toArray, List.set_cons_zero, List.set_cons_succ]
  refine moveU (i := 12) (oi := { dst := some 134, op := _, type := _, pos := _, after := _, guard := _ }) (d := some 134) (v := ?vva134) rfl rfl (by kernel_rfl) (by kernel_rfl) (by kernel_rfl) (by rfl) ?dda134 (by rfl) ?yya134 hHeld ?rra134
  case dda134 => first | exact fun _ _ _ h => h | exact fun _ _ _ h => HQ.out _ _ _ _ (by rfl) h
  case yya134 => (intro wx; go_simp; try (with_reducible rfl))
  clear hHeld; intro hHeld
  try simp only [Act.put, List.setIfInBounds_toArray, List.set_cons_zero, List.set_cons_succ]
  refine takeU [18] (i := 13) (oi := { dst := some 135, op := _, type := _, pos := _, after := _, guard := _ }) (d := some 135) (v := ?vva135) rfl rfl (by kernel_rfl) (by kernel_rfl) (by kernel_rfl) (by kernel_rfl) ?dda135 (by rfl) ?yya135 hHeld ?rra135
  case dda135 => first | exact fun _ _ _ h => h | exact fun _ _ _ h => HQ.out _ _ _ _ (by rfl) h
  case yya135 => (intro wx hSw; obtain y0 := hSw; go_simp; try (with_reducible rfl))
  clear hHeld; intro hHeld
  try simp only [Act.put, List.setIfInBounds_toArray, List.set_cons_zero, List.set_cons_succ]
  refine moveU (i := 14) (oi := { dst := some 136, op := _, type := _, pos := _, after := _, guard := _ }) (d := some 136) (v := ?vva136) rfl rfl (by kernel_rfl) (by kernel_rfl) (by kernel_rfl) (by rfl) ?dda136 (by rfl) ?yya136 hHeld ?rra136
  case dda136 => first | exact fun _ _ _ h => h | exact fun _ _ _ h => HQ.out _ _ _ _ (by rfl) h
  case yya136 => (intro wx; go_simp; try (with_reducible rfl))
  clear hHeld; intro hHeld
  try simp only [Act.put, List.setIfInBounds_toArray, List.set_cons_zero, List.set_cons_succ]
  refine wpAnyU_ready (rs := [8]) (by kernel_rfl) (by simp) ?_
  refine AllReadyU.cons (o := { dst := some 130, op := _, type := _, pos := _, after := _, guard := _ }) rfl (fun K hK => ?_) AllReadyU.nil
  go_simp
  refine (HS0.out _).mono ?_
  rintro e9 w9 ⟨rfl, rfl⟩
  refine hK.out _ _ (fun _ => by show World.cell? _ _ = _; rw [World.cell?_drew]; exact s3) (fun hHeld2 => ?_)
  clear hK K hHeld
  try simp only [Act.put, List.setIfInBounds_toArray, List.set_cons_zero, List.set_cons_succ]
  refine wpAnyU_ready (rs := [15]) (by kernel_rfl) (by simp) ?_
  refine AllReadyU.cons (o := { dst := some 137, op := _, type := _, pos := _, after := _, guard := _ }) rfl (fun K hK => ?_) AllReadyU.nil
  go_simp
  refine (HS1.out _).mono ?_
  rintro e9 w9 ⟨rfl, rfl⟩
  refine hK.out _ _ (fun _ => by show World.cell? _ _ = _; rw [World.cell?_drew]; exact s3) (fun hHeld3 => ?_)
  clear hK K hHeld2
  try simp only [Act.put, List.setIfInBounds_toArray, List.set_cons_zero, List.set_cons_succ]
  refine moveU (i := 16) (oi := { dst := some 138, op := _, type := _, pos := _, after := _, guard := _ }) (d := some 138) (v := ?vvb138) rfl rfl (by kernel_rfl) (by kernel_rfl) (by kernel_rfl) (by rfl) ?ddb138 (by rfl) ?yyb138 hHeld3 ?rrb138
  case ddb138 => first | exact fun _ _ _ h => h | exact fun _ _ _ h => HQ.out _ _ _ _ (by rfl) h
  case yyb138 => (intro wx; go_simp; try (with_reducible rfl))
  clear hHeld3; intro hHeld3
  try simp only [Act.put, List.setIfInBounds_toArray, List.set_cons_zero, List.set_cons_succ]
  refine moveU (i := 17) (oi := { dst := some 139, op := _, type := _, pos := _, after := _, guard := _ }) (d := some 139) (v := ?vvb139) rfl rfl (by kernel_rfl) (by kernel_rfl) (by kernel_rfl) (by rfl) ?ddb139 (by rfl) ?yyb139 hHeld3 ?rrb139
  case ddb139 => first | exact fun _ _ _ h => h | exact fun _ _ _ h => HQ.out _ _ _ _ (by rfl) h
  case yyb139 => (intro wx; go_simp; try (with_reducible rfl))
  clear hHeld3; intro hHeld3
  try simp only [Act.put, List.setIfInBounds_toArray, List.set_cons_zero, List.set_cons_succ]
  obtain ⟨w3, hw3⟩ : ∃ w3, w3 = w2.drew := ⟨_, rfl⟩
  have HQ3 := Lib.hid (show SqW p w3 by rw [hw3]; exact HQ2.out.st.drewN 1)
  have HON3 := Lib.hid (show Only p.sz w w3 by rw [hw3]; exact HON2.out.drew)
  rw [← hw3] at hHeld3 ⊢
  have z4 := HQ3.out.sb.frozen 4
  have z5 := HQ3.out.sb.frozen 5
  have s4 : w3.cell? ⟨p.sz, 4, none⟩ = some (.int .i64 p.beg) := HQ3.out.sb.cell (i := 4) rfl
  have s5 : w3.cell? ⟨p.sz, 5, none⟩ = some (.int .i64 p.en) := HQ3.out.sb.cell (i := 5) rfl
  clear hw3 HQ2 HON2 s3
  refine wpAnyU_ready (rs := [18]) (by kernel_rfl) (by simp) ?_
  refine AllReadyU.cons (o := { dst := none, op := _, type := _, pos := _, after := _, guard := _ }) rfl (fun K hK => ?_) AllReadyU.nil
  go_simp
  refine hK.out _ _ (fun h => absurd h (by decide)) (fun hHeld4 => ?_)
  clear hK K hHeld3
  try simp only [Act.put, List.setIfInBounds_toArray, List.set_cons_zero, List.set_cons_succ]
  refine moveU (i := 19) (oi := { dst := some 140, op := _, type := _, pos := _, after := _, guard := _ }) (d := some 140) (v := ?vvc140) rfl rfl (by kernel_rfl) (by kernel_rfl) (by kernel_rfl) (by rfl) ?ddc140 (by rfl) ?yyc140 hHeld4 ?rrc140
  case ddc140 => first | exact fun _ _ _ h => h | exact fun _ _ _ h => HQ.out _ _ _ _ (by rfl) h
  case yyc140 => (intro wx; go_simp; try (with_reducible rfl))
  clear hHeld4; intro hHeld4
  try simp only [Act.put, List.setIfInBounds_toArray, List.set_cons_zero, List.set_cons_succ]
  refine moveU (i := 20) (oi := { dst := some 141, op := _, type := _, pos := _, after := _, guard := _ }) (d := some 141) (v := ?vvc141) rfl rfl (by kernel_rfl) (by kernel_rfl) (by kernel_rfl) (by rfl) ?ddc141 (by rfl) ?yyc141 hHeld4 ?rrc141
  case ddc141 => first | exact fun _ _ _ h => h | exact fun _ _ _ h => HQ.out _ _ _ _ (by rfl) h
  case yyc141 => (intro wx; go_simp; try (with_reducible rfl))
  clear hHeld4; intro hHeld4
  try simp only [Act.put, List.setIfInBounds_toArray, List.set_cons_zero, List.set_cons_succ]
  refine wpAnyU_ready (rs := [21]) (by kernel_rfl) (by simp) ?_
  refine AllReadyU.cons (o := { dst := none, op := _, type := _, pos := _, after := _, guard := _ }) rfl (fun K hK => ?_) AllReadyU.nil
  go_simp
  refine hK.out _ _ (fun h => absurd h (by decide)) (fun hHeld5 => ?_)
  clear hK K hHeld4 hHeld5
  try simp only [Act.put, List.setIfInBounds_toArray, List.set_cons_zero, List.set_cons_succ]
  refine wpAnyU_done (by kernel_rfl) ?_ _
  first | go_end0 | (simp only [Exit.inBlock, Exit.then]; refine bodyPost_ret (results_none rfl _ _ _) rfl ?_) | refine bodyPost_ret (results_none rfl _ _ _) rfl ?_
  have hD := HD.out
  refine ⟨rfl, ?_, (HON3.out.set 4 _).set 5 _⟩
  have e1 : X0 = befB O L p.base p.lev (p.A 0) := by rw [HX0.out, HB0.out]; rfl
  have e2 : X1 = aftB O L p.K p.base p.lev p.n (p.A (p.m - 1)) := by rw [HX1.out, HB1D.out, HZ.out]; rfl
  rw [← e1, ← e2]
  refine ⟨(HQ3.out.sb.set 4 _).set 5 _, (HQ3.out.pb.other (fun e => hD.1 e.symm) _).other (fun e => hD.1 e.symm) _, fun k hk => ?_, fun i hi => ?_⟩
  · show World.cell? _ _ = _
    rw [World.cell?_setCell_other _ _ _ _ (fun e => hD.2.1 (congrArg Addr.block e)), World.cell?_setCell_other _ _ _ _ (fun e => hD.2.1 (congrArg Addr.block e))]
    exact HQ3.out.at_ k hk
  · rw [World.cell?_setCell_other _ _ _ _ (fun e => hD.2.2 (congrArg Addr.block e)), World.cell?_setCell_other _ _ _ _ (fun e => hD.2.2 (congrArg Addr.block e))]
    exact HQ3.out.ow i hi
end
end Go.Proofs.YtojbicdmcodgdaaDoor.BD
namespace Go.Law.Bd
open Go Go.Law Go.RowKit
set_option linter.unusedVariables false
theorem plF_app {s r : List Nat} {xs : List Value} (hl : xs.length = s.length * 1) (hx : ∀ t, t < s.length * 1 → xs[t]? = some (.int .i64 (plF s t))) :
    ∀ i, i < (s ++ r).length * 1 → (xs ++ r.map fun x => Value.int .i64 (x : Nat))[i]? = some (.int .i64 (plF (s ++ r) i)) := by
  intro i hi
  rw [Nat.mul_one] at hi hl
  by_cases h : i < s.length
  · rw [List.getElem?_append_left (by omega), hx i (by omega)]
    unfold plF
    rw [List.getD_eq_getElem?_getD, List.getD_eq_getElem?_getD, List.getElem?_append_left h]
  · rw [List.getElem?_append_right (by omega), List.getElem?_map, hl]
    rw [List.length_append] at hi
    rw [List.getElem?_eq_getElem (show i - s.length < r.length by omega)]
    unfold plF
    rw [List.getD_eq_getElem?_getD, List.getElem?_append_right (by omega), List.getElem?_eq_getElem (show i - s.length < r.length by omega)]
    rfl
theorem sorted_len {n : Nat} : ∀ (l : List Nat) (a : Nat), (∀ x, x ∈ l → a ≤ x ∧ x < n) → l.Pairwise (· < ·) → l.length ≤ n - a
  | [], _, _, _ => by simp
  | y :: t, a, h, hp => by
    have hy := h y (by simp)
    rw [List.pairwise_cons] at hp
    have := sorted_len t (y + 1) (fun x hx => ⟨hp.1 x hx, (h x (by simp [hx])).2⟩) hp.2
    simp only [List.length_cons]
    omega
theorem atB_len {O : Nat → Bool} {n : Nat} {R : List (List Nat)} (ok : RnsOk O n R) {nx : Nat → Nat} (hg : ∀ x, x < nx x) {h : Nat} (hh : h < R.length) : (atB R (chn nx R.length h)).length ≤ n := by
  have hl := fun p hp => (chn_lt hg _ h rfl hh p hp).2
  have := sorted_len (n := n) (atB R (chn nx R.length h)) 0 (fun x hx => ⟨Nat.zero_le _, (atB_place ok hl hx).1⟩) (atB_sorted ok (chn_sorted hg _ h rfl hh) hl)
  omega
theorem atB_snoc (R : List (List Nat)) (c : List Nat) (k : Nat) : atB R (c ++ [k]) = atB R c ++ rnG R k := by rw [atB_app]; unfold atB; simp
end Go.Law.Bd
namespace Go.Proofs.YtojbicdmcodgdaaDoor.BD
open Go.RowKit Go.Law Go.Law.Bd
set_option linter.unusedVariables false
set_option linter.unusedSimpArgs false
set_option maxRecDepth 100000
set_option maxHeartbeats 8000000 in
theorem sqChain {p : PaP} {C L K : Nat → Int} {R : List (List Nat)} {I : Nat → Value} {O : Nat → Bool} {wA w0 : World} {base gr gm rc sz b1 j : Nat} {ra : Option Addr} {ow : Value} {lev : Int} (HNS : Hid (NsI wA base (.slice ra R.length rc) R I)) (HOK : Hid (RnsOk O p.n R)) (HBA : Hid (Below wA.heap.size wA w0))
    (HPA : Hid (Pa p C L O wA)) (HMV : Hid (p.mv = .slice (some ⟨gm, 0, none⟩) p.n p.n)) (HMT : Hid (OwnF wA 3 gm p.n (matB K p.n p.n))) (HRR : Hid (OwnF w0 3 gr p.n (rnF R R.length)))
    (HSB : Hid (Blk w0 sz #[.pointer (some ⟨p.pz, 0, none⟩), .slice none 0 0, ow, .int .i64 lev, .int .i64 0, .int .i64 0] 65)) (hgr : gr < b1) (hb1 : wA.heap.size ≤ b1) (hsz : b1 ≤ sz) (hb1w : b1 ≤ w0.heap.size) (hn2 : p.n ≤ 200) (hRl : R.length ≤ p.n) (hjR : j < R.length)
    {s1 s2 s3 s4 s6 s7 s9 s10 s11 s12 s13 s14 s15 s16 s19 s20 s21 s22 s23 s24 s25 s26 s27 s28 s29 s30 s31 s32 s33 s34 s35 s36 s37 s38 s39 s40 s41 s42 s43 s44 s45 s46 s47 s48 s49 s50 s51 s52 s53 s54 s55 s56 s57 s58 s59 s60 s61 s62 s63 s64 s65 s66 s67 s68 s69 s70 s71 s72 s73 s74 s75 s76 s77 s78 s79 s80 s81 s82 s83 s84 s85 s86 s87 s88 s89 s90 s91 s92 s93 s94 s95 s96 s97 s98 s99 s100 s101 s102 s103 s104 s105 s106 s107 s108 s109 s110 s111 s112 s113 s114 s115 s116 s117 s118 s119 s120 s121 s122 s123 s124 s125 s126 s127 s128 s129 s130 s131 s132 s133 s134 s135 s136 s137 s138 s139 s140 s141 s142 s143 s144 s145 s146 s147 s148 s149 s150 s151 s152 s153 s154 s155 s156 s157 s158 s159 s160 s161 s162 s163 s164 s165 s166 s167 s168 s169 s170 s171 s172 s173 s174 s175 s176 s177 s178 s179 s180 s181 s182 s183 s184 s185 s186 s187 s188 s189 s190 s191 s192 s193 s194 s195 s196 s197 s198 s199 s200 s201 s202 s203 s204 s205 s206 s207 s208 s209 s210 s211 s212 s213 s214 s215 s216 : Value} {J K' : Act → World → Prop} {Q : Exit → Act → World → Prop}
    (HQ : Hid (∀ (c : List PanicEntry) (a a' : Act) (w : World), a.defers = a'.defers → Q (.panic c) a w → Q (.panic c) a' w))
    (hJ : ∀ (a' : Act) (w' : World), (∃ u18 u19 u165 u166 u167 u168 u169 u170 u171 u172 u173 u174 u175 u176 u177 u178 u179 u180 u181 u182 u183 u184 u185 u186 u187 u188 u189 u190 u191 u192 u193 u194 u195 u196 u197 u198 u199 u200 u201 u202 u203 u204 u205 u206 u207 u208 : Value, (∃ av, Blk w' sz #[.pointer (some ⟨p.pz, 0, none⟩), av, ow, .int .i64 lev, .int .i64 0, .int .i64 0] 65 ∧ RowI w' b1 3 1 av (atB R (chn (rnX K p.n R) R.length j)).length (plF (atB R (chn (rnX K p.n R) R.length j))) ∧ Below b1 w0 w') ∧ a' = ⟨#[.pointer (some ⟨p.pz, 0, none⟩), s1, s2, s3, s4, .slice ra R.length rc, s6, s7, .slice (some ⟨gr, 0, none⟩) p.n p.n, s9, s10, s11, s12, s13, s14, s15, s16, .pointer (some ⟨sz, 0, none⟩), u18, u19, s20, s21, s22, s23, s24, s25, s26, s27, s28, s29, s30, s31, s32, s33, s34, s35, s36, s37, s38, s39, s40, s41, s42, s43, s44, s45, s46, s47, s48, s49, s50, s51, s52, s53, s54, s55, s56, s57, s58, s59, s60, s61, s62, s63, s64, s65, s66, s67, s68, s69, s70, s71, s72, s73, s74, s75, s76, s77, s78, s79, s80, s81, s82, s83, s84, s85, s86, s87, s88, s89, s90, s91, s92, s93, s94, s95, s96, s97, s98, s99, s100, s101, s102, s103, s104, s105, s106, s107, s108, s109, s110, s111, s112, s113, s114, s115, s116, s117, s118, s119, s120, s121, s122, s123, s124, s125, s126, s127, s128, s129, s130, s131, s132, s133, s134, s135, s136, s137, s138, s139, s140, s141, s142, s143, s144, s145, s146, s147, s148, s149, s150, s151, s152, s153, s154, s155, s156, s157, s158, s159, s160, s161, s162, s163, s164, u165, u166, u167, u168, u169, u170, u171, u172, u173, u174, u175, u176, u177, u178, u179, u180, u181, u182, u183, u184, u185, u186, u187, u188, u189, u190, u191, u192, u193, u194, u195, u196, u197, u198, u199, u200, u201, u202, u203, u204, u205, u206, u207, u208, s209, s210, s211, s212, s213, s214, s215, s216], []⟩) → J a' w')
    (hK : ∀ (a' : Act) (w' : World), Met J a' w' → K' a' w') :
    Code.wp Tryd.prog (theBlk Tryd.f15 8) (Exit.then K' Q) ⟨#[.pointer (some ⟨p.pz, 0, none⟩), s1, s2, s3, s4, .slice ra R.length rc, s6, s7, .slice (some ⟨gr, 0, none⟩) p.n p.n, s9, s10, s11, s12, s13, s14, s15, s16, .pointer (some ⟨sz, 0, none⟩), .int .i64 j, s19, s20, s21, s22, s23, s24, s25, s26, s27, s28, s29, s30, s31, s32, s33, s34, s35, s36, s37, s38, s39, s40, s41, s42, s43, s44, s45, s46, s47, s48, s49, s50, s51, s52, s53, s54, s55, s56, s57, s58, s59, s60, s61, s62, s63, s64, s65, s66, s67, s68, s69, s70, s71, s72, s73, s74, s75, s76, s77, s78, s79, s80, s81, s82, s83, s84, s85, s86, s87, s88, s89, s90, s91, s92, s93, s94, s95, s96, s97, s98, s99, s100, s101, s102, s103, s104, s105, s106, s107, s108, s109, s110, s111, s112, s113, s114, s115, s116, s117, s118, s119, s120, s121, s122, s123, s124, s125, s126, s127, s128, s129, s130, s131, s132, s133, s134, s135, s136, s137, s138, s139, s140, s141, s142, s143, s144, s145, s146, s147, s148, s149, s150, s151, s152, s153, s154, s155, s156, s157, s158, s159, s160, s161, s162, s163, s164, s165, s166, s167, s168, s169, s170, s171, s172, s173, s174, s175, s176, s177, s178, s179, s180, s181, s182, s183, s184, s185, s186, s187, s188, s189, s190, s191, s192, s193, s194, s195, s196, s197, s198, s199, s200, s201, s202, s203, s204, s205, s206, s207, s208, s209, s210, s211, s212, s213, s214, s215, s216], []⟩ w0 := by
  have hg := rnX_lt (K := K) HOK.out (Nat.le_refl _)
  have HG := Lib.hid hg
  obtain ⟨CH, hCH⟩ : ∃ CH, CH = chn (rnX K p.n R) R.length j := ⟨_, rfl⟩
  rw [← hCH] at hJ
  have HCH := Lib.hid hCH
  have hAL : (atB R CH).length ≤ p.n := by rw [hCH]; exact atB_len HOK.out hg hjR
  clear hg hCH
  conv => arg 2; whnf
  go_wp2_with fail
  go_loopw [18] (fun kv wx => ∃ (k : Nat) (pre : List Nat) (av : Value), kv = .int .i64 k ∧ k < R.length ∧ CH = pre ++ chn (rnX K p.n R) R.length k ∧ Blk wx sz #[.pointer (some ⟨p.pz, 0, none⟩), av, ow, .int .i64 lev, .int .i64 0, .int .i64 0] 65 ∧ RowI wx b1 3 1 av (atB R pre).length (plF (atB R pre)) ∧ Below b1 w0 wx) (fun kv _ => R.length - (intOf kv).toNat)
  case atStart => exact ⟨j, [], .slice none 0 0, rfl, hjR, by rw [HCH.out]; rfl, HSB.out, RowI.nil _ _ _ _ _, Below.refl _ _⟩
  case round =>
    clear HSB
    obtain ⟨k, pre, av, rfl, hkR, hch, hsb, hrow, hbel⟩ := hrel
    have HSB := Lib.hid hsb
    have HROW := Lib.hid hrow
    have HB := Lib.hid hbel
    have HC := Lib.hid hch
    obtain ⟨aa, ac, hav, hac1, hac2⟩ := hrow.slice
    subst hav
    have hbw : Below wA.heap.size wA wr := HBA.out.trans ((hbel.mono hb1))
    obtain ⟨g, gk, ck, rfl, m1, hck1, hck2, hgk, hl0, hm2⟩ := HNS.out.run hbw HOK.out hkR
    have s1 : wr.cell? ⟨sz, 1, none⟩ = some (.slice aa (atB R pre).length ac) := hsb.cell (i := 1) rfl
    have z1 := hsb.frozen 1
    have hszl := hsb.lt
    have hstep := chn_step HG.out hkR
    rw [hstep] at hch
    have HC2 := Lib.hid hch
    have hrl := rn_len HOK.out hkR
    have hki : (k : Int) < (R.length : Int) := by omega
    obtain ⟨len, hlen⟩ : ∃ l, l = (rnG R k).length := ⟨_, rfl⟩
    rw [← hlen] at m1 hck1 hl0 hrl
    have HLEN := Lib.hid hlen
    have HM2 := Lib.hid hm2
    obtain ⟨PL, hPL⟩ : ∃ P, P = (atB R pre).length := ⟨_, rfl⟩
    have hPLn : PL + len ≤ p.n := by
      have h1 := hAL
      rw [hch, show pre ++ k :: (if rnX K p.n R k < R.length then chn (rnX K p.n R) R.length (rnX K p.n R k) else []) = (pre ++ [k]) ++ (if rnX K p.n R k < R.length then chn (rnX K p.n R) R.length (rnX K p.n R k) else []) by simp, atB_app, atB_snoc] at h1
      simp only [List.length_append] at h1
      omega
    rw [← hPL] at s1 hac1 HROW
    have HPL := Lib.hid hPL
    clear hsb hrow hbel hch hstep hlen hm2 hPL
    go_wp2_with fail
    refine wp_region_until 12 (fun w' => w'.cell? ⟨sz, 1, none⟩ = some (.slice aa PL ac) ∧ w'.cell? ⟨g, k, none⟩ = some (.slice (some ⟨gk, 0, none⟩) len ck)) (by kernel_rfl) (by exact ⟨by rw [World.cell?_drew]; exact s1, by rw [World.cell?_drew]; exact m1⟩) ?_
    intro hHeld
    refine moveU (i := 0) (oi := { dst := some 165, op := _, type := _, pos := _, after := _, guard := _ }) (d := some 165) (v := ?vva165) rfl rfl (by kernel_rfl) (by kernel_rfl) (by kernel_rfl) (by rfl) ?dda165 (by rfl) ?yya165 hHeld ?rra165
    case dda165 => first | exact fun _ _ _ h => h | exact fun _ _ _ h => HQ.out _ _ _ _ (by rfl) h
    case yya165 => (intro wx; go_simp; try (with_reducible rfl))
    clear hHeld; intro hHeld
    try simp only [Act.put, List.setIfInBounds_toArray, List.set_cons_zero, List.set_cons_succ]
    refine moveU (i := 1) (oi := { dst := some 166, op := _, type := _, pos := _, after := _, guard := _ }) (d := some 166) (v := ?vva166) rfl rfl (by kernel_rfl) (by kernel_rfl) (by kernel_rfl) (by rfl) ?dda166 (by rfl) ?yya166 hHeld ?rra166
    case dda166 => first | exact fun _ _ _ h => h | exact fun _ _ _ h => HQ.out _ _ _ _ (by rfl) h
    case yya166 => (intro wx; go_simp; try (with_reducible rfl))
    clear hHeld; intro hHeld
    try simp only [Act.put, List.setIfInBounds_toArray, List.set_cons_zero, List.set_cons_succ]
    refine moveU (i := 2) (oi := { dst := some 167, op := _, type := _, pos := _, after := _, guard := _ }) (d := some 167) (v := ?vva167) rfl rfl (by kernel_rfl) (by kernel_rfl) (by kernel_rfl) (by rfl) ?dda167 (by rfl) ?yya167 hHeld ?rra167
    case dda167 => first | exact fun _ _ _ h => h | exact fun _ _ _ h => HQ.out _ _ _ _ (by rfl) h
    case yya167 => (intro wx; go_simp; try (with_reducible rfl))
    clear hHeld; intro hHeld
    try simp only [Act.put, List.setIfInBounds_toArray, List.set_cons_zero, List.set_cons_succ]
    refine moveU (i := 3) (oi := { dst := some 168, op := _, type := _, pos := _, after := _, guard := _ }) (d := some 168) (v := ?vva168) rfl rfl (by kernel_rfl) (by kernel_rfl) (by kernel_rfl) (by rfl) ?dda168 (by rfl) ?yya168 hHeld ?rra168
    case dda168 => first | exact fun _ _ _ h => h | exact fun _ _ _ h => HQ.out _ _ _ _ (by rfl) h
    case yya168 => (intro wx; go_simp; try (with_reducible rfl))
    clear hHeld; intro hHeld
    try simp only [Act.put, List.setIfInBounds_toArray, List.set_cons_zero, List.set_cons_succ]
    refine takeU [9,12] (i := 4) (oi := { dst := some 169, op := _, type := _, pos := _, after := _, guard := _ }) (d := some 169) (v := ?vva169) rfl rfl (by kernel_rfl) (by kernel_rfl) (by kernel_rfl) (by kernel_rfl) ?dda169 (by rfl) ?yya169 hHeld ?rra169
    case dda169 => first | exact fun _ _ _ h => h | exact fun _ _ _ h => HQ.out _ _ _ _ (by rfl) h
    case yya169 => (intro wx hSw; obtain ⟨y0, y1⟩ := hSw; go_simp; try (with_reducible rfl))
    clear hHeld; intro hHeld
    try simp only [Act.put, List.setIfInBounds_toArray, List.set_cons_zero, List.set_cons_succ]
    refine moveU (i := 5) (oi := { dst := some 170, op := _, type := _, pos := _, after := _, guard := _ }) (d := some 170) (v := ?vva170) rfl rfl (by kernel_rfl) (by kernel_rfl) (by kernel_rfl) (by rfl) ?dda170 (by rfl) ?yya170 hHeld ?rra170
    case dda170 => first | exact fun _ _ _ h => h | exact fun _ _ _ h => HQ.out _ _ _ _ (by rfl) h
    case yya170 => (intro wx; go_simp; try (with_reducible rfl))
    clear hHeld; intro hHeld
    try simp only [Act.put, List.setIfInBounds_toArray, List.set_cons_zero, List.set_cons_succ]
    refine moveU (i := 6) (oi := { dst := some 171, op := _, type := _, pos := _, after := _, guard := _ }) (d := some 171) (v := ?vva171) rfl rfl (by kernel_rfl) (by kernel_rfl) (by kernel_rfl) (by rfl) ?dda171 (by rfl) ?yya171 hHeld ?rra171
    case dda171 => first | exact fun _ _ _ h => h | exact fun _ _ _ h => HQ.out _ _ _ _ (by rfl) h
    case yya171 => (intro wx; go_simp; try (with_reducible rfl))
    clear hHeld; intro hHeld
    try simp only [Act.put, List.setIfInBounds_toArray, List.set_cons_zero, List.set_cons_succ]
    refine moveU (i := 7) (oi := { dst := some 172, op := _, type := _, pos := _, after := _, guard := _ }) (d := some 172) (v := ?vva172) rfl rfl (by kernel_rfl) (by kernel_rfl) (by kernel_rfl) (by rfl) ?dda172 (by rfl) ?yya172 hHeld ?rra172
    case dda172 => first | exact fun _ _ _ h => h | exact fun _ _ _ h => HQ.out _ _ _ _ (by rfl) h
    case yya172 => (intro wx; go_simp; try (with_reducible rfl))
    clear hHeld; intro hHeld
    try simp only [Act.put, List.setIfInBounds_toArray, List.set_cons_zero, List.set_cons_succ]
    refine takeU [9,12] (i := 8) (oi := { dst := some 173, op := _, type := _, pos := _, after := _, guard := _ }) (d := some 173) (v := ?vva173) rfl rfl (by kernel_rfl) (by kernel_rfl) (by kernel_rfl) (by kernel_rfl) ?dda173 (by rfl) ?yya173 hHeld ?rra173
    case dda173 => first | exact fun _ _ _ h => h | exact fun _ _ _ h => HQ.out _ _ _ _ (by rfl) h
    case yya173 => (intro wx hSw; obtain ⟨y0, y1⟩ := hSw; go_simp; try (with_reducible rfl))
    clear hHeld; intro hHeld
    try simp only [Act.put, List.setIfInBounds_toArray, List.set_cons_zero, List.set_cons_succ]
    refine wpAnyU_ready (rs := [9]) (by kernel_rfl) (by simp) ?_
    obtain ⟨wq, hwq⟩ : ∃ wq, wq = wr.drew := ⟨_, rfl⟩
    have HRQ := Lib.hid (show RowI wq b1 3 1 (.slice aa PL ac) PL (plF (atB R pre)) by rw [hwq]; exact HROW.out.drew)
    have HSQ := Lib.hid (show Blk wq sz #[.pointer (some ⟨p.pz, 0, none⟩), .slice aa PL ac, ow, .int .i64 lev, .int .i64 0, .int .i64 0] 65 by rw [hwq, HPL.out]; exact HSB.out.drew)
    have HBQ := Lib.hid (show Below b1 w0 wq by rw [hwq]; exact Below.drew HB.out)
    have HMQ := Lib.hid (show ∀ t, t < (rnG R k).length → wq.cell? ⟨gk, t, none⟩ = some (.int .i64 (plF (rnG R k) t)) from fun t ht => by rw [hwq]; exact HM2.out t ht)
    have m1q : wq.cell? ⟨g, k, none⟩ = some (.slice (some ⟨gk, 0, none⟩) len ck) := by rw [hwq]; exact m1
    rw [← hwq] at hHeld ⊢
    clear hwq HROW HSB HB s1 m1 z1
    obtain ⟨xs, hown0, hxs⟩ := HRQ.out
    have hxl : xs.length = PL * 1 := hown0.1
    have HX := Lib.hid hown0
    have HXL := Lib.hid hxl
    have HXS := Lib.hid hxs
    have hbqs : b1 ≤ wq.heap.size := Nat.le_trans hb1w HBQ.out.size
    obtain ⟨ii, hii, hz0, hz1, hz2⟩ := info_parts (show (Tryd.prog.info? 3).map (fun i => (i.zero, i.size, i.bytes)) = some (some (.int .i64 0), 1, 8) by kernel_rfl)
    clear hown0 hxl hxs
    refine AllReadyU.cons (o := { dst := some 174, op := _, type := _, pos := _, after := _, guard := _ }) rfl (fun K hK => ?_) AllReadyU.nil
    refine step_append_lies _ (by rfl) _ _ _ (by rfl) b1 3 ii (.int .i64 0) 1 8 Tryd.underlying22 hii hz0 hz1 hz2 (by rfl) (by decide) (.slice aa PL ac) PL _ (by rfl) HX.out ⟨gk, 0, none⟩ len ck ((rnG R k).map fun x => Value.int .i64 (x : Nat)) (by rfl) (by rw [List.length_map, HLEN.out, Nat.mul_one]) ?c1 ?c2 hl0 (by unfold maxLen; omega) (by omega) hbqs wq.heap.size rfl ?_
    case c1 =>
      intro t u ht
      have e : Addr.add ⟨gk, 0, none⟩ t = ⟨gk, t, none⟩ := by simp [Addr.add] <;> omega
      rw [e]
      have htl : t < (rnG R k).length := by have := (List.getElem?_eq_some_iff.1 ht).1; simpa using this
      rw [HMQ.out t htl]
      rw [List.getElem?_map, List.getElem?_eq_getElem htl] at ht
      rw [← ht]
      unfold plF
      rw [List.getD_eq_getElem?_getD, List.getElem?_eq_getElem htl]
      rfl
    case c2 => intro u hu; obtain ⟨x, _, rfl⟩ := List.mem_map.1 hu; rfl
    intro g7 cap7 w7 hown hgrow hblk hg7
    have hs7 : some sz ≠ (Value.slice aa PL ac).ownBlock := fun e => rowI_blk HRQ.out HSQ.out (by decide) e.symm
    have HB7 := Lib.hid (Below.grown HBQ.out hgrow hbqs (fun k hk => HRQ.out.ge k hk))
    have HS7 := Lib.hid (HSQ.out.block (w' := w7) (hgrow.block sz HSQ.out.lt hs7))
    have HR7 := Lib.hid (show RowI w7 b1 3 1 (.slice (some ⟨g7, 0, none⟩) (PL + len) cap7) (PL + len) (plF (atB R (pre ++ [k]))) from
      ⟨_, hown, fun i hi => by
        rw [atB_snoc]
        exact plF_app (by rw [← HPL.out]; exact HXL.out) (by rw [← HPL.out]; exact HXS.out) i (by rw [List.length_append, ← HPL.out, ← HLEN.out]; exact hi)⟩)
    have hm1q : w7.cell? ⟨g, k, none⟩ = some (.slice (some ⟨gk, 0, none⟩) len ck) := by
      refine (World.cell?_of_block (w := wq) (hgrow.block g (lt_of_cell m1q) (fun e => ?_))).trans m1q
      have h1 := HRQ.out.ge g e.symm
      have h2 : g < wA.heap.size := by
        obtain ⟨g', gk', ck', hra, hc, _⟩ := HNS.out.run (Below.refl _ _) HOK.out hkR
        cases hra
        exact lt_of_cell hc
      omega
    have z7 := HS7.out.frozen 1
    have c7 : w7.cell? ⟨sz, 1, none⟩ = some (.slice aa PL ac) := HS7.out.cell (i := 1) rfl
    refine hK.out _ _ (fun _ => ⟨c7, hm1q⟩) (fun hHeld2 => ?_)
    clear hK K hHeld hown hgrow hii hz0 hz1 hz2 HX HXS HXL HRQ HSQ HBQ HMQ
    try simp only [Act.put, List.setIfInBounds_toArray, List.set_cons_zero, List.set_cons_succ]
    refine moveU (i := 10) (oi := { dst := some 175, op := _, type := _, pos := _, after := _, guard := _ }) (d := some 175) (v := ?vvb175) rfl rfl (by kernel_rfl) (by kernel_rfl) (by kernel_rfl) (by rfl) ?ddb175 (by rfl) ?yyb175 hHeld2 ?rrb175
    case ddb175 => first | exact fun _ _ _ h => h | exact fun _ _ _ h => HQ.out _ _ _ _ (by rfl) h
    case yyb175 => (intro wx; go_simp; try (with_reducible rfl))
    clear hHeld2; intro hHeld2
    try simp only [Act.put, List.setIfInBounds_toArray, List.set_cons_zero, List.set_cons_succ]
    refine moveU (i := 11) (oi := { dst := some 176, op := _, type := _, pos := _, after := _, guard := _ }) (d := some 176) (v := ?vvb176) rfl rfl (by kernel_rfl) (by kernel_rfl) (by kernel_rfl) (by rfl) ?ddb176 (by rfl) ?yyb176 hHeld2 ?rrb176
    case ddb176 => first | exact fun _ _ _ h => h | exact fun _ _ _ h => HQ.out _ _ _ _ (by rfl) h
    case yyb176 => (intro wx; go_simp; try (with_reducible rfl))
    clear hHeld2; intro hHeld2
    try simp only [Act.put, List.setIfInBounds_toArray, List.set_cons_zero, List.set_cons_succ]
    refine wpAnyU_ready (rs := [12]) (by kernel_rfl) (by simp) ?_
    refine AllReadyU.cons (o := { dst := none, op := _, type := _, pos := _, after := _, guard := _ }) rfl (fun K hK => ?_) AllReadyU.nil
    go_simp
    obtain ⟨w8, hw8⟩ : ∃ w8, w8 = w7.setCell ⟨sz, 1, none⟩ (.slice (some ⟨g7, 0, none⟩) (PL + len) cap7) := ⟨_, rfl⟩
    have hne7 : (Value.slice (some ⟨g7, 0, none⟩) (PL + len) cap7).ownBlock ≠ some sz := rowI_blk HR7.out HS7.out (by decide)
    have HS8 := Lib.hid (show Blk w8 sz #[.pointer (some ⟨p.pz, 0, none⟩), .slice (some ⟨g7, 0, none⟩) (PL + len) cap7, ow, .int .i64 lev, .int .i64 0, .int .i64 0] 65 by rw [hw8]; exact HS7.out.set 1 _)
    have HR8 := Lib.hid (show RowI w8 b1 3 1 (.slice (some ⟨g7, 0, none⟩) (PL + len) cap7) (PL + len) (plF (atB R (pre ++ [k]))) by rw [hw8]; exact HR7.out.other hne7 _)
    have HB8 := Lib.hid (show Below b1 w0 w8 by rw [hw8]; exact HB7.out.setCell hsz _)
    rw [← hw8]
    refine hK.out _ _ (fun h => absurd h (by decide)) (fun hHeld => ?_)
    clear hK K hHeld2 hHeld hw8 HS7 HR7 HB7 hm1q z7 c7 hne7 hs7
    try simp only [Act.put, List.setIfInBounds_toArray, List.set_cons_zero, List.set_cons_succ]
    refine wpAnyU_done (by kernel_rfl) ?_ _
    have hbw8 : Below wA.heap.size wA w8 := HBA.out.trans (HB8.out.mono hb1)
    obtain ⟨g2, gk2, ck2, hra2, m1, _, _, _, _, hm2⟩ := HNS.out.run hbw8 HOK.out hkR
    cases hra2
    have m2 := hm2 ((rnG R k).length - 1) (by omega)
    rw [plF_last (rn_in HOK.out hkR), ← HLEN.out] at m2
    rw [← HLEN.out] at m1
    have hpl := (rns_place HOK.out hkR (rn_last HOK.out hkR)).1
    have c5 : w8.cell? ⟨p.pz, 5, none⟩ = some p.mv := (HPA.out.under hbw8 (Nat.le_refl _)).par.cell (i := 5) rfl
    rw [HMV.out] at c5
    have HX := Lib.hid (show rnX K p.n R k = if isoB (K ((rnG R k).getLastD 0)) = true ∧ rnI R (partner K p.n ((rnG R k).getLastD 0)) < R.length then rnI R (partner K p.n ((rnG R k).getLastD 0)) else R.length + k + 1 by
      unfold rnX
      by_cases h : isoB (K ((rnG R k).getLastD 0)) = true ∧ rnI R (partner K p.n ((rnG R k).getLastD 0)) < R.length
      · rw [if_pos ⟨hkR, h⟩, if_pos h]
      · rw [if_neg (fun q => h q.2), if_neg h])
    obtain ⟨z, hz⟩ : ∃ z, z = (rnG R k).getLastD 0 := ⟨_, rfl⟩
    rw [← hz] at m2 hpl HX
    have d1 := (HMT.out.below hbw8 HMT.out.lt).cell hpl
    have e1 : (len : Int) - 1 = ((len - 1 : Nat) : Int) := by omega
    have hw9 := IntWalk.i64_in ((len - 1 : Nat) : Int) (by omega)
    have hl1 : ((len - 1 : Nat) : Int) < (len : Int) := by omega
    have hl2 : (0 : Int) ≤ ((len - 1 : Nat) : Int) := by omega
    have hzi : (z : Int) < (p.n : Int) := by omega
    obtain ⟨mz, hmz⟩ : ∃ m, m = matB K p.n p.n z := ⟨_, rfl⟩
    rw [← hmz] at d1
    have HMZ := Lib.hid hmz
    have HRW := Lib.hid (show OwnF w8 3 gr p.n (rnF R R.length) from HRR.out.below HB8.out hgr)
    clear hm2 hz hmz hbw hbw8
    have hmc : mz = -1 ∨ ∃ P : Nat, mz = P ∧ P < p.n ∧ isoB (K z) = true ∧ P = partner K p.n z := by
      rw [HMZ.out]; unfold matB
      by_cases h : isoB (K z) = true ∧ partner K p.n z < p.n
      · rw [if_pos h]; exact .inr ⟨_, rfl, h.2, h.1, rfl⟩
      · rw [if_neg h]; exact .inl rfl
    have HAPP := Lib.hid (show ∀ q, rnX K p.n R k = q → R.length ≤ q → CH = pre ++ [k] from fun q h1 h2 => by rw [HC2.out, h1, if_neg (by omega)])
    rcases hmc with rfl | ⟨P, rfl, hP, hiz, hPz⟩
    · have HEQ := Lib.hid (show CH = pre ++ [k] from HAPP.out _ (HX.out.trans (if_neg (by
        rintro ⟨h1, h2⟩
        have h3 := HMZ.out
        unfold matB at h3
        rw [if_pos ⟨h1, rnI_place HOK.out h2⟩] at h3
        omega))) (by omega))
      go_wp2_with fail
      go_quiet (fail)
      go_wp2_with fail
      go_meet
      exact ⟨_, HS8.out.drewN nq, by rw [HEQ.out]; have := HR8.out.drewN nq; rw [show (atB R (pre ++ [k])).length = PL + len by rw [atB_snoc, List.length_append, HPL.out, HLEN.out]]; exact this, below_drewN HB8.out nq⟩
    · have hPi : (P : Int) < (p.n : Int) := by omega
      have hP0 : (0 : Int) ≤ (P : Int) := by omega
      have d2 := HRW.out.cell hP
      by_cases hrn : rnI R P < R.length
      · have HNX := Lib.hid (show rnX K p.n R k = rnI R P by rw [HX.out, ← hPz, if_pos ⟨hiz, hrn⟩])
        have e2 : rnF R R.length P = ((rnI R P : Nat) : Int) + 1 := by unfold rnF; rw [if_pos hrn]
        rw [e2] at d2
        have hky : k < rnI R P := by rw [← HNX.out]; exact HG.out k
        have HC3 := Lib.hid (show CH = (pre ++ [k]) ++ chn (rnX K p.n R) R.length (rnI R P) by rw [HC2.out, HNX.out, if_pos hrn]; simp)
        obtain ⟨y, hy⟩ : ∃ y, y = rnI R P := ⟨_, rfl⟩
        rw [← hy] at d2 HNX hrn hky HC3
        have e3 : (y : Int) + 1 - 1 = (y : Int) := by omega
        have hy0 : ((y : Int) + 1 == 0) = false := by simp; omega
        have hw8 := IntWalk.i64_in (y : Int) (by omega)
        clear hy e2 hPz hiz
        go_wp2_with fail
        go_quiet (fail)
        go_wp2_with fail
        go_roundw
        case rel => exact ⟨y, pre ++ [k], _, by first | rfl | go_num, hrn, HC3.out, HS8.out.drewN nq, by have := HR8.out.drewN nq; rw [show (atB R (pre ++ [k])).length = PL + len by rw [atB_snoc, List.length_append, HPL.out, HLEN.out]]; exact this, below_drewN HB8.out nq⟩
        case measure => simp [intOf]; omega
      · have HEQ := Lib.hid (show CH = pre ++ [k] from HAPP.out _ (HX.out.trans (if_neg (by rw [← hPz]; exact fun h => hrn h.2))) (by omega))
        have e2 : rnF R R.length P = 0 := by unfold rnF; rw [if_neg hrn]
        rw [e2] at d2
        clear e2 hPz hiz hrn
        go_wp2_with fail
        go_quiet (fail)
        go_wp2_with fail
        go_meet
        exact ⟨_, HS8.out.drewN nq, by rw [HEQ.out]; have := HR8.out.drewN nq; rw [show (atB R (pre ++ [k])).length = PL + len by rw [atB_snoc, List.length_append, HPL.out, HLEN.out]]; exact this, below_drewN HB8.out nq⟩
end Go.Proofs.YtojbicdmcodgdaaDoor.BD
