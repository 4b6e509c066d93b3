

/-
  Hit.
-/
import Derived.Test.YtnigebnibikolaaDoorShLocal
import Derived.Test.YtnigebnibikolaaDoorShInside
namespace Go.Proofs.YtnigebnibikolaaDoor.ShT
open Go.RowKit Go.Law Go.Law.Sh
set_option linter.unusedVariables false
set_option linter.unusedSimpArgs false
set_option maxRecDepth 100000
theorem hit_err (n : Nat) (E : Nat → Nat → Int) (N : Nat → Nat → ByteArray) (x y : Int) (a : Option Addr) (c : Nat) (w : World) (ha : ShF w a n E N) (hn : n ≤ 1000000000000000000) (hc : n ≤ c) (he : shE n E ≠ 0) :
    Calls Tryd.prog 36 #[.slice a n c, .agg #[.int .i64 x, .int .i64 y]] w fun e w' => e = .returned (.tuple #[.int .i64 0, .int .i64 (shE n E)]) ∧ Below w.heap.size w w' := by
  have HC := Lib.hid (fun w1 (hb : Below w.heap.size w w1) => check_any n E N a c w1 (ha.below (Nat.le_refl _) hb) hn hc)
  obtain ⟨V, hV⟩ : ∃ V, V = shE n E := ⟨_, rfl⟩
  rw [← hV] at HC he ⊢
  clear ha hV
  have t : (V != 0) = true := by simpa using he
  go_enter Tryd.func36, Tryd.ntmps36
  go_wp2_with fail
  have hb0 := (Below.refl w.heap.size w).alloc (Nat.le_refl _) (Obj.cells #[.int .i64 x, .int .i64 y] 64)
  refine (HC.out _ hb0).mono ?_
  rintro e w1 ⟨rfl, hb1⟩
  go_wp2_with fail
  go_ret2
  exact ⟨rfl, hb0.trans (hb1.mono (by simp))⟩
theorem hit_range (n : Nat) (E : Nat → Nat → Int) (N : Nat → Nat → ByteArray) (x y : Int) (a : Option Addr) (c : Nat) (w : World) (ha : ShF w a n E N) (hn : n ≤ 1000000000000000000) (hc : n ≤ c) (he : shE n E = 0)
    (h : ¬ ((-1048576 ≤ x ∧ x ≤ 1048576) ∧ (-1048576 ≤ y ∧ y ≤ 1048576))) :
    Calls Tryd.prog 36 #[.slice a n c, .agg #[.int .i64 x, .int .i64 y]] w fun e w' => e = .returned (.tuple #[.int .i64 0, .int .i64 2]) ∧ Below w.heap.size w w' := by
  have HC := Lib.hid (fun w1 (hb : Below w.heap.size w w1) => check_any n E N a c w1 (ha.below (Nat.le_refl _) hb) hn hc)
  rw [he] at HC
  clear ha he
  by_cases h1 : x < -1048576
  · clear h
    go_enter Tryd.func36, Tryd.ntmps36
    go_wp2_with fail
    have hb0 := (Below.refl w.heap.size w).alloc (Nat.le_refl _) (Obj.cells #[.int .i64 x, .int .i64 y] 64)
    refine (HC.out _ hb0).mono ?_
    rintro e w1 ⟨rfl, hb1⟩
    have bp := (Blk.new w #[.int .i64 x, .int .i64 y] 64).below hb1 (by simp)
    have p0 : w1.cell? ⟨w.heap.size, 0, none⟩ = some (.int .i64 x) := bp.cell (i := 0) rfl
    have p1 : w1.cell? ⟨w.heap.size, 1, none⟩ = some (.int .i64 y) := bp.cell (i := 1) rfl
    have zp := bp.lt
    have hbel := hb0.trans (hb1.mono (by simp))
    clear hb0 hb1 bp
    go_wp2_with fail
    go_ret2
    exact ⟨rfl, hbel⟩
  by_cases h2 : 1048576 < x
  · clear h
    go_enter Tryd.func36, Tryd.ntmps36
    go_wp2_with fail
    have hb0 := (Below.refl w.heap.size w).alloc (Nat.le_refl _) (Obj.cells #[.int .i64 x, .int .i64 y] 64)
    refine (HC.out _ hb0).mono ?_
    rintro e w1 ⟨rfl, hb1⟩
    have bp := (Blk.new w #[.int .i64 x, .int .i64 y] 64).below hb1 (by simp)
    have p0 : w1.cell? ⟨w.heap.size, 0, none⟩ = some (.int .i64 x) := bp.cell (i := 0) rfl
    have p1 : w1.cell? ⟨w.heap.size, 1, none⟩ = some (.int .i64 y) := bp.cell (i := 1) rfl
    have zp := bp.lt
    have hbel := hb0.trans (hb1.mono (by simp))
    clear hb0 hb1 bp
    go_wp2_with fail
    go_ret2
    exact ⟨rfl, hbel⟩
  by_cases h3 : y < -1048576
  · clear h
    go_enter Tryd.func36, Tryd.ntmps36
    go_wp2_with fail
    have hb0 := (Below.refl w.heap.size w).alloc (Nat.le_refl _) (Obj.cells #[.int .i64 x, .int .i64 y] 64)
    refine (HC.out _ hb0).mono ?_
    rintro e w1 ⟨rfl, hb1⟩
    have bp := (Blk.new w #[.int .i64 x, .int .i64 y] 64).below hb1 (by simp)
    have p0 : w1.cell? ⟨w.heap.size, 0, none⟩ = some (.int .i64 x) := bp.cell (i := 0) rfl
    have p1 : w1.cell? ⟨w.heap.size, 1, none⟩ = some (.int .i64 y) := bp.cell (i := 1) rfl
    have zp := bp.lt
    have hbel := hb0.trans (hb1.mono (by simp))
    clear hb0 hb1 bp
    go_wp2_with fail
    go_ret2
    exact ⟨rfl, hbel⟩
  have h4 : 1048576 < y := by omega
  clear h
  go_enter Tryd.func36, Tryd.ntmps36
  go_wp2_with fail
  have hb0 := (Below.refl w.heap.size w).alloc (Nat.le_refl _) (Obj.cells #[.int .i64 x, .int .i64 y] 64)
  refine (HC.out _ hb0).mono ?_
  rintro e w1 ⟨rfl, hb1⟩
  have bp := (Blk.new w #[.int .i64 x, .int .i64 y] 64).below hb1 (by simp)
  have p0 : w1.cell? ⟨w.heap.size, 0, none⟩ = some (.int .i64 x) := bp.cell (i := 0) rfl
  have p1 : w1.cell? ⟨w.heap.size, 1, none⟩ = some (.int .i64 y) := bp.cell (i := 1) rfl
  have zp := bp.lt
  have hbel := hb0.trans (hb1.mono (by simp))
  clear hb0 hb1 bp
  go_wp2_with fail
  go_ret2
  exact ⟨rfl, hbel⟩
set_option maxHeartbeats 2000000 in
theorem hit_ok (n : Nat) (E : Nat → Nat → Int) (N : Nat → Nat → ByteArray) (x y : Int) (a : Option Addr) (c : Nat) (w : World) (ha : ShF w a n E N) (hn : n ≤ 1000) (hc : n ≤ c) (he : shE n E = 0)
    (h : (-1048576 ≤ x ∧ x ≤ 1048576) ∧ (-1048576 ≤ y ∧ y ≤ 1048576)) (ht : Arr w 3) :
    Calls Tryd.prog 36 #[.slice a n c, .agg #[.int .i64 x, .int .i64 y]] w fun e w' => e = .returned (.tuple #[.int .i64 (hitV n E (x, y) n), .int .i64 0]) ∧ Below w.heap.size w w' := by
  have hall : ∀ j, j < n → Right E j := fun j hj => right_of ((shE_zero he).2 j hj)
  have HC := Lib.hid (fun w1 (hb : Below w.heap.size w w1) => check_any n E N a c w1 (ha.below (Nat.le_refl _) hb) (by omega) hc)
  rw [he] at HC
  have HL := Lib.hid (fun k w1 (hb : Below w.heap.size w w1) (hk : k < n) => local_any n E N (x, y) a c hn hall n k w1 (ha.below (Nat.le_refl _) hb) hk (Nat.le_trans (Par.next hall hk).2 (Nat.le_of_lt hk)) (ht.below (Nat.le_refl _) hb))
  have HALL := Lib.hid hall
  have HA := Lib.hid ha
  obtain ⟨⟨x1, x2⟩, y1, y2⟩ := h
  have hx1 : ¬ x < -1048576 := by omega
  have hx2 : ¬ 1048576 < x := by omega
  have hy1 : ¬ y < -1048576 := by omega
  have hy2 : ¬ 1048576 < y := by omega
  obtain ⟨R, hR⟩ : ∃ R, R = hitV n E (x, y) n := ⟨_, rfl⟩
  rw [← hR]
  have HR := Lib.hid hR
  clear ha he hall ht hR
  go_enter Tryd.func36, Tryd.ntmps36
  go_wp2_with fail
  have hb0 := (Below.refl w.heap.size w).alloc (Nat.le_refl _) (Obj.cells #[.int .i64 x, .int .i64 y] 64)
  refine (HC.out _ hb0).mono ?_
  rintro e w1 ⟨rfl, hb1⟩
  have hbel := hb0.trans (hb1.mono (by simp))
  have bp := (Blk.new w #[.int .i64 x, .int .i64 y] 64).below hb1 (by simp)
  have p0 : w1.cell? ⟨w.heap.size, 0, none⟩ = some (.int .i64 x) := bp.cell (i := 0) rfl
  have p1 : w1.cell? ⟨w.heap.size, 1, none⟩ = some (.int .i64 y) := bp.cell (i := 1) rfl
  have zp := bp.lt
  have BP := Lib.hid bp
  clear hb0 hb1 bp HC
  go_wp2_with fail
  clear p0 p1 zp
  go_loopw [7] (fun ik wr => ∃ k : Nat, ik = .int .i64 ((k : Int) - 1) ∧ k ≤ n ∧ R = hitV n E (x, y) k ∧ Blk wr w.heap.size #[.int .i64 x, .int .i64 y] 64 ∧ Below w.heap.size w wr) (fun ik _ => (intOf ik + 1).toNat)
  case atStart => exact ⟨n, by go_num, by omega, HR.out, BP.out, hbel⟩
  case round =>
    obtain ⟨k', rfl, hk, hr, hbp, hbl⟩ := hrel
    have HBP := Lib.hid hbp
    have HR2 := Lib.hid hr
    have hsz := hbl.size
    have p0 : wr.cell? ⟨w.heap.size, 0, none⟩ = some (.int .i64 x) := hbp.cell (i := 0) rfl
    have p1 : wr.cell? ⟨w.heap.size, 1, none⟩ = some (.int .i64 y) := hbp.cell (i := 1) rfl
    have zp := hbp.lt
    clear hbp hr BP HR hbel
    rcases k' with _ | m
    · have HR3 := Lib.hid (show R = 0 from HR2.out)
      clear HR2
      rw [show (((0 : Nat) : Int) - 1) = -1 from rfl]
      go_wp2_with fail
      go_ret2
      exact ⟨by rw [HR3.out]; rfl, hbl⟩
    · rw [show (((m + 1 : Nat) : Int) - 1) = (m : Int) by omega]
      have hmn : m < n := by omega
      obtain ⟨b, off, rfl, hcellG⟩ := HA.out.below (Nat.le_refl _) hbl (by omega)
      have hbx := (HALL.out m hmn).2.2.1
      have HBX := Lib.hid hbx
      have hcell := hcellG m hmn
      clear hcellG hbx
      have HLM := Lib.hid (fun w1 hb => HL.out m w1 hb hmn)
      have HIN := Lib.hid (fun w1 => inside_any (E m) (N m 0) (N m 1) (locP n E m (x, y)) w1 HBX.out)
      obtain ⟨X, hX⟩ : ∃ X, X = (locP n E m (x, y)).1 := ⟨_, rfl⟩
      obtain ⟨Y, hY⟩ : ∃ Y, Y = (locP n E m (x, y)).2 := ⟨_, rfl⟩
      obtain ⟨B, hB⟩ : ∃ B, B = insB (E m) (locP n E m (x, y)) := ⟨_, rfl⟩
      rw [show (turnBk (E m) (inG n E (x, y) n (E m 1))).1 = X from hX.symm, show (turnBk (E m) (inG n E (x, y) n (E m 1))).2 = Y from hY.symm] at HLM
      rw [← hX, ← hY, ← hB] at HIN
      have HK := Lib.hid (fun h => hits_kind (n := n) (p := (x, y)) (E := E) (k := m) h)
      have HO := Lib.hid (show ¬ (E m 2 = 5 ∨ E m 2 = 6) → hits n E (x, y) m = B from fun h => by rw [hB]; exact hits_other h)
      have HS1 := Lib.hid (show hits n E (x, y) m = true → R = E m 0 from fun h => HR2.out.trans (hitV_yes h))
      have HS2 := Lib.hid (show hits n E (x, y) m = false → R = hitV n E (x, y) m from fun h => HR2.out.trans (hitV_no h))
      clear hX hY hB HR2 HL HALL HBX
      obtain ⟨hci, hc10, hc11⟩ := hcell
      have d0 := hci 0 (by omega)
      rw [Nat.add_zero] at d0
      have d1 := hci 1 (by omega)
      have d2 := hci 2 (by omega)
      have d3 := hci 3 (by omega)
      have d4 := hci 4 (by omega)
      have d5 := hci 5 (by omega)
      have d6 := hci 6 (by omega)
      have d7 := hci 7 (by omega)
      have d8 := hci 8 (by omega)
      have d9 := hci 9 (by omega)
      have zb := lt_of_cell d0
      simp only at zb
      clear hci
      obtain ⟨K, hK⟩ : ∃ K, K = E m 2 := ⟨_, rfl⟩
      rw [← hK] at d2 HK HO HLM HIN
      clear hK
      by_cases h5 : K = 5
      · subst h5
        have HS := Lib.hid (HS2.out (HK.out (.inl rfl)))
        clear HK HO HS1 HS2 HLM HIN
        go_wp2_with fail
        go_roundw
        case rel =>
          refine ⟨m, by go_num, by omega, HS.out, HBP.out.alloc _, ?_⟩
          repeat' (with_reducible first | exact Below.refl _ _ | assumption | refine Below.setCell ?_ ?_ _ | refine Below.alloc ?_ ?_ _ | refine below_drewN ?_ _ | refine Below.drew ?_)
          all_goals first | omega | (simp; done) | (simp; omega)
        case measure => simp [intOf] <;> omega
      by_cases h6 : K = 6
      · subst h6
        have HS := Lib.hid (HS2.out (HK.out (.inr rfl)))
        clear HK HO HS1 HS2 HLM HIN
        go_wp2_with fail
        go_roundw
        case rel =>
          refine ⟨m, by go_num, by omega, HS.out, HBP.out.alloc _, ?_⟩
          repeat' (with_reducible first | exact Below.refl _ _ | assumption | refine Below.setCell ?_ ?_ _ | refine Below.alloc ?_ ?_ _ | refine below_drewN ?_ _ | refine Below.drew ?_)
          all_goals first | omega | (simp; done) | (simp; omega)
        case measure => simp [intOf] <;> omega
      have k5 : (K == 5) = false := by simpa using h5
      have k6 : (K == 6) = false := by simpa using h6
      have HHB := Lib.hid (HO.out (by omega))
      clear HO HK h5 h6
      go_wp2_with fail
      obtain ⟨w2, hw2⟩ : ∃ w2, w2 = wr.alloc (Obj.cells #[.int .i64 (E m 0), .int .i64 (E m 1), .int .i64 K, .int .i64 (E m 3), .int .i64 (E m 4), .int .i64 (E m 5), .int .i64 (E m 6), .int .i64 (E m 7), .int .i64 (E m 8), .int .i64 (E m 9), .string (N m 0), .string (N m 1)] 82) := ⟨_, rfl⟩
      have b2 : Blk w2 wr.heap.size #[.int .i64 (E m 0), .int .i64 (E m 1), .int .i64 K, .int .i64 (E m 3), .int .i64 (E m 4), .int .i64 (E m 5), .int .i64 (E m 6), .int .i64 (E m 7), .int .i64 (E m 8), .int .i64 (E m 9), .string (N m 0), .string (N m 1)] 82 := by rw [hw2]; exact Blk.new _ _ _
      have bp2 : Blk w2 w.heap.size #[.int .i64 x, .int .i64 y] 64 := by rw [hw2]; exact HBP.out.alloc _
      have hbl2 : Below w.heap.size w w2 := by rw [hw2]; exact hbl.alloc hsz _
      rw [← hw2]
      obtain ⟨q, hq⟩ : ∃ q, q = wr.heap.size := ⟨_, rfl⟩
      rw [← hq] at b2 ⊢
      clear hw2 hq d0 d1 d2 d3 d4 d5 d6 d7 d8 d9 hc10 hc11 zb p0 p1 zp hbl
      refine (HLM.out w2 hbl2).mono ?_
      rintro e w3 ⟨rfl, hb3⟩
      have hbl3 := hbl2.trans (hb3.mono hbl2.size)
      have B3 := Lib.hid (b2.below hb3 b2.lt)
      have BP3 := Lib.hid (bp2.below hb3 bp2.lt)
      have c0 : w3.cell? ⟨q, 0, none⟩ = some (.int .i64 (E m 0)) := B3.out.cell (i := 0) rfl
      have c1 : w3.cell? ⟨q, 1, none⟩ = some (.int .i64 (E m 1)) := B3.out.cell (i := 1) rfl
      have c2 : w3.cell? ⟨q, 2, none⟩ = some (.int .i64 K) := B3.out.cell (i := 2) rfl
      have c3 : w3.cell? ⟨q, 3, none⟩ = some (.int .i64 (E m 3)) := B3.out.cell (i := 3) rfl
      have c4 : w3.cell? ⟨q, 4, none⟩ = some (.int .i64 (E m 4)) := B3.out.cell (i := 4) rfl
      have c5 : w3.cell? ⟨q, 5, none⟩ = some (.int .i64 (E m 5)) := B3.out.cell (i := 5) rfl
      have c6 : w3.cell? ⟨q, 6, none⟩ = some (.int .i64 (E m 6)) := B3.out.cell (i := 6) rfl
      have c7 : w3.cell? ⟨q, 7, none⟩ = some (.int .i64 (E m 7)) := B3.out.cell (i := 7) rfl
      have c8 : w3.cell? ⟨q, 8, none⟩ = some (.int .i64 (E m 8)) := B3.out.cell (i := 8) rfl
      have c9 : w3.cell? ⟨q, 9, none⟩ = some (.int .i64 (E m 9)) := B3.out.cell (i := 9) rfl
      have c10 : w3.cell? ⟨q, 10, none⟩ = some (.string (N m 0)) := B3.out.cell (i := 10) rfl
      have c11 : w3.cell? ⟨q, 11, none⟩ = some (.string (N m 1)) := B3.out.cell (i := 11) rfl
      have zq := B3.out.lt
      clear b2 bp2 hb3 hbl2
      go_wp2_with fail
      refine (HIN.out w3).mono ?_
      rintro e w4 ⟨rfl, hb4⟩
      have hbl4 := hbl3.trans (hb4.mono hbl3.size)
      have bq := B3.out.below hb4 B3.out.lt
      have bp4 := BP3.out.below hb4 BP3.out.lt
      have f0 : w4.cell? ⟨q, 0, none⟩ = some (.int .i64 (E m 0)) := bq.cell (i := 0) rfl
      have zq4 := bq.lt
      have BP4 := Lib.hid bp4
      clear bq bp4 hb4 c0 c1 c2 c3 c4 c5 c6 c7 c8 c9 c10 c11 zq B3 BP3 hbl3 HLM HIN
      cases B
      · have HS := Lib.hid (HS2.out HHB.out)
        clear HS1 HS2 HHB
        go_wp2_with fail
        go_roundw
        case rel => exact ⟨m, by go_num, by omega, HS.out, BP4.out, hbl4⟩
        case measure => simp [intOf] <;> omega
      · have HS := Lib.hid (HS1.out HHB.out)
        clear HS1 HS2 HHB
        go_wp2_with fail
        go_ret2
        exact ⟨by rw [HS.out]; rfl, hbl4⟩
end Go.Proofs.YtnigebnibikolaaDoor.ShT
