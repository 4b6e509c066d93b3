

/-
  HitShape: the walk.
-/
import Derived.Test.YtnigebnibikolaaDoorShHitRef
namespace Go.Proofs.YtnigebnibikolaaDoor.ShT
open Go.RowKit Go.Law Go.Law.Sh Ref
set_option linter.unusedVariables false
set_option linter.unusedSimpArgs false
set_option maxRecDepth 100000
set_option maxHeartbeats 8000000 in
theorem hitShape_any (n : Nat) (E : Nat → Nat → Int) (N : Nat → Nat → ByteArray) (x y : Int) (a : Option Addr) (c : Nat) (w : World) (ha : ShF w a n E N) (hn : n ≤ 20) (hall : ∀ j, j < n → Right E j) (ht : Arr w 2) :
    Calls Tryd.prog 37 #[.slice a n c, .agg #[.int .i64 x, .int .i64 y]] w fun e w' => e = .returned (.int .i64 (hitV n E (x, y) n)) ∧ Below w.heap.size w w' := by
  have HA := Lib.hid ha
  have HT := Lib.hid ht
  have HALL := Lib.hid hall
  have HIN := Lib.hid (show (Tryd.prog.info? 82).map (fun i => (i.zero, i.size, i.bytes)) = some (some (.agg #[.int .i64 0, .int .i64 0, .int .i64 0, .int .i64 0, .int .i64 0, .int .i64 0, .int .i64 0, .int .i64 0, .int .i64 0, .int .i64 0, .string ⟨#[]⟩, .string ⟨#[]⟩]), 12, 112) by kernel_rfl)
  clear ha ht hall
  go_enter Tryd.func37, Tryd.ntmps37
  go_wp2_with fail
  have hb0 := (Below.refl w.heap.size w).alloc (Nat.le_refl _) (Obj.cells #[.int .i64 x, .int .i64 y] 64)
  have BP0 := Lib.hid (Blk.new w #[.int .i64 x, .int .i64 y] 64)
  go_loopw [5, 18] (fun v5 ix wr => ∃ i : Nat, ix = .int .i64 i ∧ i ≤ n ∧ v5 = .int .i64 (hitV n E (x, y) i) ∧ Blk wr w.heap.size #[.int .i64 x, .int .i64 y] 64 ∧ Below w.heap.size w wr) (fun _ ix _ => n - (intOf ix).toNat)
  case atStart => exact ⟨0, rfl, by omega, rfl, BP0.out, hb0⟩
  case round =>
    obtain ⟨i, rfl, hi, rfl, hbp, hbel⟩ := hrel
    have HBP := Lib.hid hbp
    have hsz := hbel.size
    have p0 : wr.cell? ⟨w.heap.size, 0, none⟩ = some (.int .i64 x) := hbp.cell (i := 0) rfl
    have p1 : wr.cell? ⟨w.heap.size, 1, none⟩ = some (.int .i64 y) := hbp.cell (i := 1) rfl
    have zp := hbp.lt
    clear hbp BP0 hb0
    by_cases hin : i < n
    · obtain ⟨b, off, rfl, hcellG⟩ := HA.out.below (Nat.le_refl _) hbel (by omega)
      have hcell := hcellG i hin
      clear hcellG
      have hbx := (HALL.out i hin).2.2.1
      unfold boxS at hbx
      obtain ⟨⟨r1, r2⟩, ⟨r3, r4⟩, ⟨r5, r6⟩, ⟨r7, r8⟩, ⟨r9, r10⟩⟩ := hbx
      have HK := Lib.hid (fun h => hits_kind (n := n) (p := (x, y)) (E := E) (k := i) h)
      have HO := Lib.hid (fun h => hits_other (n := n) (p := (x, y)) (E := E) (k := i) h)
      have HS1 := Lib.hid (fun h => hitV_yes (n := n) (p := (x, y)) (E := E) (m := i) h)
      have HS2 := Lib.hid (fun h => hitV_no (n := n) (p := (x, y)) (E := E) (m := i) h)
      obtain ⟨ht, hht⟩ : ∃ ht, ht = hitV n E (x, y) i := ⟨_, rfl⟩
      rw [← hht] at HS2 ⊢
      clear hht
      obtain ⟨hci, hc10, hc11⟩ := hcell
      have d0 := hci 0 (by omega)
      rw [Nat.add_zero] at d0
      have d1 := hci 1 (by omega)
      have d2 := hci 2 (by omega)
      have d3 := hci 3 (by omega)
      have d4 := hci 4 (by omega)
      have d5 := hci 5 (by omega)
      have d6 := hci 6 (by omega)
      have d7 := hci 7 (by omega)
      have d8 := hci 8 (by omega)
      have d9 := hci 9 (by omega)
      have zb := lt_of_cell d0
      simp only at zb
      clear hci
      obtain ⟨e0, he0⟩ : ∃ e, e = E i 0 := ⟨_, rfl⟩
      obtain ⟨e1, he1⟩ : ∃ e, e = E i 1 := ⟨_, rfl⟩
      obtain ⟨e2, he2⟩ : ∃ e, e = E i 2 := ⟨_, rfl⟩
      obtain ⟨e3, he3⟩ : ∃ e, e = E i 3 := ⟨_, rfl⟩
      obtain ⟨e4, he4⟩ : ∃ e, e = E i 4 := ⟨_, rfl⟩
      obtain ⟨e5, he5⟩ : ∃ e, e = E i 5 := ⟨_, rfl⟩
      obtain ⟨e6, he6⟩ : ∃ e, e = E i 6 := ⟨_, rfl⟩
      obtain ⟨e7, he7⟩ : ∃ e, e = E i 7 := ⟨_, rfl⟩
      obtain ⟨e8, he8⟩ : ∃ e, e = E i 8 := ⟨_, rfl⟩
      obtain ⟨e9, he9⟩ : ∃ e, e = E i 9 := ⟨_, rfl⟩
      obtain ⟨n0, hn0⟩ : ∃ e, e = N i 0 := ⟨_, rfl⟩
      obtain ⟨n1, hn1⟩ : ∃ e, e = N i 1 := ⟨_, rfl⟩
      rw [← he0] at d0
      rw [← he1] at d1
      rw [← he2] at d2
      rw [← he3] at d3
      rw [← he4] at d4
      rw [← he5] at d5
      rw [← he6] at d6
      rw [← he7] at d7
      rw [← he8] at d8
      rw [← he9] at d9
      rw [← hn0] at hc10
      rw [← hn1] at hc11
      have HE0 := Lib.hid he0
      have HE1 := Lib.hid he1
      have HE2 := Lib.hid he2
      have HE3 := Lib.hid he3
      have HE4 := Lib.hid he4
      have HE5 := Lib.hid he5
      have HE6 := Lib.hid he6
      have HE7 := Lib.hid he7
      have HE8 := Lib.hid he8
      have HE9 := Lib.hid he9
      have HN0 := Lib.hid hn0
      have HN1 := Lib.hid hn1
      clear he0 he1 he2 he3 he4 he5 he6 he7 he8 he9 hn0 hn1
      rw [← HE3.out] at r1 r2
      rw [← HE4.out] at r3 r4
      rw [← HE5.out] at r5 r6
      rw [← HE6.out] at r7 r8
      rw [← HE7.out] at r9 r10
      rw [← HE2.out] at HK HO
      by_cases h5 : e2 = 5
      · subst h5
        have HS := Lib.hid (HS2.out (HK.out (.inl rfl)))
        clear HK HO HS1 HS2
        go_wp2_with fail
        go_roundw
        case rel =>
          refine ⟨i + 1, by go_num, by omega, by rw [HS.out], HBP.out.alloc _, ?_⟩
          repeat' (with_reducible first | exact Below.refl _ _ | assumption | refine Below.setCell ?_ ?_ _ | refine Below.alloc ?_ ?_ _ | refine below_drewN ?_ _ | refine Below.drew ?_)
          all_goals first | omega | (simp; done) | (simp; omega)
        case measure => simp [intOf] <;> omega
      by_cases h6 : e2 = 6
      · subst h6
        have HS := Lib.hid (HS2.out (HK.out (.inr rfl)))
        clear HK HO HS1 HS2
        go_wp2_with fail
        go_roundw
        case rel =>
          refine ⟨i + 1, by go_num, by omega, by rw [HS.out], HBP.out.alloc _, ?_⟩
          repeat' (with_reducible first | exact Below.refl _ _ | assumption | refine Below.setCell ?_ ?_ _ | refine Below.alloc ?_ ?_ _ | refine below_drewN ?_ _ | refine Below.drew ?_)
          all_goals first | omega | (simp; done) | (simp; omega)
        case measure => simp [intOf] <;> omega
      have k5 : (e2 == 5) = false := by simpa using h5
      have k6 : (e2 == 6) = false := by simpa using h6
      have HH := Lib.hid (HO.out (by omega))
      clear HO HK h5 h6
      go_wp2_with fail
      obtain ⟨w2, hw2⟩ : ∃ w2, w2 = wr.alloc (Obj.cells #[.int .i64 e0, .int .i64 e1, .int .i64 e2, .int .i64 e3, .int .i64 e4, .int .i64 e5, .int .i64 e6, .int .i64 e7, .int .i64 e8, .int .i64 e9, .string n0, .string n1] 82) := ⟨_, rfl⟩
      have b2 : Blk w2 wr.heap.size #[.int .i64 e0, .int .i64 e1, .int .i64 e2, .int .i64 e3, .int .i64 e4, .int .i64 e5, .int .i64 e6, .int .i64 e7, .int .i64 e8, .int .i64 e9, .string n0, .string n1] 82 := by rw [hw2]; exact Blk.new _ _ _
      have bp2 : Blk w2 w.heap.size #[.int .i64 x, .int .i64 y] 64 := by rw [hw2]; exact HBP.out.alloc _
      have hbl2 : Below w.heap.size w w2 := by rw [hw2]; exact hbel.alloc hsz _
      rw [← hw2]
      have hsl2 : wr.heap.size < w2.heap.size := by rw [hw2]; simp
      obtain ⟨q, hq⟩ : ∃ q, q = wr.heap.size := ⟨_, rfl⟩
      have hwq : w.heap.size < q := by rw [hq]; exact zp
      rw [← hq] at b2 hsl2 ⊢
      clear hw2 hq d0 d1 d2 d3 d4 d5 d6 d7 d8 d9 hc10 hc11 zb p0 p1 zp hbel hsz HBP
      have B2 := Lib.hid b2
      have BP2 := Lib.hid bp2
      clear b2 bp2
      obtain ⟨F, hF⟩ : ∃ F, F = inG n E (x, y) n (E i 1) := ⟨_, rfl⟩
      have HF := Lib.hid hF
      have HLP := Lib.hid (show locP n E i (x, y) = turnBk (E i) F by rw [hF]; rfl)
      have HNX := Lib.hid (Par.next HALL.out hin)
      clear hF
      go_loopw [8, 9] (fun v8 v9 wr => ∃ (f : Nat) (g : Int) (L : List Nat), v9 = .int .i64 g ∧ Par n E g ∧ meas n E g ≤ f ∧ F = foldL E L (inG n E (x, y) f g) ∧ L.length + meas n E g ≤ i ∧ (∀ u ∈ L, u < n) ∧ RowL wr (w.heap.size + 1) 82 12 v8 L.length (cellsL E N L) ∧ (L = [] → v8 = .slice none 0 0) ∧ Blk wr q #[.int .i64 e0, .int .i64 e1, .int .i64 e2, .int .i64 e3, .int .i64 e4, .int .i64 e5, .int .i64 e6, .int .i64 e7, .int .i64 e8, .int .i64 e9, .string n0, .string n1] 82 ∧ Blk wr w.heap.size #[.int .i64 x, .int .i64 y] 64 ∧ Below w.heap.size w wr) (fun _ v9 _ => meas n E (intOf v9))
      case atStart => exact ⟨n, e1, [], rfl, by rw [HE1.out]; exact HNX.out.1, by rw [HE1.out]; exact Nat.le_trans HNX.out.2 (by omega), by rw [HE1.out]; exact HF.out, by rw [HE1.out]; simpa using HNX.out.2, (fun u hu => by cases hu), RowL.nil _ _ _ _, (fun _ => rfl), B2.out, BP2.out, hbl2⟩
      case round =>
        clear B2 BP2 hbl2 HF hsl2
        obtain ⟨f, g, L, rfl, hp, hm, hr, hll, hlu, hrow, hnil, hq, hbp, hbel⟩ := hrel
        have HM := Lib.hid hm
        have HR2 := Lib.hid hr
        have HLL := Lib.hid hll
        have HLU := Lib.hid hlu
        have HROW := Lib.hid hrow
        have HNIL := Lib.hid hnil
        have HQ := Lib.hid hq
        have HBP := Lib.hid hbp
        have hsz := hbel.size
        clear hm hr hll hlu hrow hnil hq hbp
        by_cases hg0 : g = 0
        · subst hg0
          have e1' := HR2.out
          rw [inG_zero] at e1'
          have HFL := Lib.hid e1'
          have hL := HLL.out
          unfold meas at hL
          rw [if_pos rfl, Nat.add_zero] at hL
          have p0 : wr.cell? ⟨w.heap.size, 0, none⟩ = some (.int .i64 x) := HBP.out.cell (i := 0) rfl
          have p1 : wr.cell? ⟨w.heap.size, 1, none⟩ = some (.int .i64 y) := HBP.out.cell (i := 1) rfl
          have zp := HBP.out.lt
          obtain ⟨al, cl, rfl, hlc, hcm⟩ := HROW.out.slice
          clear e1' HM HR2 hp HLL HNIL
          go_wp2_with fail
          obtain ⟨w3, hw3⟩ : ∃ w3, w3 = wr.alloc (Obj.cells #[.int .i64 x, .int .i64 y] 64) := ⟨_, rfl⟩
          have t3 : Blk w3 wr.heap.size #[.int .i64 x, .int .i64 y] 64 := by rw [hw3]; exact Blk.new _ _ _
          have q3 := HQ.out.alloc (Obj.cells #[.int .i64 x, .int .i64 y] 64)
          have bp3 := HBP.out.alloc (Obj.cells #[.int .i64 x, .int .i64 y] 64)
          have row3 := RowL.alloc HROW.out (Obj.cells #[.int .i64 x, .int .i64 y] 64)
          rw [← hw3] at q3 bp3 row3
          have hbl3 : Below w.heap.size w w3 := by rw [hw3]; exact hbel.alloc hsz _
          rw [← hw3]
          obtain ⟨t, hteq⟩ : ∃ t, t = wr.heap.size := ⟨_, rfl⟩
          have hqt : q < t := by rw [hteq]; exact HQ.out.lt
          have hwt : w.heap.size < t := by omega
          have hrt := RowL.blk_lt HROW.out
          rw [← hteq] at t3 hrt ⊢
          obtain ⟨nl, hnl⟩ : ∃ nl, nl = L.length := ⟨_, rfl⟩
          rw [← hnl] at hL hlc row3 ⊢
          have HNL := Lib.hid hnl
          have HRT := Lib.hid (show (Value.slice al nl cl).ownBlock ≠ some t from fun h => by have := hrt t (by rw [← hnl]; exact h); omega)
          have T3 := Lib.hid t3
          have Q3 := Lib.hid q3
          have BP3 := Lib.hid bp3
          have R3 := Lib.hid row3
          clear hw3 hteq p0 p1 zp t3 q3 bp3 row3 hrt hnl HQ HBP HROW hbel hsz
          go_loopw [49] (fun v49 wr => ∃ (j : Nat) (X Y : Int), v49 = .int .i64 j ∧ j ≤ nl ∧ F = foldL E (L.drop j) (X, Y) ∧ Blk wr t #[.int .i64 X, .int .i64 Y] 64 ∧ RowL wr (w.heap.size + 1) 82 12 (.slice al nl cl) nl (cellsL E N L) ∧ Blk wr q #[.int .i64 e0, .int .i64 e1, .int .i64 e2, .int .i64 e3, .int .i64 e4, .int .i64 e5, .int .i64 e6, .int .i64 e7, .int .i64 e8, .int .i64 e9, .string n0, .string n1] 82 ∧ Blk wr w.heap.size #[.int .i64 x, .int .i64 y] 64 ∧ Below w.heap.size w wr) (fun v49 _ => nl - (intOf v49).toNat)
          case atStart => exact ⟨0, x, y, rfl, Nat.zero_le _, HFL.out, T3.out, R3.out, Q3.out, BP3.out, hbl3⟩
          case round =>
            clear T3 Q3 BP3 R3 hbl3 HFL
            obtain ⟨j, X, Y, rfl, hj, hr, ht, hrow, hq, hbp, hbel⟩ := hrel
            have HR := Lib.hid hr
            have HTB := Lib.hid ht
            have HROW := Lib.hid hrow
            have HQ := Lib.hid hq
            have HBP := Lib.hid hbp
            have hsz := hbel.size
            clear hr ht hrow hq hbp
            by_cases hjl : j < nl
            · obtain ⟨g1, cap, hae, hgb, hgl, hnc, hcm2, hfz, hcc⟩ := RowL.at HROW.out (by omega)
              obtain ⟨rfl, rfl⟩ : al = some ⟨g1, 0, none⟩ ∧ cl = cap := by simpa using hae
              obtain ⟨u, hu⟩ : ∃ u, L[j]? = some u := ⟨L[j]'(by rw [← HNL.out]; exact hjl), List.getElem?_eq_getElem _⟩
              have HU := Lib.hid hu
              have hun : u < n := HLU.out u (List.mem_of_getElem? hu)
              have d0 : wr.cell? ⟨g1, j * 12, none⟩ = some (.int .i64 (E u 0)) := hcc _ _ (cellsL_get hu (j := 0) rfl)
              have d1 : wr.cell? ⟨g1, j * 12 + 1, none⟩ = some (.int .i64 (E u 1)) := hcc _ _ (cellsL_get hu (j := 1) rfl)
              have d2 : wr.cell? ⟨g1, j * 12 + 2, none⟩ = some (.int .i64 (E u 2)) := hcc _ _ (cellsL_get hu (j := 2) rfl)
              have d3 : wr.cell? ⟨g1, j * 12 + 3, none⟩ = some (.int .i64 (E u 3)) := hcc _ _ (cellsL_get hu (j := 3) rfl)
              have d4 : wr.cell? ⟨g1, j * 12 + 4, none⟩ = some (.int .i64 (E u 4)) := hcc _ _ (cellsL_get hu (j := 4) rfl)
              have d5 : wr.cell? ⟨g1, j * 12 + 5, none⟩ = some (.int .i64 (E u 5)) := hcc _ _ (cellsL_get hu (j := 5) rfl)
              have d6 : wr.cell? ⟨g1, j * 12 + 6, none⟩ = some (.int .i64 (E u 6)) := hcc _ _ (cellsL_get hu (j := 6) rfl)
              have d7 : wr.cell? ⟨g1, j * 12 + 7, none⟩ = some (.int .i64 (E u 7)) := hcc _ _ (cellsL_get hu (j := 7) rfl)
              have d8 : wr.cell? ⟨g1, j * 12 + 8, none⟩ = some (.int .i64 (E u 8)) := hcc _ _ (cellsL_get hu (j := 8) rfl)
              have d9 : wr.cell? ⟨g1, j * 12 + 9, none⟩ = some (.int .i64 (E u 9)) := hcc _ _ (cellsL_get hu (j := 9) rfl)
              have d10 : wr.cell? ⟨g1, j * 12 + 10, none⟩ = some (.string (N u 0)) := hcc _ _ (cellsL_get hu (j := 10) rfl)
              have d11 : wr.cell? ⟨g1, j * 12 + 11, none⟩ = some (.string (N u 1)) := hcc _ _ (cellsL_get hu (j := 11) rfl)
              clear hu hcc hfz hae
              have hu7 : 0 ≤ E u 7 ∧ E u 7 ≤ 3599 := (HALL.out u hun).2.2.1.2.2.2.2
              obtain ⟨z0, he0⟩ : ∃ e, e = E u 0 := ⟨_, rfl⟩
              obtain ⟨z1, he1⟩ : ∃ e, e = E u 1 := ⟨_, rfl⟩
              obtain ⟨z2, he2⟩ : ∃ e, e = E u 2 := ⟨_, rfl⟩
              obtain ⟨z3, he3⟩ : ∃ e, e = E u 3 := ⟨_, rfl⟩
              obtain ⟨z4, he4⟩ : ∃ e, e = E u 4 := ⟨_, rfl⟩
              obtain ⟨z5, he5⟩ : ∃ e, e = E u 5 := ⟨_, rfl⟩
              obtain ⟨z6, he6⟩ : ∃ e, e = E u 6 := ⟨_, rfl⟩
              obtain ⟨z7, he7⟩ : ∃ e, e = E u 7 := ⟨_, rfl⟩
              obtain ⟨z8, he8⟩ : ∃ e, e = E u 8 := ⟨_, rfl⟩
              obtain ⟨z9, he9⟩ : ∃ e, e = E u 9 := ⟨_, rfl⟩
              obtain ⟨s0, ht0⟩ : ∃ e, e = N u 0 := ⟨_, rfl⟩
              obtain ⟨s1, ht1⟩ : ∃ e, e = N u 1 := ⟨_, rfl⟩
              rw [← he0] at d0
              rw [← he1] at d1
              rw [← he2] at d2
              rw [← he3] at d3
              rw [← he4] at d4
              rw [← he5] at d5
              rw [← he6] at d6
              rw [← he7] at d7 hu7
              rw [← he8] at d8
              rw [← he9] at d9
              rw [← ht0] at d10
              rw [← ht1] at d11
              have HU3 := Lib.hid he3
              have HU4 := Lib.hid he4
              have HU5 := Lib.hid he5
              have HU6 := Lib.hid he6
              have HU7 := Lib.hid he7
              clear he0 he1 he2 he3 he4 he5 he6 he7 he8 he9 ht0 ht1
              go_wp2_with fail
              obtain ⟨w4, hw4⟩ : ∃ w4, w4 = wr.alloc (Obj.cells #[.int .i64 z0, .int .i64 z1, .int .i64 z2, .int .i64 z3, .int .i64 z4, .int .i64 z5, .int .i64 z6, .int .i64 z7, .int .i64 z8, .int .i64 z9, .string s0, .string s1] 82) := ⟨_, rfl⟩
              have l0 : Blk w4 wr.heap.size #[.int .i64 z0, .int .i64 z1, .int .i64 z2, .int .i64 z3, .int .i64 z4, .int .i64 z5, .int .i64 z6, .int .i64 z7, .int .i64 z8, .int .i64 z9, .string s0, .string s1] 82 := by rw [hw4]; exact Blk.new _ _ _
              have l1 := HTB.out.alloc (Obj.cells #[.int .i64 z0, .int .i64 z1, .int .i64 z2, .int .i64 z3, .int .i64 z4, .int .i64 z5, .int .i64 z6, .int .i64 z7, .int .i64 z8, .int .i64 z9, .string s0, .string s1] 82)
              have l2 := HQ.out.alloc (Obj.cells #[.int .i64 z0, .int .i64 z1, .int .i64 z2, .int .i64 z3, .int .i64 z4, .int .i64 z5, .int .i64 z6, .int .i64 z7, .int .i64 z8, .int .i64 z9, .string s0, .string s1] 82)
              have l3 := HBP.out.alloc (Obj.cells #[.int .i64 z0, .int .i64 z1, .int .i64 z2, .int .i64 z3, .int .i64 z4, .int .i64 z5, .int .i64 z6, .int .i64 z7, .int .i64 z8, .int .i64 z9, .string s0, .string s1] 82)
              have l4 := RowL.alloc HROW.out (Obj.cells #[.int .i64 z0, .int .i64 z1, .int .i64 z2, .int .i64 z3, .int .i64 z4, .int .i64 z5, .int .i64 z6, .int .i64 z7, .int .i64 z8, .int .i64 z9, .string s0, .string s1] 82)
              rw [← hw4] at l1 l2 l3 l4
              have hbl4 : Below w.heap.size w w4 := by rw [hw4]; exact hbel.alloc hsz _
              rw [← hw4]
              obtain ⟨r, hreq⟩ : ∃ r, r = wr.heap.size := ⟨_, rfl⟩
              have htr : t < r := by rw [hreq]; exact HTB.out.lt
              rw [← hreq] at l0 ⊢
              have L4 := Lib.hid l4
              have Q4 := Lib.hid l2
              have BP4 := Lib.hid l3
              clear hw4 hreq d0 d1 d2 d3 d4 d5 d6 d7 d8 d9 d10 d11 l2 l3 l4 hbel hsz HTB HQ HBP HROW hgl hgb
              have hST : ST t r X Y z0 z1 z2 z3 z4 z5 z6 z7 z8 z9 s0 s1 w4.drew := ST.of l1.drew l0.drew
              have hng : IntKind.i64.wrap (-z7) = -z7 := IntWalk.i64_in _ ⟨by omega, by omega⟩
              refine wp_region_until 7 (ST t r X Y z0 z1 z2 z3 z4 z5 z6 z7 z8 z9 s0 s1) (by kernel_rfl) hST ?_
              intro hHeld
              refine takeU [6,7] (i := 0) (oi := { dst := some 53, op := _, type := _, pos := _, after := _, guard := _ }) (d := some 53) (v := ?vvat53) rfl rfl (by kernel_rfl) (by kernel_rfl) (by kernel_rfl) (by kernel_rfl) ?ddat53 (by rfl) ?yyat53 hHeld ?rrat53
              case ddat53 => exact fun _ _ _ h => h
              case yyat53 => (intro wx hSw; obtain ⟨y0, y1, y2, y3, y4, y5, y6, y7, y8, y9, y10, y11, y12, y13⟩ := hSw; go_simp; try (with_reducible rfl))
              clear hHeld; intro hHeld
              try simp only [Act.put, List.setIfInBounds_toArray, List.set_cons_zero, List.set_cons_succ]
              refine takeU [2,6,7] (i := 1) (oi := { dst := some 54, op := _, type := _, pos := _, after := _, guard := _ }) (d := some 54) (v := ?vvat54) rfl rfl (by kernel_rfl) (by kernel_rfl) (by kernel_rfl) (by kernel_rfl) ?ddat54 (by rfl) ?yyat54 hHeld ?rrat54
              case ddat54 => exact fun _ _ _ h => h
              case yyat54 => (intro wx hSw; obtain ⟨y0, y1, y2, y3, y4, y5, y6, y7, y8, y9, y10, y11, y12, y13⟩ := hSw; go_simp; try (with_reducible rfl))
              clear hHeld; intro hHeld
              try simp only [Act.put, List.setIfInBounds_toArray, List.set_cons_zero, List.set_cons_succ]
              refine moveU (i := 3) (oi := { dst := some 56, op := _, type := _, pos := _, after := _, guard := _ }) (d := some 56) (v := ?vvat56) rfl rfl (by kernel_rfl) (by kernel_rfl) (by kernel_rfl) (by rfl) ?ddat56 (by rfl) ?yyat56 hHeld ?rrat56
              case ddat56 => exact fun _ _ _ h => h
              case yyat56 => (intro wx; go_simp; try (with_reducible rfl))
              clear hHeld; intro hHeld
              try simp only [Act.put, List.setIfInBounds_toArray, List.set_cons_zero, List.set_cons_succ]
              refine takeU [5,6,7] (i := 4) (oi := { dst := some 57, op := _, type := _, pos := _, after := _, guard := _ }) (d := some 57) (v := ?vvat57) rfl rfl (by kernel_rfl) (by kernel_rfl) (by kernel_rfl) (by kernel_rfl) ?ddat57 (by rfl) ?yyat57 hHeld ?rrat57
              case ddat57 => exact fun _ _ _ h => h
              case yyat57 => (intro wx hSw; obtain ⟨y0, y1, y2, y3, y4, y5, y6, y7, y8, y9, y10, y11, y12, y13⟩ := hSw; go_simp; try (with_reducible rfl))
              clear hHeld; intro hHeld
              try simp only [Act.put, List.setIfInBounds_toArray, List.set_cons_zero, List.set_cons_succ]
              refine moveU (i := 5) (oi := { dst := some 58, op := _, type := _, pos := _, after := _, guard := _ }) (d := some 58) (v := ?vvat58) rfl rfl (by kernel_rfl) (by kernel_rfl) (by kernel_rfl) (by rfl) ?ddat58 (by rfl) ?yyat58 hHeld ?rrat58
              case ddat58 => exact fun _ _ _ h => h
              case yyat58 => (intro wx; go_simp; try (with_reducible rfl))
              clear hHeld; intro hHeld
              try simp only [Act.put, List.setIfInBounds_toArray, List.set_cons_zero, List.set_cons_succ]
              refine wpAnyU_ready (rs := [2]) (by kernel_rfl) (by simp) ?_
              refine AllReadyU.cons (o := { dst := some 55, op := _, type := _, pos := _, after := _, guard := _ }) rfl (fun K hK => ?_) AllReadyU.nil
              go_simp
              refine (middle_any _ _ _ _ _ _ _ _ _ _ _ _ _).mono ?_
              rintro e w5 ⟨rfl, hb5⟩
              have hle4 := hbl4.size
              have k0 := l0.drew.below hb5 l0.lt
              have k1 := l1.drew.below hb5 l1.lt
              have hblA := hbl4.drew.trans (hb5.mono hle4)
              refine hK.out _ _ (fun _ => ST.of k1 k0) (fun hHeld2 => ?_)
              clear hK K
              try simp only [Act.put, List.setIfInBounds_toArray, List.set_cons_zero, List.set_cons_succ]
              refine wpAnyU_ready (rs := [6]) (by kernel_rfl) (by simp) ?_
              refine AllReadyU.cons (o := { dst := some 59, op := _, type := _, pos := _, after := _, guard := _ }) rfl (fun K hK => ?_) AllReadyU.nil
              go_simp
              refine (turnPoint_any _ _ _ _ _ _ (by omega) (HT.out.below (Nat.le_refl _) hblA)).mono ?_
              rintro e w6 ⟨rfl, hb6⟩
              obtain ⟨X2, hX2⟩ : ∃ z, z = turnX X Y (wrap64 (wrap64 (2 * z3) + z5)) (wrap64 (wrap64 (2 * z4) + z6)) (-z7) := ⟨_, rfl⟩
              obtain ⟨Y2, hY2⟩ : ∃ z, z = turnY X Y (wrap64 (wrap64 (2 * z3) + z5)) (wrap64 (wrap64 (2 * z4) + z6)) (-z7) := ⟨_, rfl⟩
              rw [← hX2, ← hY2]
              have HX2 := Lib.hid hX2
              have HY2 := Lib.hid hY2
              clear hX2 hY2
              have k2 := k0.below hb6 k0.lt
              have k3 := k1.below hb6 k1.lt
              have hblB := hblA.trans (hb6.mono hblA.size)
              refine hK.out _ _ (fun _ => ST.of k3 k2) (fun hHeld3 => ?_)
              clear hK K
              try simp only [Act.put, List.setIfInBounds_toArray, List.set_cons_zero, List.set_cons_succ]
              have y0 : w6.cell? ⟨t, 0, none⟩ = some (.int .i64 X) := k3.cell (i := 0) rfl
              have y1 : w6.cell? ⟨t, 1, none⟩ = some (.int .i64 Y) := k3.cell (i := 1) rfl
              have yf := k3.frozen
              have yl := k3.lt
              refine wpAnyU_ready (rs := [7]) (by kernel_rfl) (by simp) ?_
              refine AllReadyU.cons (o := { dst := none, op := _, type := _, pos := _, after := _, guard := _ }) rfl (fun K hK => ?_) AllReadyU.nil
              go_simp
              refine hK.out _ _ (fun h => absurd h (by decide)) (fun hHeld4 => ?_)
              clear hK K
              try simp only [Act.put, List.setIfInBounds_toArray, List.set_cons_zero, List.set_cons_succ]
              refine wpAnyU_done (by kernel_rfl) ?_ _
              have m1 := (k3.set 0 (.int .i64 X2)).set 1 (.int .i64 Y2)
              simp only [List.setIfInBounds_toArray, List.set_cons_zero, List.set_cons_succ] at m1
              have m0 := (k2.other (a := ⟨t, 0, none⟩) (show r ≠ t by omega) (.int .i64 X2)).other (a := ⟨t, 1, none⟩) (show r ≠ t by omega) (.int .i64 Y2)
              have hblC := (hblB.setCell (p := ⟨t, 0, none⟩) (show w.heap.size ≤ t by omega) (.int .i64 X2)).setCell (p := ⟨t, 1, none⟩) (show w.heap.size ≤ t by omega) (.int .i64 Y2)
              clear hST hng hHeld hHeld2 hHeld3 hHeld4 y0 y1 yf yl k0 k1 k2 k3 hblA hblB l0 l1
              have l7 := RowL.other (a := ⟨t, 1, none⟩) (RowL.other (a := ⟨t, 0, none⟩) (RowL.below (RowL.below (RowL.drew L4.out) hb5 (Nat.le_refl _)) hb6 (Nat.le_refl _)) HRT.out (.int .i64 X2)) HRT.out (.int .i64 Y2)
              have q7 := (((Q4.out.drew.below hb5 Q4.out.lt).below hb6 (by have := Q4.out.lt; have := hb5.size; simp at this; omega)).other (a := ⟨t, 0, none⟩) (show q ≠ t by omega) (.int .i64 X2)).other (a := ⟨t, 1, none⟩) (show q ≠ t by omega) (.int .i64 Y2)
              have bp7 := (((BP4.out.drew.below hb5 BP4.out.lt).below hb6 (by have := BP4.out.lt; have := hb5.size; simp at this; omega)).other (a := ⟨t, 0, none⟩) (show w.heap.size ≠ t by omega) (.int .i64 X2)).other (a := ⟨t, 1, none⟩) (show w.heap.size ≠ t by omega) (.int .i64 Y2)
              have HSI := Lib.hid (show stepIn (E u) (X, Y) = (wrap64 (X2 - z3), wrap64 (Y2 - z4)) by
                rw [HX2.out, HY2.out, HU3.out, HU4.out, HU5.out, HU6.out, HU7.out]; rfl)
              have HR2 := Lib.hid (show F = foldL E (L.drop (j + 1)) (wrap64 (X2 - z3), wrap64 (Y2 - z4)) by rw [HR.out, foldL_drop HU.out, HSI.out])
              obtain ⟨w7, hw7⟩ : ∃ w7, w7 = (w6.setCell ⟨t, 0, none⟩ (.int .i64 X2)).setCell ⟨t, 1, none⟩ (.int .i64 Y2) := ⟨_, rfl⟩
              rw [← hw7] at l7 q7 bp7 m0 m1 hblC ⊢
              clear hb5 hb6 hw7 HSI HR HX2 HY2 L4 Q4 BP4 HU3 HU4 HU5 HU6 HU7 HU
              have y0 : w7.cell? ⟨t, 0, none⟩ = some (.int .i64 X2) := m1.cell (i := 0) rfl
              have y1 : w7.cell? ⟨t, 1, none⟩ = some (.int .i64 Y2) := m1.cell (i := 1) rfl
              have y3 : w7.cell? ⟨r, 3, none⟩ = some (.int .i64 z3) := m0.cell (i := 3) rfl
              have y4 : w7.cell? ⟨r, 4, none⟩ = some (.int .i64 z4) := m0.cell (i := 4) rfl
              have yf := m1.frozen
              have yl := m1.lt
              have yl0 := m0.lt
              have L7 := Lib.hid l7
              have Q7 := Lib.hid q7
              have BP7 := Lib.hid bp7
              have M1 := Lib.hid m1
              have HB7 := Lib.hid hblC
              clear l7 q7 bp7 m1 m0 hblC
              go_wp2_with fail
              go_roundw
              case rel =>
                have m2 := (M1.out.set 0 (.int .i64 (wrap64 (X2 - z3)))).set 1 (.int .i64 (wrap64 (Y2 - z4)))
                simp only [List.setIfInBounds_toArray, List.set_cons_zero, List.set_cons_succ] at m2
                refine ⟨j + 1, _, _, by go_num, by omega, HR2.out, m2, RowL.other (a := ⟨t, 1, none⟩) (RowL.other (a := ⟨t, 0, none⟩) L7.out HRT.out _) HRT.out _, (Q7.out.other (a := ⟨t, 0, none⟩) (show q ≠ t by omega) _).other (a := ⟨t, 1, none⟩) (show q ≠ t by omega) _, (BP7.out.other (a := ⟨t, 0, none⟩) (show w.heap.size ≠ t by omega) _).other (a := ⟨t, 1, none⟩) (show w.heap.size ≠ t by omega) _, ?_⟩
                exact (HB7.out.setCell (p := ⟨t, 0, none⟩) (show w.heap.size ≤ t by omega) _).setCell (p := ⟨t, 1, none⟩) (show w.heap.size ≤ t by omega) _
              case measure => simp [intOf]; omega
            · obtain rfl : j = nl := by omega
              have HFE := Lib.hid (show F = (X, Y) by
                have h := HR.out
                rw [HNL.out, List.drop_length] at h
                exact h)
              clear HR HROW HRT HLU
              have l0 := HQ.out
              have l1 := HTB.out
              clear HQ HTB
              have hq0 := l0.lt
              have ht0 := l1.lt
              go_wp2_with fail
              have hST : ST t q X Y e0 e1 e2 e3 e4 e5 e6 e7 e8 e9 n0 n1 wr.drew := ST.of l1.drew l0.drew
              have hng : IntKind.i64.wrap (-e7) = -e7 := IntWalk.i64_in _ ⟨by omega, by omega⟩
              refine wp_region_until 7 (ST t q X Y e0 e1 e2 e3 e4 e5 e6 e7 e8 e9 n0 n1) (by kernel_rfl) hST ?_
              intro hHeld
              refine takeU [6,7] (i := 0) (oi := { dst := some 72, op := _, type := _, pos := _, after := _, guard := _ }) (d := some 72) (v := ?vvft72) rfl rfl (by kernel_rfl) (by kernel_rfl) (by kernel_rfl) (by kernel_rfl) ?ddft72 (by rfl) ?yyft72 hHeld ?rrft72
              case ddft72 => exact fun _ _ _ h => h
              case yyft72 => (intro wx hSw; obtain ⟨y0, y1, y2, y3, y4, y5, y6, y7, y8, y9, y10, y11, y12, y13⟩ := hSw; go_simp; try (with_reducible rfl))
              clear hHeld; intro hHeld
              try simp only [Act.put, List.setIfInBounds_toArray, List.set_cons_zero, List.set_cons_succ]
              refine takeU [2,6,7] (i := 1) (oi := { dst := some 73, op := _, type := _, pos := _, after := _, guard := _ }) (d := some 73) (v := ?vvft73) rfl rfl (by kernel_rfl) (by kernel_rfl) (by kernel_rfl) (by kernel_rfl) ?ddft73 (by rfl) ?yyft73 hHeld ?rrft73
              case ddft73 => exact fun _ _ _ h => h
              case yyft73 => (intro wx hSw; obtain ⟨y0, y1, y2, y3, y4, y5, y6, y7, y8, y9, y10, y11, y12, y13⟩ := hSw; go_simp; try (with_reducible rfl))
              clear hHeld; intro hHeld
              try simp only [Act.put, List.setIfInBounds_toArray, List.set_cons_zero, List.set_cons_succ]
              refine moveU (i := 3) (oi := { dst := some 75, op := _, type := _, pos := _, after := _, guard := _ }) (d := some 75) (v := ?vvft75) rfl rfl (by kernel_rfl) (by kernel_rfl) (by kernel_rfl) (by rfl) ?ddft75 (by rfl) ?yyft75 hHeld ?rrft75
              case ddft75 => exact fun _ _ _ h => h
              case yyft75 => (intro wx; go_simp; try (with_reducible rfl))
              clear hHeld; intro hHeld
              try simp only [Act.put, List.setIfInBounds_toArray, List.set_cons_zero, List.set_cons_succ]
              refine takeU [5,6,7] (i := 4) (oi := { dst := some 76, op := _, type := _, pos := _, after := _, guard := _ }) (d := some 76) (v := ?vvft76) rfl rfl (by kernel_rfl) (by kernel_rfl) (by kernel_rfl) (by kernel_rfl) ?ddft76 (by rfl) ?yyft76 hHeld ?rrft76
              case ddft76 => exact fun _ _ _ h => h
              case yyft76 => (intro wx hSw; obtain ⟨y0, y1, y2, y3, y4, y5, y6, y7, y8, y9, y10, y11, y12, y13⟩ := hSw; go_simp; try (with_reducible rfl))
              clear hHeld; intro hHeld
              try simp only [Act.put, List.setIfInBounds_toArray, List.set_cons_zero, List.set_cons_succ]
              refine moveU (i := 5) (oi := { dst := some 77, op := _, type := _, pos := _, after := _, guard := _ }) (d := some 77) (v := ?vvft77) rfl rfl (by kernel_rfl) (by kernel_rfl) (by kernel_rfl) (by rfl) ?ddft77 (by rfl) ?yyft77 hHeld ?rrft77
              case ddft77 => exact fun _ _ _ h => h
              case yyft77 => (intro wx; go_simp; try (with_reducible rfl))
              clear hHeld; intro hHeld
              try simp only [Act.put, List.setIfInBounds_toArray, List.set_cons_zero, List.set_cons_succ]
              refine wpAnyU_ready (rs := [2]) (by kernel_rfl) (by simp) ?_
              refine AllReadyU.cons (o := { dst := some 74, op := _, type := _, pos := _, after := _, guard := _ }) rfl (fun K hK => ?_) AllReadyU.nil
              go_simp
              refine (middle_any _ _ _ _ _ _ _ _ _ _ _ _ _).mono ?_
              rintro e w5 ⟨rfl, hb5⟩
              have hle4 := hbel.size
              have k0 := l0.drew.below hb5 l0.lt
              have k1 := l1.drew.below hb5 l1.lt
              have hblA := hbel.drew.trans (hb5.mono hle4)
              refine hK.out _ _ (fun _ => ST.of k1 k0) (fun hHeld2 => ?_)
              clear hK K
              try simp only [Act.put, List.setIfInBounds_toArray, List.set_cons_zero, List.set_cons_succ]
              refine wpAnyU_ready (rs := [6]) (by kernel_rfl) (by simp) ?_
              refine AllReadyU.cons (o := { dst := some 78, op := _, type := _, pos := _, after := _, guard := _ }) rfl (fun K hK => ?_) AllReadyU.nil
              go_simp
              refine (turnPoint_any _ _ _ _ _ _ (by omega) (HT.out.below (Nat.le_refl _) hblA)).mono ?_
              rintro e w6 ⟨rfl, hb6⟩
              obtain ⟨X2, hX2⟩ : ∃ z, z = turnX X Y (wrap64 (wrap64 (2 * e3) + e5)) (wrap64 (wrap64 (2 * e4) + e6)) (-e7) := ⟨_, rfl⟩
              obtain ⟨Y2, hY2⟩ : ∃ z, z = turnY X Y (wrap64 (wrap64 (2 * e3) + e5)) (wrap64 (wrap64 (2 * e4) + e6)) (-e7) := ⟨_, rfl⟩
              rw [← hX2, ← hY2]
              have HX2 := Lib.hid hX2
              have HY2 := Lib.hid hY2
              clear hX2 hY2
              have k2 := k0.below hb6 k0.lt
              have k3 := k1.below hb6 k1.lt
              have hblB := hblA.trans (hb6.mono hblA.size)
              refine hK.out _ _ (fun _ => ST.of k3 k2) (fun hHeld3 => ?_)
              clear hK K
              try simp only [Act.put, List.setIfInBounds_toArray, List.set_cons_zero, List.set_cons_succ]
              have y0 : w6.cell? ⟨t, 0, none⟩ = some (.int .i64 X) := k3.cell (i := 0) rfl
              have y1 : w6.cell? ⟨t, 1, none⟩ = some (.int .i64 Y) := k3.cell (i := 1) rfl
              have yf := k3.frozen
              have yl := k3.lt
              refine wpAnyU_ready (rs := [7]) (by kernel_rfl) (by simp) ?_
              refine AllReadyU.cons (o := { dst := none, op := _, type := _, pos := _, after := _, guard := _ }) rfl (fun K hK => ?_) AllReadyU.nil
              go_simp
              refine hK.out _ _ (fun h => absurd h (by decide)) (fun hHeld4 => ?_)
              clear hK K
              try simp only [Act.put, List.setIfInBounds_toArray, List.set_cons_zero, List.set_cons_succ]
              refine wpAnyU_done (by kernel_rfl) ?_ _
              have m1 := (k3.set 0 (.int .i64 X2)).set 1 (.int .i64 Y2)
              simp only [List.setIfInBounds_toArray, List.set_cons_zero, List.set_cons_succ] at m1
              have m0 := (k2.other (a := ⟨t, 0, none⟩) (show q ≠ t by omega) (.int .i64 X2)).other (a := ⟨t, 1, none⟩) (show q ≠ t by omega) (.int .i64 Y2)
              have hblC := (hblB.setCell (p := ⟨t, 0, none⟩) (show w.heap.size ≤ t by omega) (.int .i64 X2)).setCell (p := ⟨t, 1, none⟩) (show w.heap.size ≤ t by omega) (.int .i64 Y2)
              clear hST hng hHeld hHeld2 hHeld3 hHeld4 y0 y1 yf yl k0 k1 k2 k3 hblA hblB l0 l1
              have bp7 := (((HBP.out.drew.below hb5 HBP.out.lt).below hb6 (by have := HBP.out.lt; have := hb5.size; simp at this; omega)).other (a := ⟨t, 0, none⟩) (show w.heap.size ≠ t by omega) (.int .i64 X2)).other (a := ⟨t, 1, none⟩) (show w.heap.size ≠ t by omega) (.int .i64 Y2)
              have HLQ := Lib.hid (show locP n E i (x, y) = (X2, Y2) by
                rw [HLP.out, HFE.out, HX2.out, HY2.out, HE3.out, HE4.out, HE5.out, HE6.out, HE7.out]; rfl)
              obtain ⟨w7, hw7⟩ : ∃ w7, w7 = (w6.setCell ⟨t, 0, none⟩ (.int .i64 X2)).setCell ⟨t, 1, none⟩ (.int .i64 Y2) := ⟨_, rfl⟩
              rw [← hw7] at bp7 m0 m1 hblC ⊢
              clear hb5 hb6 hw7 HX2 HY2 HBP HLP HFE hsz
              have y0 : w7.cell? ⟨t, 0, none⟩ = some (.int .i64 X2) := m1.cell (i := 0) rfl
              have y1 : w7.cell? ⟨t, 1, none⟩ = some (.int .i64 Y2) := m1.cell (i := 1) rfl
              have x0 : w7.cell? ⟨q, 0, none⟩ = some (.int .i64 e0) := m0.cell (i := 0) rfl
              have x2 : w7.cell? ⟨q, 2, none⟩ = some (.int .i64 e2) := m0.cell (i := 2) rfl
              have x3 : w7.cell? ⟨q, 3, none⟩ = some (.int .i64 e3) := m0.cell (i := 3) rfl
              have x4 : w7.cell? ⟨q, 4, none⟩ = some (.int .i64 e4) := m0.cell (i := 4) rfl
              have x5 : w7.cell? ⟨q, 5, none⟩ = some (.int .i64 e5) := m0.cell (i := 5) rfl
              have x6 : w7.cell? ⟨q, 6, none⟩ = some (.int .i64 e6) := m0.cell (i := 6) rfl
              have zl := m0.lt
              have yl := m1.lt
              have BP7 := Lib.hid bp7
              have HB7 := Lib.hid hblC
              clear bp7 m0 m1 hblC
              have HEB := Lib.hid (show hits n E (x, y) i = insB (E i) (X2, Y2) from by rw [HH.out, HLQ.out])
              clear HH HLQ
              cases j1 : inB X2 e3 (e3 + e5)
              · have HZ := Lib.hid (HS2.out (HEB.out.trans (insB_out (by
                  intro h
                  unfold boxB at h
                  simp only at h
                  rw [← HE3.out, ← HE5.out] at h
                  exact absurd (inB_true.2 h.1) (by rw [j1]; simp))))) 
                clear HS1 HS2 HEB
                go_wp2_with (go_at_call 27; refine (in_any _ _ _ _).mono ?_; rintro e w9 ⟨rfl, rfl⟩)
                go_roundw
                case rel => exact ⟨i + 1, by go_num, by omega, by rw [HZ.out], BP7.out, HB7.out⟩
                case measure => simp [intOf] <;> omega
              cases j2 : inB Y2 e4 (e4 + e6)
              · have HZ := Lib.hid (HS2.out (HEB.out.trans (insB_out (by
                  intro h
                  unfold boxB at h
                  simp only at h
                  rw [← HE4.out, ← HE6.out] at h
                  exact absurd (inB_true.2 h.2) (by rw [j2]; simp)))))
                clear HS1 HS2 HEB
                go_wp2_with (go_at_call 27; refine (in_any _ _ _ _).mono ?_; rintro e w9 ⟨rfl, rfl⟩)
                go_roundw
                case rel => exact ⟨i + 1, by go_num, by omega, by rw [HZ.out], BP7.out, HB7.out⟩
                case measure => simp [intOf] <;> omega
              have bx := inB_true.1 j1
              have b_y := inB_true.1 j2
              have HBX := Lib.hid (show boxB (E i) X2 Y2 by unfold boxB; rw [← HE3.out, ← HE4.out, ← HE5.out, ← HE6.out]; exact ⟨bx, b_y⟩)
              by_cases ho : e2 = 1 ∧ 0 < e5 ∧ 0 < e6
              · obtain ⟨rfl, o5, o6⟩ := ho
                have HOV := Lib.hid (HEB.out.trans (insB_oval HBX.out (by unfold ovalB; rw [← HE2.out, ← HE5.out, ← HE6.out]; exact ⟨rfl, o5, o6⟩)))
                clear HEB HBX
                obtain ⟨U, hU⟩ : ∃ U, U = ovU X2 e3 e5 := ⟨_, rfl⟩
                obtain ⟨V, hV⟩ : ∃ V, V = ovU Y2 e4 e6 := ⟨_, rfl⟩
                have HD := Lib.hid (show hits n E (x, y) i = decide (wrap64 (wrap64 (U * U) + wrap64 (V * V)) ≤ 1048576) by rw [HOV.out, hU, hV, HE3.out, HE4.out, HE5.out, HE6.out])
                have HU := Lib.hid (show rnd (1024 * (2 * X2 - 2 * e3 - e5)) e5 = U from hU.symm)
                have HV := Lib.hid (show rnd (1024 * (2 * Y2 - 2 * e4 - e6)) e6 = V from hV.symm)
                clear hU hV HOV
                obtain ⟨bx1, bx2⟩ := bx
                obtain ⟨by1, by2⟩ := b_y
                go_wp2_with (go_at_call 27; refine (in_any _ _ _ _).mono ?_; rintro e w9 ⟨rfl, rfl⟩)
                have a1 : IntKind.i64.wrap (2 * X2) = 2 * X2 := IntWalk.i64_in _ ⟨by omega, by omega⟩
                have a2 : IntKind.i64.wrap (2 * e3) = 2 * e3 := IntWalk.i64_in _ ⟨by omega, by omega⟩
                have a3 : IntKind.i64.wrap (2 * X2 - 2 * e3) = 2 * X2 - 2 * e3 := IntWalk.i64_in _ ⟨by omega, by omega⟩
                have a4 : IntKind.i64.wrap (2 * X2 - 2 * e3 - e5) = 2 * X2 - 2 * e3 - e5 := IntWalk.i64_in _ ⟨by omega, by omega⟩
                have a5 : IntKind.i64.wrap (1024 * (2 * X2 - 2 * e3 - e5)) = 1024 * (2 * X2 - 2 * e3 - e5) := IntWalk.i64_in _ ⟨by omega, by omega⟩
                have c1 : IntKind.i64.wrap (2 * Y2) = 2 * Y2 := IntWalk.i64_in _ ⟨by omega, by omega⟩
                have c2 : IntKind.i64.wrap (2 * e4) = 2 * e4 := IntWalk.i64_in _ ⟨by omega, by omega⟩
                have c3 : IntKind.i64.wrap (2 * Y2 - 2 * e4) = 2 * Y2 - 2 * e4 := IntWalk.i64_in _ ⟨by omega, by omega⟩
                have c4 : IntKind.i64.wrap (2 * Y2 - 2 * e4 - e6) = 2 * Y2 - 2 * e4 - e6 := IntWalk.i64_in _ ⟨by omega, by omega⟩
                have c5 : IntKind.i64.wrap (1024 * (2 * Y2 - 2 * e4 - e6)) = 1024 * (2 * Y2 - 2 * e4 - e6) := IntWalk.i64_in _ ⟨by omega, by omega⟩
                go_quiet ((go_at_call 57; exact quiet_call (near_any _ _ _ (by omega))))
                clear a1 a2 a3 a4 a5 c1 c2 c3 c4 c5 x2 x3 x4 x5 x6 y0 y1 yl
                obtain ⟨w8, hw8⟩ : ∃ w8, w8 = w7.drewN nq := ⟨_, rfl⟩
                rw [← hw8]
                have x8 : w8.cell? ⟨q, 0, none⟩ = some (.int .i64 e0) := by rw [hw8]; exact x0
                have zl8 : q < w8.heap.size := by rw [hw8]; exact zl
                have bp8 := BP7.out.drewN nq
                have hb8 := below_drewN HB7.out nq
                rw [← hw8] at bp8 hb8
                clear hw8
                rw [HU.out, HV.out]
                have BP8 := Lib.hid bp8
                have HB8 := Lib.hid hb8
                clear HU HV x0 zl bp8 hb8 BP7 HB7 bx1 bx2 by1 by2 j1 j2
                by_cases hgt : 1048576 < wrap64 (wrap64 (U * U) + wrap64 (V * V))
                · have HZ := Lib.hid (HS2.out (by rw [HD.out, decide_eq_false_iff_not]; omega))
                  clear HS1 HS2 HD
                  go_wp2_with fail
                  go_roundw
                  case rel => exact ⟨i + 1, by go_num, by omega, by rw [HZ.out], BP8.out, HB8.out⟩
                  case measure => simp [intOf] <;> omega
                · have HZ := Lib.hid (HS1.out (by rw [HD.out, decide_eq_true_iff]; omega))
                  clear HS1 HS2 HD
                  go_wp2_with fail
                  go_roundw
                  case rel => exact ⟨i + 1, by go_num, by omega, by rw [HZ.out, ← HE0.out], BP8.out, HB8.out⟩
                  case measure => simp [intOf] <;> omega
              · have HZ := Lib.hid (HS1.out (HEB.out.trans (insB_box HBX.out (by unfold ovalB; rw [← HE2.out, ← HE5.out, ← HE6.out]; exact ho))))
                clear HS1 HS2 HEB HBX bx b_y
                by_cases o1 : e2 = 1
                · subst o1
                  by_cases o5 : 0 < e5
                  · have o6 : ¬ 0 < e6 := fun h => ho ⟨rfl, o5, h⟩
                    clear ho
                    go_wp2_with (go_at_call 27; refine (in_any _ _ _ _).mono ?_; rintro e w9 ⟨rfl, rfl⟩)
                    go_roundw
                    case rel => exact ⟨i + 1, by go_num, by omega, by rw [HZ.out, ← HE0.out], BP7.out, HB7.out⟩
                    case measure => simp [intOf] <;> omega
                  · clear ho
                    go_wp2_with (go_at_call 27; refine (in_any _ _ _ _).mono ?_; rintro e w9 ⟨rfl, rfl⟩)
                    go_roundw
                    case rel => exact ⟨i + 1, by go_num, by omega, by rw [HZ.out, ← HE0.out], BP7.out, HB7.out⟩
                    case measure => simp [intOf] <;> omega
                · have o1' : (e2 == 1) = false := by simpa using o1
                  clear ho
                  go_wp2_with (go_at_call 27; refine (in_any _ _ _ _).mono ?_; rintro e w9 ⟨rfl, rfl⟩)
                  go_roundw
                  case rel => exact ⟨i + 1, by go_num, by omega, by rw [HZ.out, ← HE0.out], BP7.out, HB7.out⟩
                  case measure => simp [intOf] <;> omega
        · rcases hp with hp | ⟨u, hun, hfu⟩
          · exact absurd hp hg0
          obtain ⟨f', hf'⟩ : ∃ f', f = f' + 1 := by
            have := HM.out
            unfold meas at this
            rw [if_neg hg0] at this
            exact ⟨f - 1, by omega⟩
          subst hf'
          have hmg : meas n E g = u + 1 := by unfold meas; rw [if_neg hg0, hfu]; rfl
          have HM1 := Lib.hid (show u ≤ f' ∧ meas n E g = u + 1 by
            have := HM.out
            omega)
          have hL20 : L.length + (u + 1) ≤ i := by have := HLL.out; omega
          have HR3 := Lib.hid (HR2.out.trans (by rw [inG_step hg0 hfu]))
          have HNU := Lib.hid (Par.next HALL.out hun)
          have HFU := Lib.hid hfu
          clear HM HR2 hfu hmg HLL
          obtain ⟨NL, hNL⟩ : ∃ m : Nat, m = L.length := ⟨_, rfl⟩
          go_wp2_with fail
          refine (shapeAt_any n E N g _ c wr (HA.out.below (Nat.le_refl _) hbel) (by omega)).mono ?_
          rintro e w3 ⟨rfl, hb3⟩
          rw [HFU.out]
          have hbel3 := hbel.trans (hb3.mono hsz)
          have q3 := HQ.out.below hb3 HQ.out.lt
          have bp3 := HBP.out.below hb3 HBP.out.lt
          have row3 := RowL.below HROW.out hb3 (Nat.le_refl _)
          obtain ⟨b2, off2, hbe, hcellG⟩ := HA.out.below (Nat.le_refl _) hbel3 (by omega)
          obtain ⟨rfl, rfl⟩ : b = b2 ∧ off = off2 := by simpa using hbe
          obtain ⟨hci, hc10, hc11⟩ := hcellG u hun
          clear hcellG hbe
          have d0 := hci 0 (by omega)
          rw [Nat.add_zero] at d0
          have d1 := hci 1 (by omega)
          have d2 := hci 2 (by omega)
          have d3 := hci 3 (by omega)
          have d4 := hci 4 (by omega)
          have d5 := hci 5 (by omega)
          have d6 := hci 6 (by omega)
          have d7 := hci 7 (by omega)
          have d8 := hci 8 (by omega)
          have d9 := hci 9 (by omega)
          have zb := lt_of_cell d0
          simp only at zb
          have Q3 := Lib.hid q3
          have BP3 := Lib.hid bp3
          have R3 := Lib.hid row3
          have hsz3 := hbel3.size
          have hw3 : w.heap.size < w3.heap.size := bp3.lt
          clear hci q3 bp3 row3 HROW HQ HBP hb3
          cases L with
          | nil =>
            have hv := HNIL.out rfl
            subst hv
            go_wp2_with fail
            go_roundw
            case rel =>
              have hone := RowL.one (w := w3.alloc (Obj.cells (shC E N u).toArray 82)) (base := w.heap.size + 1) (e := 82) (cs := shC E N u) (s := 12) rfl (by simp; omega)
              rw [World.size_alloc] at hone
              refine ⟨f', E u 1, [u], rfl, HNU.out.1, Nat.le_trans HNU.out.2 HM1.out.1, HR3.out, ?_, fun v hv => by simp at hv; omega, hone, (fun h => by cases h), (Q3.out.alloc _).alloc _, (BP3.out.alloc _).alloc _, ?_⟩
              · have := HNU.out.2
                simp at hL20 ⊢; omega
              · repeat' (with_reducible first | exact Below.refl _ _ | assumption | refine Below.setCell ?_ ?_ _ | refine Below.alloc ?_ ?_ _ | refine below_drewN ?_ _ | refine Below.drew ?_)
                all_goals first | omega | (simp; done) | (simp; omega)
            case measure =>
              have h1 := HNU.out.2
              have h2 := HM1.out.2
              simp [intOf]
              omega
          | cons u0 L0 =>
            obtain ⟨g1, cap, rfl, hgb, hgl, hnc, hcm, hfz, hcc⟩ := RowL.at R3.out (by simp)
            have HCC := Lib.hid hcc
            have HFZ := Lib.hid hfz
            obtain ⟨M, hM⟩ : ∃ M, M = u0 :: L0 := ⟨_, rfl⟩
            rw [← hM] at hnc hL20 HLU HR3 HCC R3 ⊢
            have HME := Lib.hid (show M ≠ [] by rw [hM]; simp)
            clear hcc hfz HNIL hM hNL
            obtain ⟨ii, hii, hz0, hz1, hz2⟩ := info_parts HIN.out
            obtain ⟨nl, hnl⟩ : ∃ nl, nl = M.length := ⟨_, rfl⟩
            rw [← hnl] at hnc hL20 R3 ⊢
            have HNL := Lib.hid hnl
            clear hnl
            go_wp2_with (at_builtin; go_loud (refine wpList_append_own _ rfl _ _ 51 rfl (w.heap.size + 1) 82 ii _ 12 112 Tryd.underlying51 hii hz0 hz1 hz2 rfl (by decide) _ 1 (shC E N u) rfl ?hone ⟨g1, 0, none⟩ nl cap (cellsL E N M) rfl ?hlen ?hnews ?h1 ?h63 ?hby ?hba ?_))
            case hone =>
              have h := RowL.one (w := w3.alloc (Obj.cells (shC E N u).toArray 82)) (base := w.heap.size + 1) (e := 82) (cs := shC E N u) (s := 12) rfl (by simp; omega)
              rw [World.size_alloc] at h
              exact h
            case hlen => rw [cellsL_len, HNL.out]
            case hnews =>
              intro j v hj
              have hv := HCC.out j v hj
              have e : Addr.add ⟨g1, 0, none⟩ j = ⟨g1, j, none⟩ := by simp [Addr.add]; omega
              rw [e]
              exact (((Below.refl _ w3).alloc (Nat.le_refl _) _).alloc (by simp) _ |>.cell (B := w3.heap.size) (p := ⟨g1, j, none⟩) hgl).trans hv
            case h1 => exact cellsL_one
            case h63 => unfold maxLen; omega
            case hby => omega
            case hba => simp; omega
            intro v' w5 hown hgrow hx
            have hb5 : Below (w3.heap.size + 1) (w3.alloc (Obj.cells (shC E N u).toArray 82)) w5 := Below.grown (B := w3.heap.size + 1) (a := w3.alloc (Obj.cells (shC E N u).toArray 82)) ((Below.refl _ _).alloc (by simp) _) hgrow (by simp) (fun k hk => by simp [Value.ownBlock] at hk; omega)
            have hbel5 : Below w.heap.size w w5 := (hbel3.alloc hsz3 _).trans (hb5.mono (by omega))
            have t5 := (Blk.new w3 (shC E N u).toArray 82).below hb5 (by omega)
            have Q5 := Lib.hid ((Q3.out.alloc (Obj.cells (shC E N u).toArray 82)).below hb5 (by have := Q3.out.lt; omega))
            have BP5 := Lib.hid ((BP3.out.alloc (Obj.cells (shC E N u).toArray 82)).below hb5 (by omega))
            have c1 : w5.cell? ⟨w3.heap.size, 1, none⟩ = some (.int .i64 (E u 1)) := t5.cell (i := 1) rfl
            have zt := t5.lt
            have HOWN := Lib.hid hown
            have HBL5 := Lib.hid hbel5
            clear hown hgrow hx hb5 hbel5 t5 d0 d1 d2 d3 d4 d5 d6 d7 d8 d9 hc10 hc11 R3 Q3 BP3 HCC HFZ
            go_wp2_with fail
            go_roundw
            case rel =>
              refine ⟨f', E u 1, u :: M, rfl, HNU.out.1, Nat.le_trans HNU.out.2 HM1.out.1, HR3.out, ?_, fun v hv => ?_, ?_, (fun h => by cases h), Q5.out, BP5.out, HBL5.out⟩
              · have h1 := HNU.out.2
                have h2 := HNL.out
                simp only [List.length_cons]; omega
              · rcases List.mem_cons.1 hv with rfl | hv
                · exact hun
                · exact HLU.out v hv
              · have h := HOWN.out
                rw [HNL.out] at h
                rw [List.length_cons, show M.length + 1 = 1 + M.length by omega]
                exact h
            case measure =>
              have h1 := HNU.out.2
              have h2 := HM1.out.2
              simp [intOf]
              omega
    · obtain rfl : i = n := by omega
      go_wp2_with fail
      go_ret
      exact ⟨rfl, hbel⟩
end Go.Proofs.YtnigebnibikolaaDoor.ShT
