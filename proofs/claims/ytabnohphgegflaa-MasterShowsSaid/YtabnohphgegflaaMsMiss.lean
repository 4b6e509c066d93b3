


/-
  Places that are not used.
-/
import Derived.Test.YtabnohphgegflaaMsIn
import Derived.Test.YtabnohphgegflaaMsMap
import Derived.Test.YtabnohphgegflaaShCheck
import Derived.Test.YtabnohphgegflaaSteps
namespace Go.Proofs.Ytabnohphgegflaa.MS
open Go.RowKit Go.Law Go.Law.Sh Go.Law.Ms ShT
set_option linter.unusedVariables false
set_option linter.unusedSimpArgs false
set_option maxRecDepth 100000
set_option maxHeartbeats 2000000 in
theorem miss_bad1 (n1 n2 : Nat) (E1 E2 : Nat → Nat → Int) (N1 N2 : Nat → Nat → ByteArray) (a1 a2 : Option Addr) (c1 c2 : Nat) (w : World) (h1 : ShF w a1 n1 E1 N1) (hn : n1 ≤ 1000000000000000000 ∧ n1 ≤ c1) (he : shE n1 E1 ≠ 0) :
    Calls Try.prog 7 #[.slice a1 n1 c1, .slice a2 n2 c2] w fun e w' => e = .returned (.tuple #[.slice none 0 0, .int .i64 (shE n1 E1)]) ∧ Below w.heap.size w w' := by
  obtain ⟨V, hV⟩ : ∃ V, V = shE n1 E1 := ⟨_, rfl⟩
  rw [← hV] at he ⊢
  have HV := Lib.hid hV
  have g : (V != 0) = true := by simpa using he
  have H1 := Lib.hid h1
  clear he hV h1
  go_enter Try.func7, Try.ntmps7
  go_wp2_with fail
  refine (check_any n1 E1 N1 a1 c1 w H1.out hn.1 hn.2).mono ?_
  rintro e w2 ⟨rfl, hb2⟩
  rw [← HV.out]
  have HB2 := Lib.hid hb2
  clear hb2
  go_wp2_with fail
  go_ret2
  exact ⟨rfl, HB2.out⟩
set_option maxHeartbeats 2000000 in
theorem miss_bad2 (n1 n2 : Nat) (E1 E2 : Nat → Nat → Int) (N1 N2 : Nat → Nat → ByteArray) (a1 a2 : Option Addr) (c1 c2 : Nat) (w : World) (h1 : ShF w a1 n1 E1 N1) (h2 : ShF w a2 n2 E2 N2) (hn : n1 ≤ 1000000000000000000 ∧ n1 ≤ c1) (hm : n2 ≤ 1000000000000000000 ∧ n2 ≤ c2) (h0 : shE n1 E1 = 0) (he : shE n2 E2 ≠ 0) :
    Calls Try.prog 7 #[.slice a1 n1 c1, .slice a2 n2 c2] w fun e w' => e = .returned (.tuple #[.slice none 0 0, .int .i64 (shE n2 E2)]) ∧ Below w.heap.size w w' := by
  obtain ⟨V, hV⟩ : ∃ V, V = shE n2 E2 := ⟨_, rfl⟩
  rw [← hV] at he ⊢
  have HV := Lib.hid hV
  have H0 := Lib.hid h0
  have g : (V != 0) = true := by simpa using he
  have H1 := Lib.hid h1
  have H2 := Lib.hid h2
  clear he hV h1 h2 h0
  go_enter Try.func7, Try.ntmps7
  go_wp2_with fail
  refine (check_any n1 E1 N1 a1 c1 w H1.out hn.1 hn.2).mono ?_
  rintro e w2 ⟨rfl, hb2⟩
  rw [H0.out]
  have HB2 := Lib.hid hb2
  clear hb2
  go_wp2_with fail
  refine (check_any n2 E2 N2 a2 c2 w2 (H2.out.below (Nat.le_refl _) HB2.out) hm.1 hm.2).mono ?_
  rintro e w3 ⟨rfl, hb3⟩
  rw [← HV.out]
  have HB3 := Lib.hid (HB2.out.trans (hb3.mono HB2.out.size))
  clear hb3
  go_wp2_with fail
  go_ret2
  exact ⟨rfl, HB3.out⟩
/-- the names ahead of the i-th shape of a slide that stand in no group -/
def uS (E : Nat → Nat → Int) (N : Nat → Nat → ByteArray) (i : Nat) (nm : ByteArray) : Bool := (List.range i).any fun j => decide (E j 1 = 0) && decide (N j 0 = nm)
theorem uS_same {E : Nat → Nat → Int} {N : Nat → Nat → ByteArray} {i : Nat} (h : ¬ E i 1 = 0) (nm : ByteArray) : uS E N (i + 1) nm = uS E N i nm := by
  unfold uS
  rw [List.range_succ, List.any_append]
  simp [decide_eq_false h]
theorem uS_put {E : Nat → Nat → Int} {N : Nat → Nat → ByteArray} {i : Nat} (h : E i 1 = 0) (nm : ByteArray) : uS E N (i + 1) nm = if nm = N i 0 then true else uS E N i nm := by
  unfold uS
  rw [List.range_succ, List.any_append]
  by_cases he : nm = N i 0
  · rw [if_pos he]; simp [h, he]
  · rw [if_neg he]
    have : decide (N i 0 = nm) = false := decide_eq_false (fun e => he e.symm)
    simp [h, this]
structure MiS (w : World) (mb cnt : Nat) (F : ByteArray → Bool) (v : Value) (L : List ByteArray) (wx : World) : Prop where
  below : Below w.heap.size w wx
  map : MapS Try.prog 9 3 wx mb cnt (fun nm => if F nm = true then 1 else 0)
  row : RowV wx (mb + 1) 9 1 v L.length (fun q _ => .string (L.getD q ⟨#[]⟩))
  low : w.heap.size ≤ mb
section
variable {w wx wy : World} {mb cnt : Nat} {F F' : ByteArray → Bool} {v v' : Value} {L : List ByteArray}
theorem MiS.under (h : MiS w mb cnt F v L wx) (hb : Below wx.heap.size wx wy) : MiS w mb cnt F v L wy :=
  ⟨h.below.trans (hb.mono h.below.size), h.map.block (hb.block _ h.map.lt), h.row.below hb (Nat.le_refl _), h.low⟩
theorem MiS.congr (h : MiS w mb cnt F v L wx) (he : ∀ x, F x = F' x) : MiS w mb cnt F' v L wx :=
  ⟨h.below, h.map.congr (fun x => by rw [he]), h.row, h.low⟩
theorem MiS.put (h : MiS w mb cnt F v L wx) {c2 : Nat} {n0 : ByteArray} (hg : wx.grownBy wy (some mb)) (hm : MapS Try.prog 9 3 wy mb c2 (fun nm => if nm = n0 then 1 else if F nm = true then 1 else 0)) : MiS w mb c2 (fun nm => if nm = n0 then true else F nm) v L wy :=
  ⟨Below.grown h.below hg h.below.size (fun k hk => by cases hk; exact h.low), hm.congr (fun x => by by_cases hx : x = n0 <;> simp [hx]), h.row.block fun k hk => hg.block k (h.row.lt hk) (fun e => by cases e; have := h.row.ge _ hk; omega), h.low⟩
theorem MiS.push (h : MiS w mb cnt F v L wx) {s : ByteArray} {o : Obj} {xs : List Value} (hg : (wx.alloc o).grownBy wy v.ownBlock) (hr : wy.ownsRow (mb + 1) 9 1 v' (L.length + 1) (xs ++ [.string s])) (hl : xs.length = L.length * 1) (hx : ∀ i, i < L.length → ∀ j, j < 1 → xs[i * 1 + j]? = some (.string (L.getD i ⟨#[]⟩))) : MiS w mb cnt F v' (L ++ [s]) wy := by
  have h2 := h.under ((Below.refl _ _).alloc (Nat.le_refl _) o)
  have hv : ∀ k, v.ownBlock = some k → mb + 1 ≤ k := RowV.ge h2.row
  have hlow := h.low
  refine ⟨Below.grown h2.below hg h2.below.size (fun k hk => by have := hv k hk; omega), h2.map.block (hg.block _ h2.map.lt (fun e => by have := hv _ e.symm; omega)), ?_, h.low⟩
  rw [List.length_append]
  refine RowV.push hr hl hx (fun j hj => ?_) (fun i hi j hj => ?_)
  · obtain rfl : j = 0 := by omega
    show some (Value.string s) = some (Value.string ((L ++ [s]).getD L.length ⟨#[]⟩))
    rw [List.getD_eq_getElem?_getD, List.getElem?_append_right (Nat.le_refl _)]
    simp
  · show Value.string (L.getD i ⟨#[]⟩) = Value.string ((L ++ [s]).getD i ⟨#[]⟩)
    rw [List.getD_eq_getElem?_getD, List.getD_eq_getElem?_getD, List.getElem?_append_left hi]
end
theorem MiS.more {w wx : World} {mb c : Nat} {F : ByteArray → Bool} {v : Value} {L : List ByteArray} (h : MiS w mb c F v L wx) : MiS w mb (c + 1) F v L wx := by
  obtain ⟨D, hD1, hD2⟩ := h.map
  exact ⟨h.below, ⟨D, hD1.mono (by omega), hD2⟩, h.row, h.low⟩
def MissPost (w : World) (L : List ByteArray) (e : Ending) (w' : World) : Prop :=
  ∃ v, e = .returned (.tuple #[v, .int .i64 0]) ∧ RowV w' w.heap.size 9 1 v L.length (fun q _ => .string (L.getD q ⟨#[]⟩)) ∧ Below w.heap.size w w'
set_option maxHeartbeats 8000000 in
theorem miss_ok (n1 n2 : Nat) (E1 E2 : Nat → Nat → Int) (N1 N2 : Nat → Nat → ByteArray) (a1 a2 : Option Addr) (c1 c2 : Nat) (w : World) (h1 : ShF w a1 n1 E1 N1) (h2 : ShF w a2 n2 E2 N2) (hc1 : n1 ≤ c1) (hc2 : n2 ≤ c2) (h01 : shE n1 E1 = 0) (h02 : shE n2 E2 = 0)
    (hz1 : ∀ j, j < n1 → (N1 j 0).size ≤ maxLen) (hz2 : ∀ j, j < n2 → (N2 j 0).size ≤ maxLen) :
    Calls Try.prog 7 #[.slice a1 n1 c1, .slice a2 n2 c2] w (MissPost w (missL n1 E1 N1 E2 N2 n2)) := by
  have hn1 := (shE_zero h01).1
  have hn2 := (shE_zero h02).1
  have H01 := Lib.hid h01
  have H02 := Lib.hid h02
  have H1 := Lib.hid h1
  have H2 := Lib.hid h2
  have HZ1 := Lib.hid hz1
  have HZ2 := Lib.hid hz2
  have HIS := Lib.hid (show (Try.prog.info? 9).map (fun i => (i.zero, i.size, i.bytes)) = some (some (.string ⟨#[]⟩), 1, 16) by kernel_rfl)
  clear h1 h2 h01 h02 hz1 hz2
  have hmm := @run_makeMap Try.prog
  go_enter Try.func7, Try.ntmps7
  go_wp2_with fail
  refine (check_any n1 E1 N1 a1 c1 w H1.out (by omega) hc1).mono ?_
  rintro e w2 ⟨rfl, hb2⟩
  rw [H01.out]
  have HB2 := Lib.hid hb2
  clear hb2
  go_wp2_with fail
  refine (check_any n2 E2 N2 a2 c2 w2 (H2.out.below (Nat.le_refl _) HB2.out) (by omega) hc2).mono ?_
  rintro e w3 ⟨rfl, hb3⟩
  rw [H02.out]
  have HB3 := Lib.hid (HB2.out.trans (hb3.mono HB2.out.size))
  clear hb3
  go_upto_region 8 with fail
  obtain ⟨w4, hw4⟩ : ∃ w4, w4 = w3.alloc (.map #[] 0) := ⟨_, rfl⟩
  obtain ⟨mb, hmb⟩ : ∃ mb, mb = w3.heap.size := ⟨_, rfl⟩
  have HS4 := Lib.hid (show MiS w mb 0 (uS E1 N1 0) (.slice none 0 0) [] w4 from
    ⟨by rw [hw4]; exact HB3.out.alloc HB3.out.size _, by rw [hw4, hmb]; exact (MapS.made w3 Try.prog 9 3).congr (fun x => by simp [uS]), RowV.nil _ _ _ _ _, by rw [hmb]; exact HB3.out.size⟩)
  rw [← hw4, ← hmb]
  clear hmm hmb hw4
  go_wp2_with fail
  go_loopw [27] (fun iv wx => ∃ i : Nat, iv = .int .i64 i ∧ i ≤ n1 ∧ MiS w mb i (uS E1 N1 i) (.slice none 0 0) [] wx) (fun iv _ => n1 - (intOf iv).toNat)
  case atStart => exact ⟨0, rfl, by omega, HS4.out⟩
  case round =>
    clear HS4
    obtain ⟨i, rfl, hi, hS⟩ := hrel
    have HS := Lib.hid hS
    have hsz := hS.below.size
    clear hS
    by_cases hin : i < n1
    · have hin2 : (i : Int) < (n1 : Int) := by omega
      obtain ⟨b, off, hba, hcellG⟩ := (H1.out.below (Nat.le_refl _) HS.out.below) (by omega)
      have hcell := hcellG i hin
      clear hcellG
      obtain ⟨hci, hc10, hc11⟩ := hcell
      have d0 := hci 0 (by omega)
      rw [Nat.add_zero] at d0
      have d1 := hci 1 (by omega)
      have d2 := hci 2 (by omega)
      have d3 := hci 3 (by omega)
      have d4 := hci 4 (by omega)
      have d5 := hci 5 (by omega)
      have d6 := hci 6 (by omega)
      have d7 := hci 7 (by omega)
      have d8 := hci 8 (by omega)
      have d9 := hci 9 (by omega)
      have zb := lt_of_cell d0
      simp only at zb
      clear hci
      obtain ⟨e0, he0⟩ : ∃ e, e = E1 i 0 := ⟨_, rfl⟩
      obtain ⟨e1, he1⟩ : ∃ e, e = E1 i 1 := ⟨_, rfl⟩
      obtain ⟨e2, he2⟩ : ∃ e, e = E1 i 2 := ⟨_, rfl⟩
      obtain ⟨e3, he3⟩ : ∃ e, e = E1 i 3 := ⟨_, rfl⟩
      obtain ⟨e4, he4⟩ : ∃ e, e = E1 i 4 := ⟨_, rfl⟩
      obtain ⟨e5, he5⟩ : ∃ e, e = E1 i 5 := ⟨_, rfl⟩
      obtain ⟨e6, he6⟩ : ∃ e, e = E1 i 6 := ⟨_, rfl⟩
      obtain ⟨e7, he7⟩ : ∃ e, e = E1 i 7 := ⟨_, rfl⟩
      obtain ⟨e8, he8⟩ : ∃ e, e = E1 i 8 := ⟨_, rfl⟩
      obtain ⟨e9, he9⟩ : ∃ e, e = E1 i 9 := ⟨_, rfl⟩
      obtain ⟨n0, hn0⟩ : ∃ e, e = N1 i 0 := ⟨_, rfl⟩
      obtain ⟨nt, hnt⟩ : ∃ e, e = N1 i 1 := ⟨_, rfl⟩
      rw [← he0] at d0
      rw [← he1] at d1
      rw [← he2] at d2
      rw [← he3] at d3
      rw [← he4] at d4
      rw [← he5] at d5
      rw [← he6] at d6
      rw [← he7] at d7
      rw [← he8] at d8
      rw [← he9] at d9
      rw [← hn0] at hc10
      rw [← hnt] at hc11
      have HE0 := Lib.hid he0
      have HE1 := Lib.hid he1
      have HE2 := Lib.hid he2
      have HE3 := Lib.hid he3
      have HE4 := Lib.hid he4
      have HE5 := Lib.hid he5
      have HE6 := Lib.hid he6
      have HE7 := Lib.hid he7
      have HE8 := Lib.hid he8
      have HE9 := Lib.hid he9
      have HN0 := Lib.hid hn0
      have HNT := Lib.hid hnt
      clear he0 he1 he2 he3 he4 he5 he6 he7 he8 he9 hn0 hnt
      subst hba
      go_upto_region 11 with fail
      obtain ⟨wc, hwc⟩ : ∃ wc, wc = wr.alloc (Obj.cells #[.int .i64 e0, .int .i64 e1, .int .i64 e2, .int .i64 e3, .int .i64 e4, .int .i64 e5, .int .i64 e6, .int .i64 e7, .int .i64 e8, .int .i64 e9, .string n0, .string nt] 24) := ⟨_, rfl⟩
      have HK := Lib.hid (show Blk wc wr.heap.size #[.int .i64 e0, .int .i64 e1, .int .i64 e2, .int .i64 e3, .int .i64 e4, .int .i64 e5, .int .i64 e6, .int .i64 e7, .int .i64 e8, .int .i64 e9, .string n0, .string nt] 24 by rw [hwc]; exact Blk.new _ _ _)
      have HSC := Lib.hid (show MiS w mb i (uS E1 N1 i) (.slice none 0 0) [] wc by rw [hwc]; exact HS.out.under ((Below.refl _ _).alloc (Nat.le_refl _) _))
      rw [← hwc]
      obtain ⟨kc, hkc⟩ : ∃ kc, kc = wr.heap.size := ⟨_, rfl⟩
      rw [← hkc] at HK ⊢
      clear d0 d1 d2 d3 d4 d5 d6 d7 d8 d9 hc10 hc11 zb hwc hkc HS
      have y1 : wc.cell? ⟨kc, 1, none⟩ = some (.int .i64 e1) := HK.out.cell (i := 1) rfl
      by_cases h1 : e1 = 0
      · have f1 : (e1 == 0) = true := by simpa using h1
        have HEQ := Lib.hid (fun nm => uS_put (E := E1) (N := N1) (i := i) (by rw [← HE1.out]; exact h1) nm)
        obtain ⟨w5, hrun5, hmap5, hg5⟩ := HSC.out.map.put Try.underlying9 Try.underlying3 Try.underlying55 (by unfold maxLen; omega) n0 1 (by decide) (by rw [HN0.out]; exact HZ1.out i hin)
        have HS5 := Lib.hid ((HSC.out.put hg5 hmap5).congr (F' := uS E1 N1 (i + 1)) (fun x => by rw [HEQ.out, HN0.out]))
        have y10 : wc.cell? ⟨kc, 10, none⟩ = some (.string n0) := HK.out.cell (i := 10) rfl
        clear h1 hmap5 hg5
        go_wp2_with fail
        go_roundw
        case rel => exact ⟨i + 1, by go_num, by omega, HS5.out⟩
        case measure => simp [intOf]; omega
      · have f1 : (e1 == 0) = false := by simpa using h1
        have HEQ := Lib.hid (fun nm => uS_same (E := E1) (N := N1) (i := i) (by rw [← HE1.out]; exact h1) nm)
        have HS5 := Lib.hid (show MiS w mb (i + 1) (uS E1 N1 (i + 1)) (.slice none 0 0) [] wc from by
          have h := HSC.out.congr (F' := uS E1 N1 (i + 1)) (fun x => by rw [HEQ.out])
          obtain ⟨D, hD1, hD2⟩ := h.map
          exact ⟨h.below, ⟨D, hD1.mono (by omega), hD2⟩, h.row, h.low⟩)
        clear h1
        go_wp2_with fail
        go_roundw
        case rel => exact ⟨i + 1, by go_num, by omega, HS5.out⟩
        case measure => simp [intOf]; omega
    · obtain rfl : n1 = i := by omega
      have hnn : ¬ (n1 : Int) < (n1 : Int) := by omega
      have HS2 := Lib.hid (HS.out.congr (F' := usedB n1 E1 N1 E2 N2 0) (fun x => by simp [uS, usedB]))
      clear HS
      go_wp2_with fail
      go_loopw [11, 40] (fun ov iv wx => ∃ i : Nat, iv = .int .i64 i ∧ i ≤ n2 ∧ MiS w mb (n1 + i) (usedB n1 E1 N1 E2 N2 i) ov (missL n1 E1 N1 E2 N2 i) wx) (fun _ iv _ => n2 - (intOf iv).toNat)
      case atStart => exact ⟨0, rfl, by omega, HS2.out⟩
      case round =>
        clear HS2
        obtain ⟨i, rfl, hi2, hS⟩ := hrel
        have HS := Lib.hid hS
        have hszb := hS.below.size
        obtain ⟨av, cv, hv, _, _⟩ := RowV.slice hS.row
        subst hv
        have hml := miss_len (n1 := n1) (E1 := E1) (N1 := N1) (E2 := E2) (N2 := N2) i
        obtain ⟨ML, hML⟩ : ∃ ML, ML = missL n1 E1 N1 E2 N2 i := ⟨_, rfl⟩
        have HML := Lib.hid hML
        rw [← hML] at hml HS ⊢
        obtain ⟨bn, hbn⟩ : ∃ bn, bn = ML.length := ⟨_, rfl⟩
        have HBN := Lib.hid hbn
        rw [← hbn] at hml ⊢
        clear hS hML hbn
        by_cases hin : i < n2
        · have hin2 : (i : Int) < (n2 : Int) := by omega
          obtain ⟨b, off, hba, hcellG⟩ := (H2.out.below (Nat.le_refl _) HS.out.below) (by omega)
          have hcell := hcellG i hin
          clear hcellG
          obtain ⟨hci, hc10, hc11⟩ := hcell
          have d0 := hci 0 (by omega)
          rw [Nat.add_zero] at d0
          have d1 := hci 1 (by omega)
          have d2 := hci 2 (by omega)
          have d3 := hci 3 (by omega)
          have d4 := hci 4 (by omega)
          have d5 := hci 5 (by omega)
          have d6 := hci 6 (by omega)
          have d7 := hci 7 (by omega)
          have d8 := hci 8 (by omega)
          have d9 := hci 9 (by omega)
          have zb := lt_of_cell d0
          simp only at zb
          clear hci
          obtain ⟨e0, he0⟩ : ∃ e, e = E2 i 0 := ⟨_, rfl⟩
          obtain ⟨e1, he1⟩ : ∃ e, e = E2 i 1 := ⟨_, rfl⟩
          obtain ⟨e2, he2⟩ : ∃ e, e = E2 i 2 := ⟨_, rfl⟩
          obtain ⟨e3, he3⟩ : ∃ e, e = E2 i 3 := ⟨_, rfl⟩
          obtain ⟨e4, he4⟩ : ∃ e, e = E2 i 4 := ⟨_, rfl⟩
          obtain ⟨e5, he5⟩ : ∃ e, e = E2 i 5 := ⟨_, rfl⟩
          obtain ⟨e6, he6⟩ : ∃ e, e = E2 i 6 := ⟨_, rfl⟩
          obtain ⟨e7, he7⟩ : ∃ e, e = E2 i 7 := ⟨_, rfl⟩
          obtain ⟨e8, he8⟩ : ∃ e, e = E2 i 8 := ⟨_, rfl⟩
          obtain ⟨e9, he9⟩ : ∃ e, e = E2 i 9 := ⟨_, rfl⟩
          obtain ⟨n0, hn0⟩ : ∃ e, e = N2 i 0 := ⟨_, rfl⟩
          obtain ⟨nt, hnt⟩ : ∃ e, e = N2 i 1 := ⟨_, rfl⟩
          rw [← he0] at d0
          rw [← he1] at d1
          rw [← he2] at d2
          rw [← he3] at d3
          rw [← he4] at d4
          rw [← he5] at d5
          rw [← he6] at d6
          rw [← he7] at d7
          rw [← he8] at d8
          rw [← he9] at d9
          rw [← hn0] at hc10
          rw [← hnt] at hc11
          have HE0 := Lib.hid he0
          have HE1 := Lib.hid he1
          have HE2 := Lib.hid he2
          have HE3 := Lib.hid he3
          have HE4 := Lib.hid he4
          have HE5 := Lib.hid he5
          have HE6 := Lib.hid he6
          have HE7 := Lib.hid he7
          have HE8 := Lib.hid he8
          have HE9 := Lib.hid he9
          have HN0 := Lib.hid hn0
          have HNT := Lib.hid hnt
          clear he0 he1 he2 he3 he4 he5 he6 he7 he8 he9 hn0 hnt
          subst hba
          go_upto_region 18 with fail
          obtain ⟨wc, hwc⟩ : ∃ wc, wc = wr.alloc (Obj.cells #[.int .i64 e0, .int .i64 e1, .int .i64 e2, .int .i64 e3, .int .i64 e4, .int .i64 e5, .int .i64 e6, .int .i64 e7, .int .i64 e8, .int .i64 e9, .string n0, .string nt] 24) := ⟨_, rfl⟩
          have HK := Lib.hid (show Blk wc wr.heap.size #[.int .i64 e0, .int .i64 e1, .int .i64 e2, .int .i64 e3, .int .i64 e4, .int .i64 e5, .int .i64 e6, .int .i64 e7, .int .i64 e8, .int .i64 e9, .string n0, .string nt] 24 by rw [hwc]; exact Blk.new _ _ _)
          have HSC := Lib.hid (show MiS w mb (n1 + i) (usedB n1 E1 N1 E2 N2 i) (.slice av ML.length cv) ML wc by rw [hwc]; rw [← HBN.out] at HS ⊢; exact HS.out.under ((Below.refl _ _).alloc (Nat.le_refl _) _))
          rw [← hwc]
          obtain ⟨kc, hkc⟩ : ∃ kc, kc = wr.heap.size := ⟨_, rfl⟩
          have HMK := Lib.hid (show mb < kc by rw [hkc]; exact HS.out.map.lt)
          rw [← hkc] at HK ⊢
          clear d0 d1 d2 d3 d4 d5 d6 d7 d8 d9 hc10 hc11 zb hwc hkc HS
          have y1 : wc.cell? ⟨kc, 1, none⟩ = some (.int .i64 e1) := HK.out.cell (i := 1) rfl
          by_cases h1 : e1 = 0
          case neg =>
            have f1 : (e1 == 0) = false := by simpa using h1
            have HNR := Lib.hid (show ¬ (E2 i 1 = 0 ∧ roomB (N2 i 0) = true) from fun h => h1 (by rw [HE1.out]; exact h.1))
            clear h1
            go_wp2_with fail
            have HMN := Lib.hid (miss_no (n1 := n1) (E1 := E1) (N1 := N1) (E2 := E2) (N2 := N2) (i := i) (fun h => HNR.out h.1))
            have HS6 := Lib.hid ((HSC).out.congr (F' := usedB n1 E1 N1 E2 N2 (i + 1)) (fun x => by rw [used_same HNR.out]))
            go_roundw
            case rel => exact ⟨i + 1, by go_num, by omega, by rw [HMN.out, ← HML.out, HBN.out]; exact HS6.out.more⟩
            case measure => simp [intOf]; omega
          have f1 : (e1 == 0) = true := by simpa using h1
          have H1Z := Lib.hid (show E2 i 1 = 0 by rw [← HE1.out]; exact h1)
          clear h1 y1
          have y0 : wc.cell? ⟨kc, 0, none⟩ = some (.int .i64 e0) := (HK).out.cell (i := 0) rfl
          have y1 : wc.cell? ⟨kc, 1, none⟩ = some (.int .i64 e1) := (HK).out.cell (i := 1) rfl
          have y2 : wc.cell? ⟨kc, 2, none⟩ = some (.int .i64 e2) := (HK).out.cell (i := 2) rfl
          have y3 : wc.cell? ⟨kc, 3, none⟩ = some (.int .i64 e3) := (HK).out.cell (i := 3) rfl
          have y4 : wc.cell? ⟨kc, 4, none⟩ = some (.int .i64 e4) := (HK).out.cell (i := 4) rfl
          have y5 : wc.cell? ⟨kc, 5, none⟩ = some (.int .i64 e5) := (HK).out.cell (i := 5) rfl
          have y6 : wc.cell? ⟨kc, 6, none⟩ = some (.int .i64 e6) := (HK).out.cell (i := 6) rfl
          have y7 : wc.cell? ⟨kc, 7, none⟩ = some (.int .i64 e7) := (HK).out.cell (i := 7) rfl
          have y8 : wc.cell? ⟨kc, 8, none⟩ = some (.int .i64 e8) := (HK).out.cell (i := 8) rfl
          have y9 : wc.cell? ⟨kc, 9, none⟩ = some (.int .i64 e9) := (HK).out.cell (i := 9) rfl
          have y10 : wc.cell? ⟨kc, 10, none⟩ = some (.string n0) := (HK).out.cell (i := 10) rfl
          have y11 : wc.cell? ⟨kc, 11, none⟩ = some (.string nt) := (HK).out.cell (i := 11) rfl
          go_wp2_with fail
          refine (room_any ⟨e0, e1, e2, e3, e4, e5, e6, e7, e8, e9, n0, nt⟩ wc).mono ?_
          rintro e w5 ⟨rfl, hb5⟩
          simp only []
          have HS5 := Lib.hid (HSC.out.under hb5)
          have HK5 := Lib.hid (HK.out.below hb5 HK.out.lt)
          clear hb5 y0 y1 y2 y3 y4 y5 y6 y7 y8 y9 y10 y11
          obtain ⟨RB, hRB⟩ : ∃ RB, RB = roomB n0 := ⟨_, rfl⟩
          rw [← hRB]
          have HRB := Lib.hid hRB
          clear hRB
          have y10 : w5.cell? ⟨kc, 10, none⟩ = some (.string n0) := HK5.out.cell (i := 10) rfl
          cases RB
          · have HNR := Lib.hid (show ¬ (E2 i 1 = 0 ∧ roomB (N2 i 0) = true) from fun h => by have := h.2; rw [← HN0.out, ← HRB.out] at this; cases this)
            go_wp2_with fail
            have HMN := Lib.hid (miss_no (n1 := n1) (E1 := E1) (N1 := N1) (E2 := E2) (N2 := N2) (i := i) (fun h => HNR.out h.1))
            have HS6 := Lib.hid ((HS5).out.congr (F' := usedB n1 E1 N1 E2 N2 (i + 1)) (fun x => by rw [used_same HNR.out]))
            go_roundw
            case rel => exact ⟨i + 1, by go_num, by omega, by rw [HMN.out, ← HML.out, HBN.out]; exact HS6.out.more⟩
            case measure => simp [intOf]; omega
          have HYR := Lib.hid (show E2 i 1 = 0 ∧ roomB (N2 i 0) = true from ⟨H1Z.out, by rw [← HN0.out]; exact HRB.out.symm⟩)
          have l5 := HS5.out.map.look (t := 55) Try.underlying9 Try.underlying3 Try.underlying55 (by kernel_rfl) n0 (by rw [HN0.out]; exact HZ2.out i hin)
          obtain ⟨UB, hUB⟩ : ∃ UB, UB = usedB n1 E1 N1 E2 N2 i n0 := ⟨_, rfl⟩
          rw [← hUB] at l5
          have HUB := Lib.hid hUB
          clear hUB
          cases UB
          · rw [if_neg (by simp)] at l5
            have HMY := Lib.hid (miss_yes (n1 := n1) (E1 := E1) (N1 := N1) (E2 := E2) (N2 := N2) (i := i) ⟨HYR.out, by rw [← HN0.out]; exact HUB.out.symm⟩)
            obtain ⟨w6, hrun6, hmap6, hg6⟩ := HS5.out.map.put Try.underlying9 Try.underlying3 Try.underlying55 (by unfold maxLen; omega) n0 1 (by decide) (by rw [HN0.out]; exact HZ2.out i hin)
            have HS6 := Lib.hid ((HS5.out.put hg6 hmap6).congr (F' := usedB n1 E1 N1 E2 N2 (i + 1)) (fun x => by rw [used_put HYR.out, HN0.out]))
            have HK6 := Lib.hid (HK5.out.block (hg6.block _ HK5.out.lt (fun e => by have := HMK.out; cases e; omega)))
            have z10 : w6.cell? ⟨kc, 10, none⟩ = some (.string n0) := HK6.out.cell (i := 10) rfl
            clear hmap6 hg6
            go_upto_region 20 with fail
            obtain ⟨xs, hown, hxl, hxs⟩ := RowV.own HS6.out.row
            rw [← HBN.out] at hown
            have HXL := Lib.hid hxl
            have HXS := Lib.hid hxs
            have hmw := HS6.out.map.lt
            obtain ⟨ii, hii, hz0, hz1, hz2⟩ := info_parts HIS.out
            clear hxl hxs l5 hrun6 y10
            go_wp2_with (at_builtin; go_loud (refine wpList_append_own _ rfl _ _ 29 rfl (mb + 1) 9 ii _ 1 16 Try.underlying29 hii hz0 hz1 hz2 rfl (by decide) _ _ _ rfl (RowL.alloc hown _) ⟨w6.heap.size, 0, none⟩ 1 1 [.string n0] rfl rfl ?k1 ?k2 ?k3 ?k4 ?k5 ?_))
            try (case k1 =>
              intro j u hj
              match j, hj with
              | 0, hj => (simp at hj; subst hj; simp [Addr.add]))
            try (case k2 => first | rfl | (intro u hu; simp at hu; subst hu; rfl))
            try (case k3 => unfold maxLen; (try simp); (try omega))
            try (case k4 => (try simp); (try omega))
            try (case k5 => (try simp); (try omega))
            intro v7 w7 hown7 hgrow _
            have HS7 := Lib.hid (MiS.push (s := n0) HS6.out (by rw [← HBN.out]; exact hgrow) (by rw [← HBN.out]; exact hown7) HXL.out HXS.out)
            clear hown hown7 hgrow hii hz0 hz1 hz2
            go_wp2_with fail
            go_roundw
            case rel => exact ⟨i + 1, by go_num, by omega, by rw [HMY.out, ← HML.out, ← HN0.out]; exact HS7.out⟩
            case measure => simp [intOf]; omega
          · rw [if_pos rfl] at l5
            have HMN := Lib.hid (miss_no (n1 := n1) (E1 := E1) (N1 := N1) (E2 := E2) (N2 := N2) (i := i) (fun h => by have := h.2; rw [← HN0.out, ← HUB.out] at this; cases this))
            have HS6 := Lib.hid (HS5.out.congr (F' := usedB n1 E1 N1 E2 N2 (i + 1)) (fun x => by
              rw [used_put HYR.out]
              by_cases hx : x = N2 i 0
              · rw [if_pos hx, hx, ← HN0.out]; exact HUB.out.symm
              · rw [if_neg hx]))
            go_wp2_with fail
            go_roundw
            case rel => exact ⟨i + 1, by go_num, by omega, by rw [HMN.out, ← HML.out, HBN.out]; exact HS6.out.more⟩
            case measure => simp [intOf]; omega
        · obtain rfl : n2 = i := by omega
          have hnk : ¬ (n2 : Int) < (n2 : Int) := by omega
          have HRF := Lib.hid (HS.out.row.mono (base' := w.heap.size) (by have := HS.out.low; omega))
          go_wp2_with fail
          go_ret2
          exact ⟨_, by rw [HBN.out]; rfl, by rw [← HML.out]; exact HRF.out, HS.out.below⟩
end Go.Proofs.Ytabnohphgegflaa.MS
