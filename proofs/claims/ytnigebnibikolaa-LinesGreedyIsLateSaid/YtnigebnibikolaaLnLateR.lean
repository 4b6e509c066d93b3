

/-
  The reference's LateLines.
-/
import Derived.Test.YtnigebnibikolaaLnLateP
import Derived.Test.YtnigebnibikolaaLnEndsR
import Derived.Test.YtnigebnibikolaaLnCostR
import Derived.Deep.CutRange
namespace Go.Proofs.Ytnigebnibikolaa.LN
open Go.RowKit Go.Law Go.Law.Ln
set_option linter.unusedVariables false
set_option linter.unusedSimpArgs false
set_option maxRecDepth 100000
def LatePost (w : World) (P : List Line × Int) (e : Ending) (w' : World) : Prop :=
  ∃ v, e = .returned (.tuple #[v, .int .i64 P.2]) ∧ RowL w' w.heap.size 74 6 v P.1.length (linesC P.1) ∧ Below w.heap.size w w'
/-- the block px, made behind a row, is kept by what appends to it -/
theorem blk_grown {w w' : World} {o : Obj} {base : Nat} {e : TypeId} {s : Nat} {v : Value} {k : Nat} {xs : List Value} {px : Nat} {cs : Array Value} {T : TypeId} {w0 : World} (hb : Blk w px cs T) (hg : (w.alloc o).grownBy w' v.ownBlock) (hr : RowL w0 base e s v k xs) (hl : w0.heap.size ≤ px) : Blk w' px cs T := by
  have ha := hb.alloc o
  refine ha.block (hg.block px ha.lt (fun he => ?_))
  have := RowL.blk_lt hr px he.symm
  omega
set_option maxHeartbeats 4000000 in
theorem lateR_any (n : Nat) (L : Nat → Part) (nw : Nat) (W : Nat → Int) (D : Int) (aP aW : Option Addr) (cP cW : Nat) (w : World) (mP : CellsF w aP n 6 (fun i => (L i).V)) (mW : IntsF w aW nw W) (hn : n ≤ 1000) (hcP : n ≤ cP) (hcM : cP ≤ 1000000000000000) (hg : Go.Law.Ln.Good n L nw W D) :
    Calls Try.prog 33 #[.slice aP n cP, .agg #[.slice aW nw cW, .int .i64 D]] w (LatePost w (lateF n L nw W D (begF n L 0) 0 false)) := by
  have HP := Lib.hid mP
  have HW := Lib.hid mW
  have HG := Lib.hid hg
  have hnw := hg.some
  have hDD := hg.double
  have hbg := begF_ge (n := n) (L := L) (i := 0) (by omega)
  obtain ⟨b0, hb0'⟩ : ∃ b, b = begF n L 0 := ⟨_, rfl⟩
  rw [← hb0'] at hbg ⊢
  have HB0 := Lib.hid hb0'
  obtain ⟨P, hP⟩ : ∃ P, P = lateF n L nw W D b0 0 false := ⟨_, rfl⟩
  rw [← hP]
  have HP1 := Lib.hid (show P.1 = [] ++ (lateF n L nw W D b0 0 false).1 by rw [hP]; rfl)
  have HP2 := Lib.hid (show P.2 = 0 + (lateF n L nw W D b0 0 false).2 by rw [hP]; omega)
  obtain ⟨P1, P2⟩ := P
  simp only at HP1 HP2
  have hI := info_parts (show (Try.prog.info? 74).map (fun i => (i.zero, i.size, i.bytes)) = some (some (.agg #[.int .i64 0, .int .i64 0, .int .i64 0, .int .i64 0, .int .i64 0, .int .i64 0]), 6, 48) by kernel_rfl)
  have HI := Lib.hid hI
  have hS0 : ErS w aW nw cW D (.slice none 0 0) [] (w.alloc (Obj.cells #[.slice aW nw cW, .int .i64 D] 60)) := ⟨(Below.refl _ _).alloc (Nat.le_refl _) _, Blk.new _ _ _, RowL.nil _ _ _ _⟩
  clear mP mW hg hb0' hP hI
  go_enter Try.func33, Try.ntmps33
  go_wp2_with fail
  obtain ⟨w1, hw1⟩ : ∃ w1, w1 = w.alloc (Obj.cells #[.slice aW nw cW, .int .i64 D] 60) := ⟨_, rfl⟩
  rw [← hw1] at hS0 ⊢
  have HS0 := Lib.hid hS0
  have hb01 := hS0.below
  clear hw1 hS0
  rw [show (0 : Int) = ((0 : Nat) : Int) from rfl]
  refine (begin_any n L aP cP 0 w1 (HP.out.below (Nat.le_refl _) hb01) (by omega) (by omega)).mono ?_
  rintro e w2 ⟨rfl, rfl⟩
  rw [← HB0.out]
  rw [show ((0 : Nat) : Int) = 0 from rfl]
  go_wp2_with fail
  go_loopw [6, 7, 8, 9, 10] (fun v cv av fv nv wr => ∃ (a num : Nat) (flag : Bool) (xs : List Line) (C : Int), cv = .int .i64 C ∧ av = .int .i64 a ∧ fv = .bool flag ∧ nv = .int .i64 num ∧ a ≤ n ∧ num ≤ a ∧ (-(3000000000000 * (num : Int)) ≤ C ∧ C ≤ 3000000000000 * (num : Int)) ∧ P1 = xs ++ (lateF n L nw W D a num flag).1 ∧ P2 = C + (lateF n L nw W D a num flag).2 ∧ xs.length ≤ num ∧ ErS w aW nw cW D v xs wr) (fun _ _ av _ _ _ => n + 1 - (intOf av).toNat)
  case atStart => exact ⟨b0, 0, false, [], 0, rfl, rfl, rfl, rfl, hbg.2, Nat.zero_le _, by omega, HP1.out, HP2.out, Nat.le_refl _, HS0.out⟩
  case round =>
    obtain ⟨a, num, flag, xs, C, rfl, rfl, rfl, rfl, ha, hna, hCb, hP1, hP2, hxl, hS⟩ := hrel
    have HQ1 := Lib.hid hP1
    have HQ2 := Lib.hid hP2
    have HS := Lib.hid hS
    obtain ⟨av, cv, hv, _, _⟩ := RowL.slice hS.lines
    subst hv
    have q0 := hS.shape.cell (i := 0) rfl
    have q1 := hS.shape.cell (i := 1) rfl
    have zq := hS.shape.lt
    have HROW0 := Lib.hid hS.lines
    clear hP1 hP2 hS HP1 HP2 HS0
    obtain ⟨x, hx⟩ : ∃ x, x = lastE n L nw W a num := ⟨_, rfl⟩
    have hmem := lastE_mem (L := L) (nw := nw) (W := W) (num := num) ha
    have hget := lastE_get (L := L) (nw := nw) (W := W) (num := num) ha
    have hpos := endF_pos (L := L) (nw := nw) (W := W) (num := num) ha
    have hlen := endF_len (n := n) (L := L) (nw := nw) (W := W) (a := a) (num := num)
    rw [← hx] at hmem hget
    obtain ⟨hxe, hxa, hxn⟩ := hmem
    have hbd := line_bd (nw := nw) (W := W) (num := num) (n := n) (L := L) (a := a) (z := x.z) (by omega) HG.out.parts hxa hxn
    have hwd := lineW HG.out a x.z num
    have hcb := costF_bound HG.out hxa hxn (num := num)
    have hdb := dblF_bound HG.out flag x.z
    rw [← hxe] at hbd hwd hcb
    have HLASTP := Lib.hid (show lastB n L x.z = true → P1 = xs ++ [x] ∧ P2 = C + (costF n L x + dblF n L D flag x.z) from fun h => by
      rw [hx] at h ⊢
      rw [HQ1.out, HQ2.out, lateF_last ha h]; exact ⟨rfl, rfl⟩)
    have HNEXTP := Lib.hid (show lastB n L x.z = false → P1 = (xs ++ [x]) ++ (lateF n L nw W D (aftF n L x.z) (num + 1) (flgB n L x.z)).1 ∧ P2 = (C + (costF n L x + dblF n L D flag x.z)) + (lateF n L nw W D (aftF n L x.z) (num + 1) (flgB n L x.z)).2 from fun h => by
      rw [hx] at h ⊢
      rw [HQ1.out, HQ2.out, lateF_next ha h]
      exact ⟨by rw [List.append_cons], by omega⟩)
    obtain ⟨xs2, hxs2⟩ : ∃ l, l = endF n L nw W a num := ⟨_, rfl⟩
    rw [← hxs2] at hget hpos hlen
    have HXS2 := Lib.hid hxs2
    obtain ⟨xa, z, Nt, St, Rs, Wd⟩ := x
    simp only at hxa hxn hbd hwd hdb HLASTP HNEXTP
    obtain ⟨DC, hDC⟩ : ∃ y, y = costF n L ⟨xa, z, Nt, St, Rs, Wd⟩ + dblF n L D flag z := ⟨_, rfl⟩
    have hdc : -200000000 ≤ DC ∧ DC ≤ 2600000000000 := by rw [hDC]; omega
    rw [← hDC] at HLASTP HNEXTP
    have HDC := Lib.hid hDC
    clear hx hxe hcb hdb hxs2 hDC HQ1 HQ2
    obtain ⟨bd1, bd2, bd3⟩ := hbd
    go_wp2_with fail
    refine (endsR_any n L nw W D aP aW cP cW a num wr (HP.out.below (Nat.le_refl _) HS.out.below) (HW.out.below (Nat.le_refl _) HS.out.below) (by omega) hcP hcM ha HG.out.parts hnw (by omega)).mono ?_
    rintro e w3 ⟨v3, rfl, hrow3, hb3⟩
    rw [← HXS2.out] at hrow3
    have HS3 := Lib.hid (HS.out.under hb3)
    have hsz3 := hb3.size
    obtain ⟨g3, c3, hv3, hg31, hg32, hc31, hc32, hfz3, hcells⟩ := RowL.at hrow3 hpos
    subst hv3
    have hle3 := HS3.out.below.size
    have l0 : w3.cell? ⟨g3, (xs2.length - 1) * 6 + 0, none⟩ = some (.int .i64 xa) := hcells _ _ (linesC_get hget (j := 0) rfl)
    have l1 : w3.cell? ⟨g3, (xs2.length - 1) * 6 + 1, none⟩ = some (.int .i64 z) := hcells _ _ (linesC_get hget (j := 1) rfl)
    have l2 : w3.cell? ⟨g3, (xs2.length - 1) * 6 + 2, none⟩ = some (.int .i64 Nt) := hcells _ _ (linesC_get hget (j := 2) rfl)
    have l3 : w3.cell? ⟨g3, (xs2.length - 1) * 6 + 3, none⟩ = some (.int .i64 St) := hcells _ _ (linesC_get hget (j := 3) rfl)
    have l4 : w3.cell? ⟨g3, (xs2.length - 1) * 6 + 4, none⟩ = some (.int .i64 Rs) := hcells _ _ (linesC_get hget (j := 4) rfl)
    have l5 : w3.cell? ⟨g3, (xs2.length - 1) * 6 + 5, none⟩ = some (.int .i64 Wd) := hcells _ _ (linesC_get hget (j := 5) rfl)
    rw [Nat.add_zero] at l0
    have hpi : 1 ≤ (xs2.length : Int) := by omega
    clear hcells hfz3 hget hrow3 HXS2 hb3 HS q0 q1 zq
    go_upto_region 7 with (fail)
    obtain ⟨w4, hw4⟩ : ∃ w4, w4 = w3.alloc (Obj.cells #[.int .i64 xa, .int .i64 z, .int .i64 Nt, .int .i64 St, .int .i64 Rs, .int .i64 Wd] 74) := ⟨_, rfl⟩
    have hb34 : Below w3.heap.size w3 w4 := by rw [hw4]; exact (Below.refl _ _).alloc (Nat.le_refl _) _
    have q4 : Blk w4 w3.heap.size #[.int .i64 xa, .int .i64 z, .int .i64 Nt, .int .i64 St, .int .i64 Rs, .int .i64 Wd] 74 := by rw [hw4]; exact Blk.new _ _ _
    rw [← hw4]
    obtain ⟨px, hpx⟩ : ∃ px, px = w3.heap.size := ⟨_, rfl⟩
    rw [← hpx] at q4 ⊢
    have hpl : wr.heap.size ≤ px := by rw [hpx]; exact hsz3
    have HS4 := Lib.hid (HS3.out.under hb34)
    have HX4 := Lib.hid q4
    have x0 := q4.cell (i := 0) rfl
    have x1 := q4.cell (i := 1) rfl
    have x2 := q4.cell (i := 2) rfl
    have x3 := q4.cell (i := 3) rfl
    have x4 := q4.cell (i := 4) rfl
    have x5 := q4.cell (i := 5) rfl
    have zx := q4.lt
    clear hw4 hpx hb34 q4 l0 l1 l2 l3 l4 l5 HS3
    obtain ⟨ii, hii, hz0, hz1, hz2⟩ := HI.out
    go_wp2_with (at_builtin; go_loud (refine wpList_append_own _ rfl _ _ 61 rfl (w.heap.size + 1) 74 ii _ 6 48 Try.underlying61 hii hz0 hz1 hz2 rfl (by decide) _ _ _ rfl (RowL.alloc (HS4).out.lines _) ⟨w4.heap.size, 0, none⟩ 1 1 [.int .i64 (xa : Int), .int .i64 (z : Int), .int .i64 Nt, .int .i64 St, .int .i64 Rs, .int .i64 Wd] rfl rfl ?k1a ?k2a ?k3a ?k4a ?k5a ?_))
    case k1a =>
      intro j u hj
      have e : Addr.add ⟨w4.heap.size, 0, none⟩ j = ⟨w4.heap.size, j, none⟩ := by simp [Addr.add]; omega
      rw [e]
      exact cellNew (by simpa using hj)
    case k2a => intro u hu; simp at hu; rcases hu with rfl | rfl | rfl | rfl | rfl | rfl <;> rfl
    case k3a => unfold maxLen; (try simp); (try omega)
    case k4a => (try simp); (try omega)
    case k5a => have := (HS4).out.below.size; (try simp); (try omega)
    intro v6 w6 hown hgrow _
    have HS6 := Lib.hid ((HS4).out.append hgrow (RowL.fit hown))
    have HX6 := Lib.hid (blk_grown (HX4).out hgrow HROW0.out hpl)
    clear hown hgrow hii hz0 hz1 hz2 HS4 HX4
    clear x0 x1 x2 x3 x4 x5 zx
    have x0 := HX6.out.cell (i := 0) rfl
    have x1 := HX6.out.cell (i := 1) rfl
    have x2 := HX6.out.cell (i := 2) rfl
    have x3 := HX6.out.cell (i := 3) rfl
    have x4 := HX6.out.cell (i := 4) rfl
    have x5 := HX6.out.cell (i := 5) rfl
    have zx := HX6.out.lt
    have q0 := HS6.out.shape.cell (i := 0) rfl
    have q1 := HS6.out.shape.cell (i := 1) rfl
    have zq := HS6.out.shape.lt
    go_wp2_with fail
    refine (lineCost_any n L nw W D aP aW cP cW xa z Nt St Rs Wd flag w6 (HP.out.below (Nat.le_refl _) HS6.out.below) (by omega) hxn HG.out.parts hDD bd1 bd2 bd3 hwd).mono ?_
    rintro e w7 ⟨rfl, hb7⟩
    rw [← HDC.out]
    have HS7 := Lib.hid (HS6.out.under hb7)
    have HX7 := Lib.hid (HX6.out.below hb7 HX6.out.lt)
    clear x0 x1 x2 x3 x4 x5 zx q0 q1 zq HS6 HX6 hb7
    have x1 := HX7.out.cell (i := 1) rfl
    have zx := HX7.out.lt
    have mP := HP.out.below (Nat.le_refl _) HS7.out.below
    go_wp2_with fail
    refine (follow_any n L aP cP z w7 mP (by omega) hxn).mono ?_
    rintro e w8 ⟨rfl, rfl⟩
    obtain ⟨af, haf⟩ : ∃ y, y = aftF n L z := ⟨_, rfl⟩
    cases hlb : lastB n L z
    · have HN := Lib.hid (HNEXTP.out hlb)
      have hafb := aftF_gt hxn hlb
      rw [← haf] at hafb HN ⊢
      have hne : ((af : Int) == (n : Int)) = false := by simp; omega
      have hltz : z < n := by omega
      have HFL := Lib.hid (show flgB n L z = (L z).flag by unfold flgB; simp [hltz])
      obtain ⟨b, off, rfl, hcell⟩ := mP (by omega)
      have d5 : w7.cell? ⟨b, off + z * 6 + 5, none⟩ = some (.bool (L z).flag) := hcell z hltz 5 (by omega)
      have zd := lt_of_cell d5
      obtain ⟨F, hF⟩ : ∃ F, F = (L z).flag := ⟨_, rfl⟩
      rw [← hF] at HFL d5
      clear haf hlb hcell hF HLASTP HNEXTP
      go_wp2_with fail
      go_roundw
      case rel =>
        refine ⟨af, num + 1, F, xs ++ [⟨xa, z, Nt, St, Rs, Wd⟩], C + DC, rfl, rfl, rfl, by go_num, by omega, by omega, by omega, ?_, ?_, by simp; omega, HS7.out⟩
        · rw [HN.out.1, HFL.out]
        · rw [HN.out.2, HFL.out]
      case measure => simp [intOf]; omega
    · have HN := Lib.hid (HLASTP.out hlb)
      have he : af = n := by have := hlb; unfold lastB at this; rw [haf]; simpa using this
      rw [← haf]
      subst he
      clear haf hlb mP HLASTP HNEXTP
      go_wp2_with fail
      go_ret2
      refine ⟨v6, ?_, ?_, HS7.out.below⟩
      · rw [HN.out.2]; rfl
      · simp only
        rw [HN.out.1]
        exact HS7.out.lines.mono (Nat.le_succ _)
end Go.Proofs.Ytnigebnibikolaa.LN
