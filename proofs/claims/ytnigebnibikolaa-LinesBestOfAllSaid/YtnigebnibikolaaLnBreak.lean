

/-
  Break.
-/
import Derived.Test.YtnigebnibikolaaLnPath
import Derived.Test.YtnigebnibikolaaLnBest
import Derived.Test.YtnigebnibikolaaLnPrep
import Derived.Test.YtnigebnibikolaaLnShape
namespace Go.Proofs.Ytnigebnibikolaa.LN
open Go.RowKit Go.Law Go.Law.Ln
set_option linter.unusedVariables false
set_option linter.unusedSimpArgs false
set_option maxRecDepth 100000
theorem make_known (k : Nat) (x : Int) (hx : x = k) (hk : k ≤ 100000) (w : World) : (Instr.makeSlice 112 (.int .i64 x) (.int .i64 x)).run Try.prog w = .ok (.slice (some ⟨w.heap.size, 0, none⟩) k k) (w.alloc (.cells (madeCells #[.slice none 0 0] k) 140)) := by
  subst hx
  obtain ⟨i0, hi, hz0, hz1, hz2⟩ := info_parts (show (Try.prog.info? 140).map (fun i => (i.zero, i.size, i.bytes)) = some (some (.slice none 0 0), 1, 24) by kernel_rfl)
  have := run_make (P := Try.prog) w 112 140 i0 _ Try.underlying112 hi hz0 .i64 .i64 (k : Int) (k : Int) (by omega) (by omega) (by rw [hz2]; omega) (by omega)
  rw [hz1] at this
  simpa [Value.cells] using this
theorem own_known (w : World) (k nw : Nat) : OwnV (w.alloc (.cells (madeCells #[.slice none 0 0] k) 140)) 140 w.heap.size k (fun f => rowV nw ((fun _ => none : Nat → Option Nat) f)) := by
  refine OwnV.new _ _ _ _ (by rw [size_madeCells]; exact Nat.le_refl _) (fun i hi => ?_)
  simp [madeCells, rowV, hi, Nat.mod_one]
theorem field_cost (y1 y3 : Nat) (C : Int) (w : World) : (Instr.field 118 (.agg #[.bool true, .int .i64 y1, .int .i64 C, .int .i64 y3]) 2).run Try.prog w = .ok (.int .i64 C) w := by kernel_rfl
def BreakPost (w : World) (P : List Line) (C : Int) (e : Ending) (w' : World) : Prop :=
  ∃ v, e = .returned (.tuple #[v, .int .i64 C, .int .i64 0]) ∧ RowL w' w.heap.size 74 6 v P.length (linesC P) ∧ Below w.heap.size w w'
theorem break_bad (n : Nat) (L : Nat → Part) (nw : Nat) (W : Nat → Int) (D : Int) (aP aW : Option Addr) (cP cW : Nat) (w : World) (hp : CellsF w aP n 6 (fun i => (L i).V)) (ha : IntsF w aW nw W) (hn : n ≤ 1000000000000000000) (hE : bothE n L nw W D ≠ 0) :
    Calls Try.prog 24 #[.slice aP n cP, .agg #[.slice aW nw cW, .int .i64 D]] w fun e w' => e = .returned (.tuple #[.slice none 0 0, .int .i64 0, .int .i64 (bothE n L nw W D)]) ∧ Below w.heap.size w w' := by
  have HA := Lib.hid ha
  have HP := Lib.hid hp
  obtain ⟨E, hE'⟩ : ∃ E, E = bothE n L nw W D := ⟨_, rfl⟩
  rw [← hE'] at hE ⊢
  have HE := Lib.hid hE'
  have g0 : (E != 0) = true := by simpa using hE
  clear ha hp hE hE'
  go_enter Try.func24, Try.ntmps24
  go_wp2_with fail
  have hb0 : Below w.heap.size w (w.alloc (Obj.cells #[.slice aW nw cW, .int .i64 D] 60)) := (Below.refl _ _).alloc (Nat.le_refl _) _
  refine (checkBoth_any n L nw W D aP aW cP cW _ (HP.out.below (Nat.le_refl _) hb0) (HA.out.below (Nat.le_refl _) hb0) hn).mono ?_
  rintro e w2 ⟨rfl, hb2⟩
  rw [← HE.out]
  have hb := hb0.trans (hb2.mono hb0.size)
  clear hb0 hb2
  go_wp2_with fail
  go_ret3
  exact ⟨rfl, hb⟩
set_option maxHeartbeats 8000000 in
theorem break_ok (n : Nat) (L : Nat → Part) (nw : Nat) (W : Nat → Int) (D : Int) (aP aW : Option Addr) (cP cW : Nat) (w : World) (hp : CellsF w aP n 6 (fun i => (L i).V)) (ha : IntsF w aW nw W) (hn : n ≤ 1000) (hE : bothE n L nw W D = 0) :
    Calls Try.prog 24 #[.slice aP n cP, .agg #[.slice aW nw cW, .int .i64 D]] w (BreakPost w (pathF n L nw W D (begF n L 0) 0 false) (bestF n L nw W D (begF n L 0) 0 false).2.1) := by
  have HA := Lib.hid ha
  have HP := Lib.hid hp
  have HE := Lib.hid hE
  have hgood := both_good hE
  have HG := Lib.hid hgood
  have hnw := hgood.some
  have hbg := begF_ge (n := n) (L := L) (i := 0) (by omega)
  obtain ⟨b0, hb0'⟩ : ∃ b, b = begF n L 0 := ⟨_, rfl⟩
  rw [← hb0'] at hbg ⊢
  have HB0 := Lib.hid hb0'
  obtain ⟨P, hP⟩ : ∃ P, P = pathF n L nw W D b0 0 false := ⟨_, rfl⟩
  obtain ⟨C, hC⟩ : ∃ C, C = (bestF n L nw W D b0 0 false).2.1 := ⟨_, rfl⟩
  rw [← hP, ← hC]
  have HPP := Lib.hid hP
  have HC := Lib.hid hC
  have hI := info_parts (show (Try.prog.info? 74).map (fun i => (i.zero, i.size, i.bytes)) = some (some (.agg #[.int .i64 0, .int .i64 0, .int .i64 0, .int .i64 0, .int .i64 0, .int .i64 0]), 6, 48) by kernel_rfl)
  have HI := Lib.hid hI
  clear ha hp hE hgood hb0' hP hC hI
  go_enter Try.func24, Try.ntmps24
  go_wp2_with fail
  obtain ⟨w1, hw1⟩ : ∃ w1, w1 = w.alloc (Obj.cells #[.slice aW nw cW, .int .i64 D] 60) := ⟨_, rfl⟩
  have hb1 : Below w.heap.size w w1 := by rw [hw1]; exact (Below.refl _ _).alloc (Nat.le_refl _) _
  have q1 : Blk w1 w.heap.size #[.slice aW nw cW, .int .i64 D] 60 := by rw [hw1]; exact Blk.new _ _ _
  rw [← hw1]
  clear hw1
  refine (checkBoth_any n L nw W D aP aW cP cW _ (HP.out.below (Nat.le_refl _) hb1) (HA.out.below (Nat.le_refl _) hb1) (by omega)).mono ?_
  rintro e w2 ⟨rfl, hb2⟩
  rw [HE.out]
  have q2 := q1.below hb2 q1.lt
  have hb02 := hb1.trans (hb2.mono hb1.size)
  have s0 : w2.cell? ⟨w.heap.size, 0, none⟩ = some (.slice aW nw cW) := q2.cell (i := 0) rfl
  have s1 : w2.cell? ⟨w.heap.size, 1, none⟩ = some (.int .i64 D) := q2.cell (i := 1) rfl
  have zs := q2.lt
  clear q1 q2 hb1 hb2
  go_wp2_with fail
  refine (prep_any n L nw W D aP aW cP cW _ (HP.out.below (Nat.le_refl _) hb02) (HA.out.below (Nat.le_refl _) hb02) (by omega) HG.out.parts).mono ?_
  rintro e w3 ⟨m, rfl, hM3, hb3⟩
  have hb03 := hb02.trans (hb3.mono hb02.size)
  have HM3 := Lib.hid hM3
  obtain ⟨_, _, _, _, gw, gg, gy, gb, ⟨_, _, _, _, _, _, m6⟩, _, _, _, _, _, mbg⟩ := hM3
  have m6b := mbg 0 (by omega)
  rw [← HB0.out] at m6b
  have zm := lt_of_cell m6
  have zg := lt_of_cell m6b
  simp only at zm zg
  have hmk := make_known (n + 1) ((n : Int) + 1) (by omega) (by omega)
  clear hb3 mbg s0 s1 zs hb02
  go_wp2_with fail
  obtain ⟨w4, hw4⟩ : ∃ w4, w4 = (w3.alloc (Obj.cells (madeCells #[.slice none 0 0] (n + 1)) 140)).alloc (Obj.cells #[.pointer (some ⟨m, 0, none⟩), .slice (some ⟨w3.heap.size, 0, none⟩) (n + 1) (n + 1)] 114) := ⟨_, rfl⟩
  have hb34 : Below w3.heap.size w3 w4 := by rw [hw4]; exact ((Below.refl _ _).alloc (Nat.le_refl _) _).alloc (by simp) _
  have hv4 : OwnV w4 140 w3.heap.size (n + 1) (fun f => rowV nw ((fun _ => none : Nat → Option Nat) f)) := by rw [hw4]; exact (own_known w3 (n + 1) nw).alloc _
  have hq4 : Blk w4 (w3.heap.size + 1) #[.pointer (some ⟨m, 0, none⟩), .slice (some ⟨w3.heap.size, 0, none⟩) (n + 1) (n + 1)] 114 := by
    have h := Blk.new (w3.alloc (Obj.cells (madeCells #[.slice none 0 0] (n + 1)) 140)) #[.pointer (some ⟨m, 0, none⟩), .slice (some ⟨w3.heap.size, 0, none⟩) (n + 1) (n + 1)] 114
    rw [hw4]
    simpa using h
  have hS0 : BrS n L nw W D 140 118 114 74 m (w3.heap.size + 1) w3.heap.size w3 (.slice none 0 0) [] w4 (fun _ => none) :=
    ⟨⟨⟨hv4, Nat.le_refl _⟩, fun f g _ h => by (cases h), fun f f' g _ _ h => by (cases h)⟩, hb34, hq4, RowL.nil _ _ _ _, by decide⟩
  rw [← hw4]
  obtain ⟨kb, hkb⟩ : ∃ kb, kb = w3.heap.size := ⟨_, rfl⟩
  obtain ⟨wb, hwb⟩ : ∃ wb, wb = w3.heap.size + 1 := ⟨_, rfl⟩
  rw [← hwb] at hS0 hq4 ⊢
  have HS0 := Lib.hid hS0
  have hbest := best_any n L nw W D m wb w3.heap.size w3 HG.out hn HM3.out (n + 1)
  have HBEST := Lib.hid hbest
  clear hw4 hb34 hv4 hq4 hS0 hwb hkb hbest hmk m6 m6b zm zg
  go_loopw [10, 11, 12, 13] (fun vv va vn vf wr => ∃ (a num : Nat) (flag : Bool) (xs : List Line) (Gr : Nat → Option Nat), va = .int .i64 a ∧ vn = .int .i64 num ∧ vf = .bool flag ∧ a ≤ n ∧ num ≤ a ∧ P = xs ++ pathF n L nw W D a num flag ∧ xs.length ≤ a ∧ BrS n L nw W D 140 118 114 74 m wb w3.heap.size w3 vv xs wr Gr) (fun _ va _ _ _ => n + 1 - (intOf va).toNat)
  case atStart => exact ⟨b0, 0, false, [], _, rfl, rfl, rfl, hbg.2, Nat.zero_le _, HPP.out, Nat.zero_le _, HS0.out⟩
  case round =>
    obtain ⟨a, num, flag, xs, Gr, rfl, rfl, rfl, ha, hna, hP, hxl, hS⟩ := hrel
    have HP' := Lib.hid hP
    have HS := Lib.hid hS
    clear hP hS HS0 HPP
    have hbz := best_at HG.out (num := num) (flag := flag) ha
    have hmem := best_in3 HG.out (n + 1 - a) a num flag ha (Nat.le_refl _)
    obtain ⟨pp, hpp⟩ : ∃ p, p = bestF n L nw W D a num flag := ⟨_, rfl⟩
    rw [← hpp] at hbz hmem
    have HLASTP := Lib.hid (show lastB n L pp.1 = true → P = xs ++ [lineF n L nw W a pp.1 num] from fun h => by rw [hpp] at h ⊢; rw [HP'.out, pathF_last HG.out ha h])
    have HNEXTP := Lib.hid (show lastB n L pp.1 = false → P = (xs ++ [lineF n L nw W a pp.1 num]) ++ pathF n L nw W D (aftF n L pp.1) (num + 1) (flgB n L pp.1) from fun h => by rw [hpp] at h ⊢; rw [HP'.out, pathF_next HG.out ha h, List.append_assoc]; rfl)
    have HAFT := Lib.hid (show lastB n L pp.1 = false → pp.1 < aftF n L pp.1 ∧ aftF n L pp.1 < n from fun h => aftF_gt hbz.2 h)
    have HPP := Lib.hid hpp
    clear hpp HP' hmem
    obtain ⟨z, pc, pk⟩ := pp
    simp only at hbz HLASTP HNEXTP HAFT
    obtain ⟨av, cv, hv, hxc, hcm⟩ := RowL.slice HS.out.lines
    have hxb : xs.length ≤ 1000 := by omega
    subst hv
    clear hxc hcm
    go_wp2_with fail
    refine (HBEST.out a num flag wr Gr ha (by omega) (by omega) HS.out.below HS.out.work HS.out.workO HS.out.memo).mono ?_
    rintro e w5 ⟨rfl, G5, hM5, hF5⟩
    rw [← HPP.out]
    rw [show planV (z, pc, pk) = .agg #[.bool true, .int .i64 (z : Nat), .int .i64 pc, .int .i64 (pk : Nat)] from rfl]
    have hS5 := HS.out.step hM5 hF5
    have HS5 := Lib.hid hS5
    clear hM5 hF5 hS5
    go_wp2_with fail
    obtain ⟨w6, hw6⟩ : ∃ w6, w6 = w5.alloc (Obj.cells #[.bool true, .int .i64 (z : Nat), .int .i64 pc, .int .i64 (pk : Nat)] 118) := ⟨_, rfl⟩
    have hb56 : Below w5.heap.size w5 w6 := by rw [hw6]; exact (Below.refl _ _).alloc (Nat.le_refl _) _
    have q6 : Blk w6 w5.heap.size #[.bool true, .int .i64 (z : Nat), .int .i64 pc, .int .i64 (pk : Nat)] 118 := by rw [hw6]; exact Blk.new _ _ _
    rw [← hw6]
    obtain ⟨px, hpx⟩ : ∃ px, px = w5.heap.size := ⟨_, rfl⟩
    rw [← hpx] at q6 ⊢
    have hS6 := HS5.out.under hb56
    have hM6 := HM3.out.below (Nat.le_refl _) hS6.below
    have HS6 := Lib.hid hS6
    clear hw6 hpx hb56 hS6
    refine (line_any m n L nw W D a z num w6 hM6 (by omega) hbz.1 hbz.2 HG.out.parts hnw (by omega)).mono ?_
    rintro e w7 ⟨rfl, hb67⟩
    obtain ⟨x, hx⟩ : ∃ x, x = lineF n L nw W a z num := ⟨_, rfl⟩
    rw [← hx] at HLASTP HNEXTP ⊢
    obtain ⟨xa, xz, Nt, St, Rs, Wd⟩ := x
    rw [show lineV ⟨xa, xz, Nt, St, Rs, Wd⟩ = .agg #[.int .i64 xa, .int .i64 xz, .int .i64 Nt, .int .i64 St, .int .i64 Rs, .int .i64 Wd] from rfl]
    have q7 := q6.below hb67 q6.lt
    have hS7 := HS6.out.under hb67
    have HS7 := Lib.hid hS7
    have hsz7 := hS7.below.size
    have HRQ := Lib.hid (RowL.blk_lt hS7.lines)
    have zq7 := q7.lt
    have Q7 := Lib.hid q7
    have hpx7 : px ≠ w7.heap.size := by omega
    clear q6 hb67 hS7 hM6 hx q7
    obtain ⟨ii, hii, hz0, hz1, hz2⟩ := HI.out
    go_wp2_with (at_builtin; go_loud (refine wpList_append_own _ rfl _ _ 61 rfl w3.heap.size 74 ii _ 6 48 Try.underlying61 hii hz0 hz1 hz2 rfl (by decide) _ _ _ rfl (RowL.alloc HS7.out.lines _) ⟨w7.heap.size, 0, none⟩ 1 1 [.int .i64 (xa : Int), .int .i64 (xz : Int), .int .i64 Nt, .int .i64 St, .int .i64 Rs, .int .i64 Wd] rfl rfl ?k1 ?k2 ?k3 ?k4 ?k5 ?_))
    case k1 =>
      intro j u hj
      have e : Addr.add ⟨w7.heap.size, 0, none⟩ j = ⟨w7.heap.size, j, none⟩ := by simp [Addr.add]; omega
      rw [e]
      exact cellNew (by simpa using hj)
    case k2 => intro u hu; simp at hu; rcases hu with rfl | rfl | rfl | rfl | rfl | rfl <;> rfl
    case k3 => unfold maxLen; (try simp); (try omega)
    case k4 => (try simp); (try omega)
    case k5 => (try simp); (try omega)
    intro v8 w8 hown hgrow _
    have hS8 := HS7.out.append hgrow (RowL.fit hown)
    have hne8 : ∀ k, (Value.slice av xs.length cv).ownBlock = some k → k ≠ px := fun k hk he => by
      obtain ⟨cs, hc⟩ := row_block HS7.out.lines hk
      have h2 := Q7.out
      unfold Blk at h2
      rw [← he, hc] at h2
      injection h2 with h3
      injection h3 with _ h3
      exact absurd h3 (by decide)
    have q8 : Blk w8 px #[.bool true, .int .i64 (z : Nat), .int .i64 pc, .int .i64 (pk : Nat)] 118 :=
      (Q7.out.alloc _).block (hgrow.block px (by simp; omega) (fun h => hne8 px h.symm rfl))
    have x1 : w8.cell? ⟨px, 1, none⟩ = some (.int .i64 (z : Nat)) := q8.cell (i := 1) rfl
    have zx := q8.lt
    have HS8 := Lib.hid hS8
    have hM8 := HM3.out.below (Nat.le_refl _) hS8.below
    have HM8 := Lib.hid hM8
    clear hown hgrow hne8 Q7 hii hz0 hz1 hz2 hS8 HRQ hM8 q8
    go_wp2_with fail
    refine (last_any m n L nw W D z w8 HM8.out (by omega) hbz.2).mono ?_
    rintro e w9 ⟨rfl, kk, rfl⟩
    have hS9 := HS8.out.under (below_drewN (Below.refl _ _) kk)
    have x1' : (w8.drewN kk).cell? ⟨px, 1, none⟩ = some (.int .i64 (z : Nat)) := x1
    have zx' : px < (w8.drewN kk).heap.size := zx
    obtain ⟨w9, hw9⟩ : ∃ w9, w9 = w8.drewN kk := ⟨_, rfl⟩
    rw [← hw9] at hS9 x1' zx' ⊢
    have HS9 := Lib.hid hS9
    have hM9 := HM3.out.below (Nat.le_refl _) hS9.below
    have HM9 := Lib.hid hM9
    clear hw9 HS8 HM8 x1 zx hS9
    cases hlb : lastB n L z
    · have HN := Lib.hid (HNEXTP.out hlb)
      have haf := HAFT.out hlb
      have HLB := Lib.hid hlb
      clear HLASTP HNEXTP HAFT hlb
      have f1 : IntKind.i64.wrap ((num : Int) + 1) = (num : Int) + 1 := IntWalk.i64_in _ ⟨by omega, by omega⟩
      have HA1 := Lib.hid (fun kq => after_any m n L nw W D z (w9.drewN kq) (HM9.out.below (Nat.le_refl _) (below_drewN (Below.refl _ _) kq)) (by omega) hbz.2)
      have HA2 := Lib.hid (fun kq => flagged_any m n L nw W D z (w9.drewN kq) (HM9.out.below (Nat.le_refl _) (below_drewN (Below.refl _ _) kq)) (by omega) hbz.2)
      clear hM9
      go_wp2_with fail
      go_quiet (first | (go_at_call 59; exact quiet_call (HA1.out _)) | (go_at_call 60; exact quiet_call (HA2.out _)))
      go_wp2_with fail
      go_roundw
      case rel =>
        refine ⟨aftF n L z, num + 1, flgB n L z, xs ++ [⟨xa, xz, Nt, St, Rs, Wd⟩], G5, rfl, by go_num, rfl, by omega, by omega, HN.out, by simp; omega, HS9.out.under (below_drewN (Below.refl _ _) _)⟩
      case measure => simp [intOf]; omega
    · have HN := Lib.hid (HLASTP.out hlb)
      clear HLASTP HNEXTP HAFT hlb
      obtain ⟨aP', cP', aW', cW', gw', gg', gy', gb', ⟨_, _, _, _, _, _, m6⟩, _, _, _, _, _, mbg⟩ := hM9
      have m6b := mbg 0 (by omega)
      rw [← HB0.out] at m6b
      have zm := lt_of_cell m6
      have zg := lt_of_cell m6b
      simp only at zm zg
      clear mbg
      go_wp2_with fail
      refine (HBEST.out b0 0 false w9 G5 hbg.2 (by omega) (by omega) HS9.out.below HS9.out.work HS9.out.workO HS9.out.memo).mono ?_
      rintro e w10 ⟨rfl, G6, hM10, hF10⟩
      have hS10 := HS9.out.step hM10 hF10
      rw [show planV (bestF n L nw W D b0 0 false) = .agg #[.bool true, .int .i64 (bestF n L nw W D b0 0 false).1, .int .i64 (bestF n L nw W D b0 0 false).2.1, .int .i64 (bestF n L nw W D b0 0 false).2.2] from rfl]
      rw [← HC.out]
      generalize (bestF n L nw W D b0 0 false).1 = y1
      generalize (bestF n L nw W D b0 0 false).2.2 = y3
      have hfd := field_cost y1 y3 C
      clear m6 m6b zm zg x1' zx'
      have HS10 := Lib.hid hS10
      clear hS10 hM10 hF10
      go_wp2_with fail
      go_ret3
      refine ⟨v8, rfl, ?_, hb03.trans (HS10.out.below.mono hb03.size)⟩
      rw [HN.out]
      exact HS10.out.lines.mono hb03.size
end Go.Proofs.Ytnigebnibikolaa.LN
