

/-
  The small methods of a maker of lines.
-/
import Derived.Test.YtnigebnibikolaaProg
import Derived.Test.YtnigebnibikolaaLnMk
import Derived.Test.YtnigebnibikolaaCommon
import Derived.Test.YtnigebnibikolaaBlk
import Derived.WalkLawsBesides
import Derived.Lib.Hide
import Derived.BigQuiet
namespace Go.Proofs.Ytnigebnibikolaa.LN
open Go.RowKit Go.Law Go.Law.Ln
set_option linter.unusedVariables false
set_option linter.unusedSimpArgs false
set_option maxRecDepth 100000
theorem must_any (m n : Nat) (L : Nat → Part) (nw : Nat) (W : Nat → Int) (D : Int) (i : Nat) (w : World) (hm : Mk w m n L nw W D) (hn : n ≤ 8000) (hi : i ≤ n) :
    Calls Try.prog 80 #[.pointer (some ⟨m, 0, none⟩), .int .i64 i] w fun e w' => e = .returned (.bool (mustB n L i)) ∧ w = w' := by
  obtain ⟨aP, cP, aW, cW, gw, gg, gy, gb, ⟨m0, m1, m2, m3, m4, m5, m6⟩, mP, mW, mwd, mgr, myl, mbg⟩ := hm
  have zm := lt_of_cell m0
  simp only at zm
  by_cases hin : i = n
  · subst hin
    rw [mustB_end]
    clear mP mW mwd mgr myl mbg
    go_enter Try.func80, Try.ntmps80
    go_wp2_with fail
    go_ret
    exact ⟨rfl, rfl⟩
  · have hlt : i < n := by omega
    have ne : ((i : Int) == (n : Int)) = false := by simp; omega
    obtain ⟨b, off, rfl, hcell⟩ := mP (by omega)
    have d0 : w.cell? ⟨b, off + i * 6 + 0, none⟩ = some ((L i).V 0) := hcell i (by omega) 0 (by omega)
    have d1 : w.cell? ⟨b, off + i * 6 + 1, none⟩ = some ((L i).V 1) := hcell i (by omega) 1 (by omega)
    have d2 : w.cell? ⟨b, off + i * 6 + 2, none⟩ = some ((L i).V 2) := hcell i (by omega) 2 (by omega)
    have d3 : w.cell? ⟨b, off + i * 6 + 3, none⟩ = some ((L i).V 3) := hcell i (by omega) 3 (by omega)
    have d4 : w.cell? ⟨b, off + i * 6 + 4, none⟩ = some ((L i).V 4) := hcell i (by omega) 4 (by omega)
    have d5 : w.cell? ⟨b, off + i * 6 + 5, none⟩ = some ((L i).V 5) := hcell i (by omega) 5 (by omega)
    obtain ⟨p, hp⟩ : ∃ p, p = L i := ⟨_, rfl⟩
    rw [← hp] at d0 d1 d2 d3 d4 d5
    have HP := Lib.hid hp
    have zb := lt_of_cell d0
    simp only at zb
    clear hp
    obtain ⟨K, Wi, S, R, C, F⟩ := p
    simp only [Part.V] at d0 d1 d2 d3 d4 d5
    rw [Nat.add_zero] at d0
    have HV := Lib.hid (show mustB n L i = (decide (K = 2) && decide (C = -10000)) by unfold mustB; rw [← HP.out]; simp [hin])
    clear mP mW mwd mgr myl mbg hcell hin
    by_cases hk : K = 2
    · subst hk
      by_cases hc : C = -10000
      · subst hc
        go_enter Try.func80, Try.ntmps80
        go_wp2_with fail
        go_ret
        exact ⟨by rw [HV.out]; rfl, rfl⟩
      · have hc2 : (C == -10000) = false := by simpa using hc
        go_enter Try.func80, Try.ntmps80
        go_wp2_with fail
        go_ret
        exact ⟨by rw [HV.out]; simp [hc], rfl⟩
    · have hk2 : (K == 2) = false := by simpa using hk
      go_enter Try.func80, Try.ntmps80
      go_wp2_with fail
      go_ret
      exact ⟨by rw [HV.out]; simp [hk], rfl⟩
theorem added_any (m n : Nat) (L : Nat → Part) (nw : Nat) (W : Nat → Int) (D : Int) (i : Nat) (w : World) (hm : Mk w m n L nw W D) (hn : n ≤ 8000) (hi : i ≤ n) :
    Calls Try.prog 82 #[.pointer (some ⟨m, 0, none⟩), .int .i64 i] w fun e w' => e = .returned (.int .i64 (addF n L i)) ∧ w = w' := by
  obtain ⟨aP, cP, aW, cW, gw, gg, gy, gb, ⟨m0, m1, m2, m3, m4, m5, m6⟩, mP, mW, mwd, mgr, myl, mbg⟩ := hm
  have zm := lt_of_cell m0
  simp only at zm
  by_cases hin : i = n
  · subst hin
    have HV := Lib.hid (show addF i L i = 0 by unfold addF; rw [if_neg (by omega)])
    clear mP mW mwd mgr myl mbg
    go_enter Try.func82, Try.ntmps82
    go_wp2_with fail
    go_ret
    exact ⟨by rw [HV.out]; rfl, rfl⟩
  · have hlt : i < n := by omega
    obtain ⟨b, off, rfl, hcell⟩ := mP (by omega)
    have d0 : w.cell? ⟨b, off + i * 6 + 0, none⟩ = some ((L i).V 0) := hcell i (by omega) 0 (by omega)
    have d1 : w.cell? ⟨b, off + i * 6 + 1, none⟩ = some ((L i).V 1) := hcell i (by omega) 1 (by omega)
    have d2 : w.cell? ⟨b, off + i * 6 + 2, none⟩ = some ((L i).V 2) := hcell i (by omega) 2 (by omega)
    have d3 : w.cell? ⟨b, off + i * 6 + 3, none⟩ = some ((L i).V 3) := hcell i (by omega) 3 (by omega)
    have d4 : w.cell? ⟨b, off + i * 6 + 4, none⟩ = some ((L i).V 4) := hcell i (by omega) 4 (by omega)
    have d5 : w.cell? ⟨b, off + i * 6 + 5, none⟩ = some ((L i).V 5) := hcell i (by omega) 5 (by omega)
    obtain ⟨p, hp⟩ : ∃ p, p = L i := ⟨_, rfl⟩
    rw [← hp] at d0 d1 d2 d3 d4 d5
    have HP := Lib.hid hp
    have zb := lt_of_cell d0
    simp only at zb
    clear hp
    obtain ⟨K, Wi, S, R, C, F⟩ := p
    simp only [Part.V] at d0 d1 d2 d3 d4 d5
    rw [Nat.add_zero] at d0
    by_cases hk : K = 2
    · subst hk
      have HV := Lib.hid (show addF n L i = Wi by unfold addF; rw [if_pos ⟨hlt, by rw [← HP.out]⟩, ← HP.out])
      clear mP mW mwd mgr myl mbg hcell hin
      go_enter Try.func82, Try.ntmps82
      go_wp2_with fail
      go_ret
      exact ⟨by rw [HV.out]; rfl, rfl⟩
    · have HV := Lib.hid (show addF n L i = 0 by unfold addF; rw [if_neg (by rw [← HP.out]; exact fun h => hk h.2)])
      have hk2 : (K == 2) = false := by simpa using hk
      clear mP mW mwd mgr myl mbg hcell hin
      go_enter Try.func82, Try.ntmps82
      go_wp2_with fail
      go_ret
      exact ⟨by rw [HV.out]; rfl, rfl⟩
theorem flagged_any (m n : Nat) (L : Nat → Part) (nw : Nat) (W : Nat → Int) (D : Int) (i : Nat) (w : World) (hm : Mk w m n L nw W D) (hn : n ≤ 8000) (hi : i ≤ n) :
    Calls Try.prog 60 #[.pointer (some ⟨m, 0, none⟩), .int .i64 i] w fun e w' => e = .returned (.bool (flgB n L i)) ∧ w = w' := by
  obtain ⟨aP, cP, aW, cW, gw, gg, gy, gb, ⟨m0, m1, m2, m3, m4, m5, m6⟩, mP, mW, mwd, mgr, myl, mbg⟩ := hm
  have zm := lt_of_cell m0
  simp only at zm
  by_cases hin : i = n
  · subst hin
    have HV := Lib.hid (show flgB i L i = false by unfold flgB; simp)
    clear mP mW mwd mgr myl mbg
    go_enter Try.func60, Try.ntmps60
    go_wp2_with fail
    go_ret
    exact ⟨by rw [HV.out]; rfl, rfl⟩
  · have hlt : i < n := by omega
    obtain ⟨b, off, rfl, hcell⟩ := mP (by omega)
    have d0 : w.cell? ⟨b, off + i * 6 + 0, none⟩ = some ((L i).V 0) := hcell i (by omega) 0 (by omega)
    have d1 : w.cell? ⟨b, off + i * 6 + 1, none⟩ = some ((L i).V 1) := hcell i (by omega) 1 (by omega)
    have d2 : w.cell? ⟨b, off + i * 6 + 2, none⟩ = some ((L i).V 2) := hcell i (by omega) 2 (by omega)
    have d3 : w.cell? ⟨b, off + i * 6 + 3, none⟩ = some ((L i).V 3) := hcell i (by omega) 3 (by omega)
    have d4 : w.cell? ⟨b, off + i * 6 + 4, none⟩ = some ((L i).V 4) := hcell i (by omega) 4 (by omega)
    have d5 : w.cell? ⟨b, off + i * 6 + 5, none⟩ = some ((L i).V 5) := hcell i (by omega) 5 (by omega)
    obtain ⟨p, hp⟩ : ∃ p, p = L i := ⟨_, rfl⟩
    rw [← hp] at d0 d1 d2 d3 d4 d5
    have HP := Lib.hid hp
    have zb := lt_of_cell d0
    simp only at zb
    clear hp
    obtain ⟨K, Wi, S, R, C, F⟩ := p
    simp only [Part.V] at d0 d1 d2 d3 d4 d5
    rw [Nat.add_zero] at d0
    have HV := Lib.hid (show flgB n L i = F by unfold flgB; rw [← HP.out]; simp [hlt])
    clear mP mW mwd mgr myl mbg hcell hin
    go_enter Try.func60, Try.ntmps60
    go_wp2_with fail
    go_ret
    exact ⟨by rw [HV.out]; rfl, rfl⟩
theorem after_any (m n : Nat) (L : Nat → Part) (nw : Nat) (W : Nat → Int) (D : Int) (i : Nat) (w : World) (hm : Mk w m n L nw W D) (hn : n ≤ 8000) (hi : i ≤ n) :
    Calls Try.prog 59 #[.pointer (some ⟨m, 0, none⟩), .int .i64 i] w fun e w' => e = .returned (.int .i64 (aftF n L i)) ∧ w = w' := by
  obtain ⟨aP, cP, aW, cW, gw, gg, gy, gb, ⟨m0, m1, m2, m3, m4, m5, m6⟩, mP, mW, mwd, mgr, myl, mbg⟩ := hm
  have zm := lt_of_cell m0
  simp only at zm
  by_cases hin : i = n
  · subst hin
    have HV := Lib.hid (show aftF i L i = i by unfold aftF; rw [if_pos rfl])
    clear mP mW mwd mgr myl mbg
    go_enter Try.func59, Try.ntmps59
    go_wp2_with fail
    go_ret
    exact ⟨by rw [HV.out]; rfl, rfl⟩
  · have hlt : i < n := by omega
    have ne : ((i : Int) == (n : Int)) = false := by simp; omega
    have HV := Lib.hid (show aftF n L i = begF n L (i + 1) by unfold aftF; rw [if_neg hin])
    have d0 := mbg (i + 1) (by omega)
    obtain ⟨V, hV⟩ : ∃ V, V = begF n L (i + 1) := ⟨_, rfl⟩
    rw [← hV] at d0 HV
    clear mP mW mwd mgr myl mbg hin hV
    go_enter Try.func59, Try.ntmps59
    go_wp2_with fail
    go_ret
    exact ⟨by rw [HV.out]; rfl, rfl⟩
theorem last_any (m n : Nat) (L : Nat → Part) (nw : Nat) (W : Nat → Int) (D : Int) (i : Nat) (w : World) (hm : Mk w m n L nw W D) (hn : n ≤ 8000) (hi : i ≤ n) :
    Calls Try.prog 58 #[.pointer (some ⟨m, 0, none⟩), .int .i64 i] w fun e w' => e = .returned (.bool (lastB n L i)) ∧ ∃ k, w' = w.drewN k := by
  have HA := Lib.hid (fun k => (after_any m n L nw W D i (w.drewN k) (hm.below (Nat.le_refl _) (below_drewN (Below.refl _ _) k)) hn hi))
  obtain ⟨aP, cP, aW, cW, gw, gg, gy, gb, ⟨m0, m1, m2, m3, m4, m5, m6⟩, mP, mW, mwd, mgr, myl, mbg⟩ := hm
  have zm := lt_of_cell m0
  simp only at zm
  have HV := Lib.hid (show lastB n L i = (((aftF n L i : Nat) : Int) == (n : Int)) by unfold lastB; rw [Bool.eq_iff_iff]; simp; omega)
  obtain ⟨V, hV⟩ : ∃ V, V = aftF n L i := ⟨_, rfl⟩
  rw [← hV] at HA HV
  clear mP mW mwd mgr myl mbg hV
  go_enter Try.func58, Try.ntmps58
  go_wp2_with fail
  go_quiet ((go_at_call 59; exact quiet_call (HA.out _)))
  go_wp2_with fail
  go_ret
  exact ⟨by rw [HV.out]; rfl, _, rfl⟩
end Go.Proofs.Ytnigebnibikolaa.LN
