
/-
  metric.within, Mark, single, Em.
-/
import Derived.Test.YtnigebnibikolaaDoorProg
import Derived.Test.YtnigebnibikolaaDoorMeTabs
import Derived.Test.YtnigebnibikolaaDoorOwn
import Derived.WalkLawsBesides
import Derived.Lib.Hide
import Derived.BigQuiet
namespace Go.Proofs.YtnigebnibikolaaDoor.ME
open Go.RowKit Go.Law Go.Law.Me
set_option linter.unusedVariables false
set_option linter.unusedSimpArgs false
set_option maxRecDepth 100000
def winV (T : List (List Int)) (c : Int) : Int := lookC c (rows3 T ++ []) 0
/-- the cells of a table -/
def Cells3 (w : World) (b off : Nat) (T : List (List Int)) : Prop := ∀ i j, i < T.length → j < 3 → w.cell? ⟨b, off + i * 3 + j, none⟩ = some (.int .i64 (ent T i j))
set_option maxHeartbeats 1000000 in
theorem within_any (T : List (List Int)) (c : Int) (b off cap : Nat) (w : World) (ht : Cells3 w b off T) (hl : T.length ≤ 100) :
    Calls Tryd.prog 40 #[.slice (some ⟨b, off, none⟩) T.length cap, .int .i64 c] w fun e w' => e = .returned (.tuple #[.int .i64 (winV T c), .bool (anyR c (rngs T))]) ∧ Below w.heap.size w w' := by
  have HT := Lib.hid ht
  have HV := Lib.hid (fun (k : Nat) (h1 : k < T.length) (h2 : ∀ j, j < k → hit T c j = false) (h3 : hit T c k = true) => (⟨show winV T c = ent T k 2 from rows3_some h1 h2 h3, rngs_some h1 h3⟩ : winV T c = ent T k 2 ∧ anyR c (rngs T) = true))
  have HN := Lib.hid (fun (h : ∀ j, j < T.length → hit T c j = false) => (⟨show winV T c = 0 from (rows3_none h).trans rfl, rngs_none h⟩ : winV T c = 0 ∧ anyR c (rngs T) = false))
  obtain ⟨V, hV⟩ : ∃ V, V = winV T c := ⟨_, rfl⟩
  obtain ⟨B, hB⟩ : ∃ B, B = anyR c (rngs T) := ⟨_, rfl⟩
  rw [← hV, ← hB] at HV HN ⊢
  obtain ⟨m, hm⟩ : ∃ m, m = T.length := ⟨_, rfl⟩
  have HM := Lib.hid hm
  rw [← hm] at HN hl ⊢
  clear ht hV hB hm
  go_enter Tryd.func40, Tryd.ntmps40
  go_wp2_with fail
  go_loopw [10] (fun ix wr => ∃ k : Nat, ix = .int .i64 k ∧ k ≤ m ∧ (∀ j, j < k → hit T c j = false) ∧ Below w.heap.size w wr) (fun ix _ => m - (intOf ix).toNat)
  case atStart => exact ⟨0, rfl, by omega, fun j hj => by omega, Below.refl _ _⟩
  case round =>
    obtain ⟨k, rfl, hk, hno, hbel⟩ := hrel
    have HNO := Lib.hid hno
    clear hno
    by_cases hk7 : k < m
    · have hkT : k < T.length := by rw [← HM.out]; exact hk7
      have d0 := (hbel.cell (lt_of_cell (HT.out k 0 hkT (by omega)))).trans (HT.out k 0 hkT (by omega))
      have d1 := (hbel.cell (lt_of_cell (HT.out k 1 hkT (by omega)))).trans (HT.out k 1 hkT (by omega))
      have d2 := (hbel.cell (lt_of_cell (HT.out k 2 hkT (by omega)))).trans (HT.out k 2 hkT (by omega))
      rw [Nat.add_zero] at d0
      have hsz := hbel.size
      obtain ⟨x, hx⟩ : ∃ x, x = ent T k 0 := ⟨_, rfl⟩
      obtain ⟨y, hy⟩ : ∃ y, y = ent T k 1 := ⟨_, rfl⟩
      obtain ⟨z, hz⟩ : ∃ z, z = ent T k 2 := ⟨_, rfl⟩
      have HH := Lib.hid (show hit T c k = decide (x ≤ c ∧ c ≤ y) by rw [hx, hy]; rfl)
      rw [← hx] at d0
      rw [← hy] at d1
      rw [← hz] at d2
      have HZ := Lib.hid hz
      have HKT := Lib.hid hkT
      clear hx hy hz hkT
      by_cases hc : x ≤ c ∧ c ≤ y
      · have HL := Lib.hid (HV.out k HKT.out HNO.out (by rw [HH.out]; simpa using hc))
        rw [← HZ.out] at HL
        obtain ⟨hc1, hc2⟩ := hc
        go_wp2_with fail
        go_ret2
        refine ⟨by rw [HL.out.1, HL.out.2]; rfl, ?_⟩
        repeat' (with_reducible first | exact Below.refl _ _ | assumption | refine Below.setCell ?_ ?_ _ | refine Below.alloc ?_ ?_ _ | refine below_drewN ?_ _ | refine Below.drew ?_)
        all_goals first | omega | (simp; done) | (simp; omega)
      · have HC := Lib.hid hc
        clear hc
        go_wp2_with fail
        all_goals first | (exfalso; have := HC.out; omega) | skip
        all_goals
          go_roundw
          case rel =>
            refine ⟨k + 1, by go_num, by omega, fun j hj => ?_, ?_⟩
            · rcases Nat.lt_or_ge j k with h | h
              · exact HNO.out j h
              · rw [show j = k by omega, HH.out]; simpa using HC.out
            · repeat' (with_reducible first | exact Below.refl _ _ | assumption | refine Below.setCell ?_ ?_ _ | refine Below.alloc ?_ ?_ _ | refine below_drewN ?_ _ | refine Below.drew ?_)
              all_goals first | omega | (simp; done) | (simp; omega)
          case measure => simp [intOf]; omega
    · obtain rfl : k = m := by omega
      have HL := Lib.hid (HN.out HNO.out)
      go_wp2_with fail
      go_ret2
      exact ⟨by rw [HL.out.1, HL.out.2]; rfl, hbel⟩
/-- a table in its variable, for a world -/
theorem cells_of {w : World} {g : Nat} {T : List (List Int)} (h : TabAt w g 3 T) (hk : ∀ r ∈ T, r.length = 3) :
    ∃ b off cap, w.cell? ⟨g, 0, none⟩ = some (.slice (some ⟨b, off, none⟩) T.length cap) ∧ Cells3 w b off T := by
  obtain ⟨b, off, cap, h1, h2⟩ := h.ents hk
  exact ⟨b, off, cap, h1, h2⟩
theorem marks_len : ∀ r ∈ marksT, r.length = 3 := by decide
theorem others_len : ∀ r ∈ othersT, r.length = 3 := by decide
/-- both tables -/
structure Tabs (w : World) : Prop where
  others : TabAt w 0 3 othersT
  marks : TabAt w 1 3 marksT
theorem Tabs.below {W w : World} {B : Nat} (h : Tabs W) (hB : W.heap.size ≤ B) (hb : Below B W w) : Tabs w :=
  ⟨h.others.below others_len (by omega) (by decide) hB hb, h.marks.below marks_len (by omega) (by decide) hB hb⟩
set_option maxHeartbeats 1000000 in
theorem mark_any (c : Int) (w : World) (ht : Tabs w) :
    Calls Tryd.prog 13 #[.int .i64 c] w fun e w' => e = .returned (.bool (markC c)) ∧ Below w.heap.size w w' := by
  obtain ⟨b, off, cap, h1, h2⟩ := cells_of ht.marks marks_len
  have hw := within_any marksT c b off cap w h2 (by decide)
  rw [show marksT.length = 12 from rfl] at h1 hw
  have HW := Lib.hid hw
  have HM := Lib.hid (show anyR c (rngs marksT) = markC c from rfl)
  clear h2 hw ht
  go_enter Tryd.func13, Tryd.ntmps13
  go_wp2_with fail
  refine HW.out.mono ?_
  rintro e w1 ⟨rfl, hb1⟩
  rw [HM.out]
  go_wp2_with fail
  go_ret
  exact ⟨rfl, hb1⟩
/-- the characters with widths of their own -/
def sglV (c : Int) : Int := lookC c singleR 0
def sglB (c : Int) : Bool := singleR.any fun x => anyR c x.1
set_option maxHeartbeats 2000000 in
theorem single_any (c : Int) (w : World) :
    Calls Tryd.prog 39 #[.int .i64 c] w fun e w' => e = .returned (.tuple #[.int .i64 (sglV c), .bool (sglB c)]) ∧ w = w' := by
  obtain ⟨V, hV⟩ : ∃ V, V = sglV c := ⟨_, rfl⟩
  obtain ⟨B, hB⟩ : ∃ B, B = sglB c := ⟨_, rfl⟩
  rw [← hV, ← hB]
  have HV := Lib.hid hV
  have HB := Lib.hid hB
  clear hV hB
  go_enter Tryd.func39, Tryd.ntmps39
  go_wp2_with fail
  all_goals
    go_ret2
    have e1 := HV.out
    have e2 := HB.out
    clear HV HB
    go_tidy
    simp only [beqR] at *
    simp only [sglV, sglB, singleR, lookC, anyR, one, List.any_cons, List.any_nil] at e1 e2
    simp [*] at e1 e2
    subst e1 e2
    first | exact ⟨rfl, rfl⟩ | simp
end Go.Proofs.YtnigebnibikolaaDoor.ME
