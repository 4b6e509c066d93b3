
/-
  bidi.Class and bidi.Mirror go through their tables; pairOf; some.
-/
import Derived.Test.YtpbnkkeplhgepaaDoorDoorSmall
import Derived.Test.YtpbnkkeplhgepaaDoorDoorDirT
import Derived.Test.YtpbnkkeplhgepaaDoorOwn
namespace Go.Proofs.YtpbnkkeplhgepaaDoor.PC
open Go.RowKit Go.Law
set_option linter.unusedVariables false
set_option linter.unusedSimpArgs false
set_option maxRecDepth 100000
theorem table_len : ∀ r ∈ tableT, r.length = 3 := by decide
set_option maxHeartbeats 1000000 in
theorem class_any (c : Int) (w : World) (ht : TabAt w 2 3 tableT) :
    Calls Tryd.prog 10 #[.int .i64 c] w fun e w' => e = .returned (.int .i64 (lookR c tableT)) ∧ Below w.heap.size w w' := by
  obtain ⟨b, off, cap, h1, h2⟩ := ht.ents table_len
  rw [show tableT.length = 65 from rfl] at h1 h2
  have HT := Lib.hid h2
  clear h2
  go_enter Tryd.func10, Tryd.ntmps10
  go_wp2
  go_loopw [7] (fun ix wr => ∃ k : Nat, ix = .int .i64 k ∧ k ≤ 65 ∧ (∀ j, j < k → hit tableT c j = false) ∧ Below w.heap.size w wr) (fun ix _ => 65 - (intOf ix).toNat)
  case atStart => exact ⟨0, rfl, by omega, fun j hj => by omega, Below.refl _ _⟩
  case round =>
    obtain ⟨k, rfl, hk, hno, hbel⟩ := hrel
    have HN := Lib.hid hno
    clear hno
    by_cases hk7 : k < 65
    · have d0 := (hbel.cell (lt_of_cell (HT.out k 0 hk7 (by omega)))).trans (HT.out k 0 hk7 (by omega))
      have d1 := (hbel.cell (lt_of_cell (HT.out k 1 hk7 (by omega)))).trans (HT.out k 1 hk7 (by omega))
      have d2 := (hbel.cell (lt_of_cell (HT.out k 2 hk7 (by omega)))).trans (HT.out k 2 hk7 (by omega))
      rw [Nat.add_zero] at d0
      have hsz := hbel.size
      obtain ⟨x, hx⟩ : ∃ x, x = ent tableT k 0 := ⟨_, rfl⟩
      obtain ⟨y, hy⟩ : ∃ y, y = ent tableT k 1 := ⟨_, rfl⟩
      obtain ⟨z, hz⟩ : ∃ z, z = ent tableT k 2 := ⟨_, rfl⟩
      have HH := Lib.hid (show hit tableT c k = decide (x ≤ c ∧ c ≤ y) by rw [hx, hy]; rfl)
      rw [← hx] at d0
      rw [← hy] at d1
      rw [← hz] at d2
      have HZ := Lib.hid hz
      clear hx hy hz
      by_cases hc : x ≤ c ∧ c ≤ y
      · have HL := Lib.hid (show lookR c tableT = z by rw [lookR_hit c tableT k hk7 HN.out (by rw [HH.out]; simpa using hc), HZ.out])
        go_wp2
        go_ret
        refine ⟨by rw [HL.out]; rfl, ?_⟩
        repeat' (with_reducible first | exact Below.refl _ _ | assumption | refine Below.setCell ?_ ?_ _ | refine Below.alloc ?_ ?_ _ | refine below_drewN ?_ _ | refine Below.drew ?_)
        all_goals first | omega | (simp; done) | (simp; omega)
      · have HC := Lib.hid hc
        clear hc
        go_wp2
        all_goals first | (exfalso; have := HC.out; omega) | skip
        all_goals
          go_roundw
          case rel =>
            refine ⟨k + 1, by go_num, by omega, fun j hj => ?_, ?_⟩
            · rcases Nat.lt_or_ge j k with h | h
              · exact HN.out j h
              · rw [show j = k by omega, HH.out]; simpa using HC.out
            · repeat' (with_reducible first | exact Below.refl _ _ | assumption | refine Below.setCell ?_ ?_ _ | refine Below.alloc ?_ ?_ _ | refine below_drewN ?_ _ | refine Below.drew ?_)
              all_goals first | omega | (simp; done) | (simp; omega)
          case measure => simp [intOf]; omega
    · obtain rfl : k = 65 := by omega
      have HL := Lib.hid (show lookR c tableT = 0 by rw [← List.append_nil tableT, lookR_append c tableT [] HN.out]; rfl)
      go_wp2
      go_ret
      exact ⟨by rw [HL.out]; rfl, hbel⟩

/-- the other one of a pair -/
def mirR (c : Int) : List (List Int) → Int
  | [] => c
  | r :: t => if c = r.getD 0 0 then r.getD 1 0 else if c = r.getD 1 0 then r.getD 0 0 else mirR c t
theorem mirR_at (c : Int) : ∀ (S : List (List Int)) (k : Nat), k < S.length → (∀ i, i < k → c ≠ ent S i 0 ∧ c ≠ ent S i 1) →
    (c = ent S k 0 → mirR c S = ent S k 1) ∧ (c ≠ ent S k 0 → c = ent S k 1 → mirR c S = ent S k 0)
  | r :: S, 0, _, _ => by
    refine ⟨fun h => ?_, fun h1 h2 => ?_⟩
    · show (if _ then _ else _) = _
      rw [if_pos (by simpa [ent] using h)]; rfl
    · show (if _ then _ else _) = _
      rw [if_neg (by simpa [ent] using h1), if_pos (by simpa [ent] using h2)]; rfl
  | r :: S, k + 1, hl, hn => by
    have h0 := hn 0 (by omega)
    have ih := mirR_at c S k (by simpa using hl) (fun i hi => by simpa [ent] using hn (i + 1) (by omega))
    have e : mirR c (r :: S) = mirR c S := by
      show (if _ then _ else _) = _
      rw [if_neg (by simpa [ent] using h0.1), if_neg (by simpa [ent] using h0.2)]
    rw [e]
    simpa [ent] using ih
theorem mirR_none (c : Int) : ∀ (S : List (List Int)), (∀ i, i < S.length → c ≠ ent S i 0 ∧ c ≠ ent S i 1) → mirR c S = c
  | [], _ => rfl
  | r :: S, hn => by
    have h0 := hn 0 (by simp)
    show (if _ then _ else _) = _
    rw [if_neg (by simpa [ent] using h0.1), if_neg (by simpa [ent] using h0.2)]
    exact mirR_none c S fun i hi => by simpa [ent] using hn (i + 1) (by simpa using hi)
theorem brackets_len : ∀ r ∈ bracketsT, r.length = 2 := by decide
set_option maxHeartbeats 1000000 in
theorem mirror_any (c : Int) (w : World) (ht : TabAt w 3 2 bracketsT) :
    Calls Tryd.prog 11 #[.int .i64 c] w fun e w' => e = .returned (.int .i64 (mirR c bracketsT)) ∧ Below w.heap.size w w' := by
  obtain ⟨b, off, cap, h1, h2⟩ := ht.ents brackets_len
  rw [show bracketsT.length = 7 from rfl] at h1 h2
  have HT := Lib.hid h2
  clear h2
  go_enter Tryd.func11, Tryd.ntmps11
  go_wp2
  go_loopw [7] (fun ix wr => ∃ k : Nat, ix = .int .i64 k ∧ k ≤ 7 ∧ (∀ j, j < k → c ≠ ent bracketsT j 0 ∧ c ≠ ent bracketsT j 1) ∧ Below w.heap.size w wr) (fun ix _ => 7 - (intOf ix).toNat)
  case atStart => exact ⟨0, rfl, by omega, fun j hj => by omega, Below.refl _ _⟩
  case round =>
    obtain ⟨k, rfl, hk, hno, hbel⟩ := hrel
    have HN := Lib.hid hno
    clear hno
    by_cases hk7 : k < 7
    · have d0 := (hbel.cell (lt_of_cell (HT.out k 0 hk7 (by omega)))).trans (HT.out k 0 hk7 (by omega))
      have d1 := (hbel.cell (lt_of_cell (HT.out k 1 hk7 (by omega)))).trans (HT.out k 1 hk7 (by omega))
      rw [Nat.add_zero] at d0
      have hsz := hbel.size
      have hat := mirR_at c bracketsT k hk7 HN.out
      obtain ⟨x, hx⟩ : ∃ x, x = ent bracketsT k 0 := ⟨_, rfl⟩
      obtain ⟨y, hy⟩ : ∃ y, y = ent bracketsT k 1 := ⟨_, rfl⟩
      rw [← hx] at d0 hat
      rw [← hy] at d1 hat
      have HX := Lib.hid hx
      have HY := Lib.hid hy
      have HA := Lib.hid hat
      clear hx hy hat
      by_cases hc : c = x
      · have hc' : (c == x) = true := by simpa using hc
        have HL := Lib.hid (HA.out.1 hc)
        clear hc
        go_wp2
        go_ret
        refine ⟨by rw [HL.out]; rfl, ?_⟩
        repeat' (with_reducible first | exact Below.refl _ _ | assumption | refine Below.setCell ?_ ?_ _ | refine Below.alloc ?_ ?_ _ | refine below_drewN ?_ _ | refine Below.drew ?_)
        all_goals first | omega | (simp; done) | (simp; omega)
      · have hc' : (c == x) = false := by simpa using hc
        by_cases hd : c = y
        · have hd' : (c == y) = true := by simpa using hd
          have HL := Lib.hid (HA.out.2 hc hd)
          clear hc hd
          go_wp2
          go_ret
          refine ⟨by rw [HL.out]; rfl, ?_⟩
          repeat' (with_reducible first | exact Below.refl _ _ | assumption | refine Below.setCell ?_ ?_ _ | refine Below.alloc ?_ ?_ _ | refine below_drewN ?_ _ | refine Below.drew ?_)
          all_goals first | omega | (simp; done) | (simp; omega)
        · have hd' : (c == y) = false := by simpa using hd
          have HC := Lib.hid (And.intro hc hd)
          clear hc hd
          go_wp2
          go_roundw
          case rel =>
            refine ⟨k + 1, by go_num, by omega, fun j hj => ?_, ?_⟩
            · rcases Nat.lt_or_ge j k with h | h
              · exact HN.out j h
              · rw [show j = k by omega, ← HX.out, ← HY.out]; exact HC.out
            · repeat' (with_reducible first | exact Below.refl _ _ | assumption | refine Below.setCell ?_ ?_ _ | refine Below.alloc ?_ ?_ _ | refine below_drewN ?_ _ | refine Below.drew ?_)
              all_goals first | omega | (simp; done) | (simp; omega)
          case measure => simp [intOf]; omega
    · obtain rfl : k = 7 := by omega
      have HL := Lib.hid (mirR_none c bracketsT HN.out)
      go_wp2
      go_ret
      exact ⟨by rw [HL.out]; rfl, hbel⟩
set_option maxHeartbeats 1000000 in
theorem pair_any (c : Int) (w : World) :
    Calls Tryd.prog 15 #[.int .i64 c] w fun e w' => ∃ r, e = .returned (.int .i64 r) ∧ ((0 ≤ r ∧ r ≤ 13) ↔ c ∈ pairsL) ∧ Below w.heap.size w w' := by
  go_enter Tryd.func15, Tryd.ntmps15
  go_wp2
  go_loop [7] (fun ix => ∃ k : Nat, ix = .int .i64 k ∧ k ≤ 14 ∧ (∀ j, j < k → pairsL.getD j 0 ≠ c)) (fun ix => 14 - (intOf ix).toNat)
  case atStart => exact ⟨0, rfl, by omega, fun j hj => by omega⟩
  case round =>
    obtain ⟨k, rfl, hk, hno⟩ := hrel
    have HN := Lib.hid hno
    clear hno
    by_cases hk7 : k < 14
    · have d1 : (w.alloc (.cells (pairsL.map (Value.int .i64)).toArray 3)).cell? ⟨w.heap.size, k, none⟩ = some (.int .i64 (pairsL.getD k 0)) := by
        rw [World.cell?_alloc_new]
        have : k < pairsL.length := hk7
        simp [this]
      obtain ⟨x, hx⟩ : ∃ x, x = pairsL.getD k 0 := ⟨_, rfl⟩
      rw [← hx] at d1
      have HX := Lib.hid hx
      clear hx
      simp only [pairsL, List.map_cons, List.map_nil] at d1
      by_cases hc : x = c
      · have hc' : (x == c) = true := by simpa using hc
        have HC := Lib.hid hc
        clear hc
        go_wp2
        go_ret
        refine ⟨(k : Int), rfl, ⟨fun _ => ?_, fun _ => by omega⟩, ?_⟩
        · rw [← HC.out, HX.out]
          have : k < pairsL.length := hk7
          simp [this]
        · repeat' (with_reducible first | exact Below.refl _ _ | assumption | refine Below.setCell ?_ ?_ _ | refine Below.alloc ?_ ?_ _ | refine below_drewN ?_ _ | refine Below.drew ?_)
          all_goals first | omega | (simp; done) | (simp; omega)
      · have hc' : (x == c) = false := by simpa using hc
        have HC := Lib.hid hc
        clear hc
        go_wp2
        go_round
        case rel => exact ⟨k + 1, by go_num, by omega, fun j hj => by rcases Nat.lt_or_ge j k with h | h; exact HN.out j h; rw [show j = k by omega, ← HX.out]; exact HC.out⟩
        case measure => simp [intOf]; omega
    · obtain rfl : k = 14 := by omega
      go_wp2
      go_ret
      refine ⟨-1, rfl, ⟨fun h => by omega, fun h => ?_⟩, ?_⟩
      · obtain ⟨i, hi, he⟩ := List.mem_iff_getElem.1 h
        exact absurd (by simp [hi, he]) (HN.out i hi)
      · repeat' (with_reducible first | exact Below.refl _ _ | assumption | refine Below.setCell ?_ ?_ _ | refine Below.alloc ?_ ?_ _ | refine below_drewN ?_ _ | refine Below.drew ?_)
        all_goals first | omega | (simp; done) | (simp; omega)
end Go.Proofs.YtpbnkkeplhgepaaDoor.PC
