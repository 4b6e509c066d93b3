
/-
  A number of pages.
-/
import Derived.Test.YtabnohphgegflaaDoorPgLib
import Derived.Test.YtabnohphgegflaaDoorPgW
import Derived.Test.YtabnohphgegflaaDoorCommon
import Derived.WalkKit
import Derived.WalkLawsBesides
import Derived.IntWalk
import Derived.Lib.Hide
import Derived.Deep.QuietTactic
import Derived.BigQuiet
import Derived.StillTailTactics
import Derived.Deep.CutRange
import Derived.Deep.CutBlock
namespace Go.Proofs.YtabnohphgegflaaDoor.PG
open Go.RowKit Go.Law Go.Law.Pg
set_option linter.unusedVariables false
set_option linter.unusedSimpArgs false
set_option maxRecDepth 100000
/-- an error value is laid at a variable -/
def ErrAt (w : World) (g : Nat) : Prop := ∃ ev, w.cell? ⟨g, 0, none⟩ = some ev ∧ (ev = .nilIface ∨ ∃ te pe, ev = .iface te pe)
structure TEnv (w : World) : Prop where
  es : ErrAt w 4
  er : ErrAt w 5
  tb : Lib.TabIs Tryd.prog w "internal/strconv.uint64pow10" .u64 Lib.pow10Tab
theorem ErrAt.below {w w' : World} {B g : Nat} (h : ErrAt w g) (hb : Below B w w') (hB : w.heap.size ≤ B) : ErrAt w' g := by
  obtain ⟨ev, h1, h2⟩ := h
  exact ⟨ev, (hb.cell (by have := lt_of_cell h1; simp only at this ⊢; omega)).trans h1, h2⟩
theorem TEnv.below {w w' : World} {B : Nat} (h : TEnv w) (hb : Below B w w') (hB : w.heap.size ≤ B) : TEnv w' :=
  ⟨h.es.below hb hB, h.er.below hb hB, Lib.tabBelow_of_tabIs h.tb _ (hb.mono hB)⟩
/-- the parts of number's answer -/
def NumPost (l : List UInt8) (w : World) (e : Ending) (w' : World) : Prop := ∃ v : Int, e = .returned (.tuple #[.int .i64 v, .bool (pnum l).isSome]) ∧ (∀ n, pnum l = some n → v = n) ∧ Below w.heap.size w w'
theorem str_same {v : Int} {s : ByteArray} : ((⟨(Lib.itoa v).toArray⟩ : ByteArray) = s) ↔ Lib.itoa v = s.data.toList := by
  constructor
  · intro h; rw [← h]
  · intro h; rw [h]
set_option maxHeartbeats 4000000 in
theorem number_any (s : ByteArray) (w : World) (hs : s.size ≤ 200) (hT : TEnv w) : Calls Tryd.prog 34 #[.string s] w (NumPost s.data.toList w) := by
  obtain ⟨ev0, hv0, he0⟩ := hT.es
  obtain ⟨ev1, hv1, he1⟩ := hT.er
  have HTB := Lib.hid hT.tb
  have HT := Lib.hid hT
  clear hT
  cases h : Lib.atoiAll s.data.toList
  · rename_i v
    have HBD := Lib.hid (Lib.atoiAll_bounds h)
    have hbd := HBD.out
    go_enter Tryd.func34, Tryd.ntmps34
    go_wp2_with fail
    refine (Any.strconv_Atoi_ok Tryd.laysC172 s (by omega) v h _).mono ?_
    rintro e w1 ⟨rfl, hw⟩
    have HB1 := Lib.hid (show Below w.heap.size w w1 from hw.elim (fun h => by rw [h]; exact Below.refl _ _) (fun ⟨t, h⟩ => by rw [h]; exact Lib.bytesWorld_below _ _ _))
    clear hw
    by_cases hr : 1 ≤ v ∧ v ≤ 10000
    · obtain ⟨hr1, hr2⟩ := hr
      by_cases hi : Lib.itoa v = s.data.toList
      · have HP := Lib.hid (pnum_itoa hr1 hr2 hi)
        have HEQ := Lib.hid (str_same.2 hi)
        clear hi
        go_wp2_with fail
        refine (Any.strconv_Itoa Tryd.laysM171 v hbd.1 hbd.2 _ (HT.out.below HB1.out (Nat.le_refl _)).tb).mono ?_
        rintro e w2 ⟨rfl, k, os, rfl⟩
        rw [HEQ.out]
        go_wp2_with fail
        go_ret2
        exact ⟨v, by rw [HP.out]; simp, fun n hn => by rw [HP.out] at hn; cases hn; omega, HB1.out.trans (Lib.below_grow _ _ HB1.out.size _ _)⟩
      · have HP := Lib.hid (show pnum s.data.toList = none by
          cases hp : pnum s.data.toList with
          | none => rfl
          | some n =>
            have h1 := atoi_pnum hp
            rw [h] at h1
            cases h1
            exact absurd (pnum_itoa2 hp) hi)
        have F1 := Lib.hid hi
        clear hi
        go_wp2_with fail
        refine (Any.strconv_Itoa Tryd.laysM171 v hbd.1 hbd.2 _ (HT.out.below HB1.out (Nat.le_refl _)).tb).mono ?_
        rintro e w2 ⟨rfl, k, os, rfl⟩
        obtain ⟨S2, hS2⟩ : ∃ S2 : ByteArray, S2 = ⟨(Lib.itoa v).toArray⟩ := ⟨_, rfl⟩
        have F2 := Lib.hid (show ¬ S2.toList = s.toList by rw [hS2, Lib.toList_data, Lib.toList_data]; exact F1.out)
        rw [← hS2]
        clear hS2
        go_wp2_with fail
        go_ret2
        exact ⟨v, by rw [HP.out]; simp [F2.out], fun n hn => (by rw [HP.out] at hn; cases hn), HB1.out.trans (Lib.below_grow _ _ HB1.out.size _ _)⟩
    · have HP := Lib.hid (show pnum s.data.toList = none by
        cases hp : pnum s.data.toList with
        | none => rfl
        | some n =>
          have h1 := atoi_pnum hp
          rw [h] at h1
          cases h1
          exact absurd ⟨by have := (pnum_some hp).2.2.1; omega, by have := (pnum_some hp).2.2.2; omega⟩ hr)
      by_cases hr1 : 1 ≤ v
      · have hr2 : ¬ v ≤ 10000 := fun h2 => hr ⟨hr1, h2⟩
        clear hr
        go_wp2_with fail
        go_ret2
        exact ⟨v, by rw [HP.out]; simp, fun n hn => (by rw [HP.out] at hn; cases hn), HB1.out⟩
      · clear hr
        go_wp2_with fail
        go_ret2
        exact ⟨v, by rw [HP.out]; simp, fun n hn => (by rw [HP.out] at hn; cases hn), HB1.out⟩
  · have HP := Lib.hid (show pnum s.data.toList = none by
      cases hp : pnum s.data.toList with
      | none => rfl
      | some n => have h1 := atoi_pnum hp; rw [h] at h1; cases h1)
    go_enter Tryd.func34, Tryd.ntmps34
    go_wp2_with fail
    refine (Any.strconv_Atoi_syntax Tryd.laysC172 s (by omega) h ev0 _ hv0 he0).mono ?_
    rintro e w1 ⟨N, rfl, _, _, hb⟩
    have HB1 := Lib.hid hb
    clear hb
    go_wp2_with fail
    go_ret2
    exact ⟨_, by rw [HP.out]; simp; rfl, fun n hn => (by rw [HP.out] at hn; cases hn), HB1.out⟩
  · have HP := Lib.hid (show pnum s.data.toList = none by
      cases hp : pnum s.data.toList with
      | none => rfl
      | some n => have h1 := atoi_pnum hp; rw [h] at h1; cases h1)
    go_enter Tryd.func34, Tryd.ntmps34
    go_wp2_with fail
    refine (Any.strconv_Atoi_range Tryd.laysC172 s (by omega) h ev1 _ hv1 he1).mono ?_
    rintro e w1 ⟨N, rfl, _, _, hb⟩
    have HB1 := Lib.hid hb
    clear hb
    go_wp2_with fail
    go_ret2
    exact ⟨_, by rw [HP.out]; simp; rfl, fun n hn => (by rw [HP.out] at hn; cases hn), HB1.out⟩
end Go.Proofs.YtabnohphgegflaaDoor.PG
