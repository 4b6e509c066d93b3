

/-
  Align and Spread where they give errors.
  Align and Spread, and what the reference says to what they give.
-/
import Derived.Test.YtabnohphgegflaaDoorSaAlike
import Derived.Deep.QuietTactic
import Derived.BigQuiet
import Derived.Test.YtabnohphgegflaaDoorSaSpread
import Derived.Test.YtabnohphgegflaaDoorSaSprB
namespace Go.Proofs.YtabnohphgegflaaDoor.ShT
open Go.RowKit Go.Law Go.Law.Sh
set_option linter.unusedVariables false
set_option linter.unusedSimpArgs false
set_option maxRecDepth 100000
def NilPost (v : Int) (w : World) (e : Ending) (w' : World) : Prop := e = .returned (.tuple #[.slice none 0 0, .int .i64 v]) ∧ Below w.heap.size w w'
section
variable (n c ca cb : Nat) (E : Nat → Nat → Int) (N : Nat → Nat → ByteArray) (It : Nat → Int) (side : Int) (a b : Option Addr) (w : World) (ha : ShF w a n E N) (hi : IntsF w b c It) (hn : n ≤ 1000) (hnc : n ≤ ca) (hc : c ≤ cb) (hm : cb ≤ maxLen)
include ha hi hn hnc hc hm
set_option maxHeartbeats 4000000 in
theorem align_err (hbad : togE n E It c 1 ≠ 0) : Calls Tryd.prog 10 #[.slice a n ca, .slice b c cb, .int .i64 side] w (NilPost (togE n E It c 1) w) := by
  have HAK := Lib.hid (alike_any n c ca cb E N It 1 a b w ha hi hn hnc hc hm (by omega))
  have HBD := Lib.hid hbad
  obtain ⟨V, hV⟩ : ∃ V, V = togE n E It c 1 := ⟨_, rfl⟩
  have HV := Lib.hid hV
  have g1 : (V != 0) = true := by rw [hV]; simpa using hbad
  rw [← hV]
  clear ha hi hbad hV
  go_enter Tryd.func10, Tryd.ntmps10
  go_wp2_with fail
  refine HAK.out.mono ?_
  rintro e w1 ⟨hb1, ⟨_, rfl⟩ | ⟨h, _⟩⟩
  · rw [← HV.out]
    have HB := Lib.hid hb1
    clear hb1
    go_wp2_with fail
    go_ret2
    exact ⟨rfl, HB.out⟩
  · exact absurd h HBD.out
set_option maxHeartbeats 4000000 in
theorem align_arg (hok : togE n E It c 1 = 0) (hs : side < 0 ∨ 6 ≤ side) : Calls Tryd.prog 10 #[.slice a n ca, .slice b c cb, .int .i64 side] w (NilPost 1 w) := by
  have HAK := Lib.hid (alike_any n c ca cb E N It 1 a b w ha hi hn hnc hc hm (by omega))
  have HOK := Lib.hid hok
  clear ha hi hok
  have HS := Lib.hid hs
  clear hs
  go_enter Tryd.func10, Tryd.ntmps10
  go_wp2_with fail
  refine HAK.out.mono ?_
  rintro e w1 ⟨hb1, ⟨h, _⟩ | ⟨_, v, rfl, hrow⟩⟩
  · exact absurd HOK.out h
  have HB := Lib.hid hb1
  clear hb1 hrow
  by_cases h : side < 0
  · go_wp2_with fail
    go_ret2
    exact ⟨rfl, HB.out⟩
  · have h6 : 6 ≤ side := by have := HS.out; omega
    go_wp2_with fail
    go_ret2
    exact ⟨rfl, HB.out⟩
set_option maxHeartbeats 4000000 in
theorem spread_err (hbad : togE n E It c 3 ≠ 0) : Calls Tryd.prog 8 #[.slice a n ca, .slice b c cb, .int .i64 side] w (NilPost (togE n E It c 3) w) := by
  have HA := Lib.hid ha
  have HI := Lib.hid hi
  have HBD := Lib.hid hbad
  obtain ⟨V, hV⟩ : ∃ V, V = togE n E It c 3 := ⟨_, rfl⟩
  have HV := Lib.hid hV
  have g1 : (V != 0) = true := by rw [hV]; simpa using hbad
  rw [← hV]
  clear ha hi hbad hV
  go_enter Tryd.func8, Tryd.ntmps8
  go_wp2_with fail
  have HB0 := Lib.hid (show Below w.heap.size w ((w.alloc (Obj.cells #[Value.slice a n ca] 28)).alloc (Obj.cells #[Value.int IntKind.i64 side] 3)) from ((Below.refl _ _).alloc (Nat.le_refl _) _).alloc (by simp) _)
  refine (alike_any n c ca cb E N It 3 a b _ (HA.out.below (Nat.le_refl _) HB0.out) (HI.out.below (Nat.le_refl _) HB0.out) hn hnc hc hm (by omega)).mono ?_
  rintro e w1 ⟨hb1, ⟨_, rfl⟩ | ⟨h, _⟩⟩
  · rw [← HV.out]
    have HB := Lib.hid (HB0.out.trans (hb1.mono HB0.out.size))
    clear hb1
    go_wp2_with fail
    go_ret2
    exact ⟨rfl, HB.out⟩
  · exact absurd h HBD.out
set_option maxHeartbeats 4000000 in
theorem spread_arg (hok : togE n E It c 3 = 0) (hs : side < 0 ∨ 1 < side) : Calls Tryd.prog 8 #[.slice a n ca, .slice b c cb, .int .i64 side] w (NilPost 1 w) := by
  have HA := Lib.hid ha
  have HI := Lib.hid hi
  have HOK := Lib.hid hok
  have HS := Lib.hid hs
  clear ha hi hok hs
  go_enter Tryd.func8, Tryd.ntmps8
  go_wp2_with fail
  have HB0 := Lib.hid (show Below w.heap.size w ((w.alloc (Obj.cells #[Value.slice a n ca] 28)).alloc (Obj.cells #[Value.int IntKind.i64 side] 3)) from ((Below.refl _ _).alloc (Nat.le_refl _) _).alloc (by simp) _)
  obtain ⟨w0, hw0⟩ : ∃ v, v = ((w.alloc (Obj.cells #[Value.slice a n ca] 28)).alloc (Obj.cells #[Value.int IntKind.i64 side] 3)) := ⟨_, rfl⟩
  have HQ := Lib.hid (show w0.cell? ⟨w.heap.size + 1, 0, none⟩ = some (.int .i64 side) ∧ w.heap.size + 1 < w0.heap.size by
    rw [hw0]
    have h := Blk.new (w.alloc (Obj.cells #[Value.slice a n ca] 28)) #[Value.int IntKind.i64 side] 3
    rw [World.size_alloc] at h
    exact ⟨h.cell (i := 0) rfl, h.lt⟩)
  rw [← hw0] at HB0 ⊢
  clear hw0
  refine (alike_any n c ca cb E N It 3 a b _ (HA.out.below (Nat.le_refl _) HB0.out) (HI.out.below (Nat.le_refl _) HB0.out) hn hnc hc hm (by omega)).mono ?_
  rintro e w1 ⟨hb1, ⟨h, _⟩ | ⟨_, v, rfl, hrow⟩⟩
  · exact absurd HOK.out h
  have HB := Lib.hid (HB0.out.trans (hb1.mono HB0.out.size))
  have hax : w1.cell? ⟨w.heap.size + 1, 0, none⟩ = some (.int .i64 side) := by rw [hb1.cell (by simpa using HQ.out.2)]; exact HQ.out.1
  clear hb1 hrow
  by_cases h : side < 0
  · go_wp2_with fail
    go_ret2
    exact ⟨rfl, HB.out⟩
  · have h6 : 1 < side := by have := HS.out; omega
    go_wp2_with fail
    go_ret2
    exact ⟨rfl, HB.out⟩
end
end Go.Proofs.YtabnohphgegflaaDoor.ShT
namespace Go.Proofs.YtabnohphgegflaaDoor.ShT
open Go.RowKit Go.Law Go.Law.Sh
set_option linter.unusedVariables false
set_option linter.unusedSimpArgs false
set_option maxRecDepth 100000
/-- a result, and the reference's word on it in every later world -/
def ThenTrue (f : FuncId) (l it : Value) (x : Int) (w : World) (e : Ending) (w' : World) : Prop :=
  ∃ rv re, e = .returned (.tuple #[rv, .int .i64 re]) ∧ Below w.heap.size w w' ∧ ∀ W, Below w'.heap.size w' W → Calls Tryd.prog f #[l, it, .int .i64 x, rv, .int .i64 re] W (TrueB W)
section
variable (n c ca cb : Nat) (E : Nat → Nat → Int) (N : Nat → Nat → ByteArray) (It : Nat → Int) (x : Int) (a b : Option Addr) (w : World) (ha : ShF w a n E N) (hi : IntsF w b c It) (hn : n ≤ 20) (hnc : n ≤ ca) (hc : c ≤ cb) (hm : cb ≤ maxLen) (hq : Arr w 1) (hs : Arr w 6)
include ha hi hn hnc hc hm hq hs
theorem alignBoth : Calls Tryd.prog 10 #[.slice a n ca, .slice b c cb, .int .i64 x] w (ThenTrue 11 (.slice a n ca) (.slice b c cb) x w) := by
  by_cases ht : togE n E It c 1 = 0
  case neg =>
    refine (align_err n c ca cb E N It x a b w ha hi (by omega) hnc hc hm ht).mono fun e w' ⟨h1, h2⟩ => ⟨_, _, h1, h2, fun W hW => ?_⟩
    have hb := h2.trans (hW.mono h2.size)
    exact aligned_err n c ca cb E N It x a b W (ha.below (Nat.le_refl _) hb) (hi.below (Nat.le_refl _) hb) (by omega) hnc hc hm ht
  by_cases hx : x < 0 ∨ 6 ≤ x
  · refine (align_arg n c ca cb E N It x a b w ha hi (by omega) hnc hc hm ht hx).mono fun e w' ⟨h1, h2⟩ => ⟨_, _, h1, h2, fun W hW => ?_⟩
    have hb := h2.trans (hW.mono h2.size)
    exact aligned_arg n c ca cb E N It x a b W (ha.below (Nat.le_refl _) hb) (hi.below (Nat.le_refl _) hb) (by omega) hnc hc hm ht hx
  · obtain ⟨hE0, hc1, hall⟩ := togE_zero ht
    have he : aliE n c E (srtF n E It c) (x / 3) (x % 3) = aliE n c E (posF n E It) (x / 3) (x % 3) := ali_eq srtF_perm (by omega)
      (fun a b h1 h2 => by have := srtF_asc hall a b h1 h2; omega) (posF_ne hall) (fun a h => (srtF_at hall h).1) (fun a h => (posF_at hall h).1)
    refine (align_ok n c ca cb E N It x (x / 3) (x % 3) a b w ha hi (by omega) hnc hc hm ht (by omega) (by omega) rfl rfl hq).mono fun e w' ⟨h2, h3⟩ => ?_
    rw [he] at h3
    have key : ∀ rv re W, Below w'.heap.size w' W → ((shE n (aliE n c E (posF n E It) (x / 3) (x % 3)) ≠ 0 ∧ rv = .slice none 0 0 ∧ re = shE n (aliE n c E (posF n E It) (x / 3) (x % 3))) ∨ (shE n (aliE n c E (posF n E It) (x / 3) (x % 3)) = 0 ∧ re = 0 ∧ ∃ al cl, rv = .slice al n cl ∧ n ≤ cl ∧ ShF W al n (aliE n c E (posF n E It) (x / 3) (x % 3)) N)) →
        Calls Tryd.prog 11 #[.slice a n ca, .slice b c cb, .int .i64 x, rv, .int .i64 re] W (TrueB W) := by
      intro rv re W hW hr
      have hb := h2.trans (hW.mono h2.size)
      exact aligned_ok n c ca cb E N It x (x / 3) (x % 3) a b W (ha.below (Nat.le_refl _) hb) (hi.below (Nat.le_refl _) hb) (by omega) hnc hc hm ht (by omega) (by omega) rfl rfl (hs.below (Nat.le_refl _) hb) rv re hr
    rcases h3 with ⟨h3, h4⟩ | ⟨h3, v, h4, h5⟩
    · exact ⟨_, _, h4, h2, fun W hW => key _ _ W hW (.inl ⟨h3, rfl, rfl⟩)⟩
    · obtain ⟨al, cl, rfl, h6, _⟩ := RowV.slice h5
      exact ⟨_, _, h4, h2, fun W hW => key _ _ W hW (.inr ⟨h3, rfl, al, cl, rfl, h6, (ShR.shF h5).below (Nat.le_refl _) hW⟩)⟩
theorem spreadBoth : Calls Tryd.prog 8 #[.slice a n ca, .slice b c cb, .int .i64 x] w (ThenTrue 12 (.slice a n ca) (.slice b c cb) x w) := by
  by_cases ht : togE n E It c 3 = 0
  case neg =>
    refine (spread_err n c ca cb E N It x a b w ha hi (by omega) hnc hc hm ht).mono fun e w' ⟨h1, h2⟩ => ⟨_, _, h1, h2, fun W hW => ?_⟩
    have hb := h2.trans (hW.mono h2.size)
    exact spreadR_err n c ca cb E N It x a b W (ha.below (Nat.le_refl _) hb) (hi.below (Nat.le_refl _) hb) (by omega) hnc hc hm ht
  by_cases hx : x < 0 ∨ 1 < x
  · refine (spread_arg n c ca cb E N It x a b w ha hi (by omega) hnc hc hm ht hx).mono fun e w' ⟨h1, h2⟩ => ⟨_, _, h1, h2, fun W hW => ?_⟩
    have hb := h2.trans (hW.mono h2.size)
    exact spreadR_arg n c ca cb E N It x a b W (ha.below (Nat.le_refl _) hb) (hi.below (Nat.le_refl _) hb) (by omega) hnc hc hm ht hx
  · refine (spread_ok n c ca cb E N It x a b w ha hi hn hnc hc hm ht (by omega) (by omega) hq).mono fun e w' ⟨S, hp, ho, h2, h3⟩ => ?_
    have key : ∀ rv re W, Below w'.heap.size w' W → ((shE n (sprE E S x c) ≠ 0 ∧ rv = .slice none 0 0 ∧ re = shE n (sprE E S x c)) ∨ (shE n (sprE E S x c) = 0 ∧ re = 0 ∧ ∃ al cl, rv = .slice al n cl ∧ n ≤ cl ∧ ShF W al n (sprE E S x c) N)) →
        Calls Tryd.prog 12 #[.slice a n ca, .slice b c cb, .int .i64 x, rv, .int .i64 re] W (TrueB W) := by
      intro rv re W hW hr
      have hb := h2.trans (hW.mono h2.size)
      exact spreadR_ok n c ca cb E N It x a b W (ha.below (Nat.le_refl _) hb) (hi.below (Nat.le_refl _) hb) (by omega) hnc hc hm ht (by omega) (by omega) (hs.below (Nat.le_refl _) hb) S hp ho rv re hr
    rcases h3 with ⟨h3, h4⟩ | ⟨h3, v, h4, h5⟩
    · exact ⟨_, _, h4, h2, fun W hW => key _ _ W hW (.inl ⟨h3, rfl, rfl⟩)⟩
    · obtain ⟨al, cl, rfl, h6, _⟩ := RowV.slice h5
      exact ⟨_, _, h4, h2, fun W hW => key _ _ W hW (.inr ⟨h3, rfl, al, cl, rfl, h6, (ShR.shF h5).below (Nat.le_refl _) hW⟩)⟩
end
end Go.Proofs.YtabnohphgegflaaDoor.ShT
