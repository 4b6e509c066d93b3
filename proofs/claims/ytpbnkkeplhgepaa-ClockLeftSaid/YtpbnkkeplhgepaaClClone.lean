
/-
  slices.Clone at clock events.
-/
import Derived.Test.YtpbnkkeplhgepaaProg
import Derived.Test.YtpbnkkeplhgepaaOwnR
import Derived.Test.YtpbnkkeplhgepaaCommon
import Derived.WalkLawsBesides
import Derived.Lib.Hide
import Derived.WalkSpells
namespace Go.Proofs.Ytpbnkkeplhgepaa.CL
open Go.RowKit Go.Law
set_option linter.unusedVariables false
set_option linter.unusedSimpArgs false
set_option maxRecDepth 100000
def flat3 (E : Nat → Nat → Int) : Nat → Int := fun j => E (j / 3) (j % 3)
def ClonePost (n : Nat) (E : Nat → Nat → Int) (w : World) (e : Ending) (w' : World) : Prop :=
  Below w.heap.size w w' ∧ ∃ v, e = .returned v ∧ RowI w' w.heap.size 72 3 v n (flat3 E)
set_option maxHeartbeats 4000000 in
theorem clone_any (n : Nat) (E : Nat → Nat → Int) (a : Option Addr) (c : Nat) (w : World) (ha : StrF w a n 3 E) (hn : n ≤ 1000) (hnil : a = none → n = 0 ∧ c = 0) :
    Calls Try.prog 48 #[.slice a n c] w (ClonePost n E w) := by
  obtain ⟨ii, hii, hz0, hz1, hz2⟩ := info_parts (show (Try.prog.info? 72).map (fun i => (i.zero, i.size, i.bytes)) = some (some (.agg #[.int .i64 0, .int .i64 0, .int .i64 0]), 3, 24) by kernel_rfl)
  have hnl : ∀ (w : World) (a : Option Addr) (n c : Nat), (binOp .eql 63 (.slice a n c) (.slice none 0 0)).run Try.prog w = .ok (.bool a.isNone) w := fun w a n c => Lib.run_eql_slice_nil w 63 72 a n c 0 0 Try.underlying63
  cases a with
  | none =>
    obtain ⟨rfl, rfl⟩ := hnil rfl
    go_enter Try.func48, Try.ntmps48
    go_wp2_with fail
    go_ret
    exact ⟨Below.refl _ _, _, rfl, RowI.nil _ _ _ _ _⟩
  | some ad =>
    have hcells : ∀ j, j < n * 3 → w.cell? (ad.add j) = some (.int .i64 (flat3 E j)) := by
      intro j hj
      obtain ⟨b, off, he, hh⟩ := ha (by omega)
      cases he
      have := hh (j / 3) (by omega) (j % 3) (by omega)
      have e1 : off + j / 3 * 3 + j % 3 = off + j := by omega
      rw [e1] at this
      rw [show (⟨b, off, none⟩ : Addr).add j = ⟨b, off + j, none⟩ by simp [Addr.add]]
      exact this
    obtain ⟨news, hnews⟩ : ∃ news, news = (List.range (n * 3)).map (fun j => Value.int .i64 (flat3 E j)) := ⟨_, rfl⟩
    have hlen : news.length = n * 3 := by rw [hnews]; simp
    have hget : ∀ j, j < n * 3 → news[j]? = some (.int .i64 (flat3 E j)) := by intro j hj; rw [hnews, List.getElem?_map, List.getElem?_range hj]; rfl
    have hown : (w.alloc (.cells #[] 72)).ownsRow w.heap.size 72 3 (.slice (some ⟨w.heap.size, 0, none⟩) 0 0) 0 [] :=
      ⟨rfl, .inr ⟨w.heap.size, 0, #[], rfl, Nat.le_refl _, by show (w.heap.push _)[_]? = _; simp, Nat.le_refl _, by unfold maxLen; omega, rfl, rfl⟩⟩
    have HC := Lib.hid hcells
    have HN := Lib.hid hnews
    have HL := Lib.hid hlen
    have HG := Lib.hid hget
    have hone : ∀ u, u ∈ news → u.oneCell' = true := by
      intro u hu
      rw [hnews] at hu
      obtain ⟨j, _, rfl⟩ := List.mem_map.1 hu
      rfl
    have H1 := Lib.hid hone
    clear hcells hnews hlen hget ha hnil hone
    go_enter Try.func48, Try.ntmps48
    go_wp2_with (at_builtin; go_loud (refine wpList_append_own _ rfl _ _ 63 rfl w.heap.size 72 ii (.agg #[.int .i64 0, .int .i64 0, .int .i64 0]) 3 24 Try.underlying63 hii hz0 hz1 hz2 rfl (by decide) _ _ _ rfl hown ad n c news rfl HL.out ?c1 ?c2 ?c3 ?c4 ?c5 ?_))
    case c1 =>
      intro j u hj
      have hj1 := (List.getElem?_eq_some_iff.1 hj).1
      rw [HL.out] at hj1
      rw [HG.out j hj1] at hj
      obtain rfl := Option.some.inj hj
      exact (((Below.refl w.heap.size w).alloc (Nat.le_refl _) _).cell (lt_of_cell (HC.out j hj1))).trans (HC.out j hj1)
    case c2 => exact H1.out
    case c3 => unfold maxLen; omega
    case c4 => omega
    case c5 => simp
    intro v' w2 hown' hgrow _
    have hbel : Below w.heap.size w w2 := ((Below.refl w.heap.size w).alloc (Nat.le_refl _) _).grown hgrow (by simp) (fun k hk => by simp [Value.ownBlock] at hk; omega)
    have hrow : RowI w2 w.heap.size 72 3 v' n (flat3 E) := by
      refine ⟨_, by simpa using hown', fun i hi => ?_⟩
      exact HG.out i hi
    have HR := Lib.hid hrow
    have HB := Lib.hid hbel
    clear hown' hgrow hrow hbel
    go_wp2_with fail
    go_ret
    exact ⟨HB.out, _, rfl, HR.out⟩
end Go.Proofs.Ytpbnkkeplhgepaa.CL
