
/-
  strings.Cut at a mark.
-/
import Derived.Test.YtnigebnibikolabPxIdx
import Derived.Test.YtnigebnibikolabPxPlain
import Derived.Test.YtnigebnibikolabCommon
import Derived.WalkKit
import Derived.WalkLawsBesides
import Derived.IntWalk
import Derived.Lib.Hide
import Derived.Deep.QuietTactic
import Derived.BigQuiet
namespace Go.Proofs.Ytnigebnibikolab.PX
open Go.RowKit Go.Law Go.Law.Px
set_option linter.unusedVariables false
set_option linter.unusedSimpArgs false
set_option maxRecDepth 100000
theorem idx_any (s : ByteArray) (w : World) : Calls Try.prog 9 #[.string s, .string ⟨#[36]⟩] w fun e w' => e = .returned (.int .i64 (cutI s)) ∧ w = w' :=
  (Try.stringslite_Index_one s 36 w).mono fun _ _ ⟨h1, h2⟩ => ⟨h1, h2.symm⟩
theorem cut2_no (s : ByteArray) (w : World) (h : cutI s < 0) (hs : s.size ≤ 1048576) : Calls Try.prog 8 #[.string s, .string ⟨#[36]⟩] w fun e w' => e = .returned (.tuple #[.string s, .string ⟨#[]⟩, .bool false]) ∧ w = w' := by
  obtain ⟨I, hI⟩ : ∃ I, I = cutI s := ⟨_, rfl⟩
  have HI := Lib.hid hI
  rw [← hI] at h
  clear hI
  go_enter Try.func8, Try.ntmps8
  go_wp2_with fail
  refine (idx_any s w).mono ?_
  rintro e w1 ⟨rfl, rfl⟩
  rw [← HI.out]
  go_wp2_with fail
  go_ret3
  exact ⟨rfl, rfl⟩
theorem cut2_yes (s : ByteArray) (w : World) (o : Nat) (h : cutI s = o) (hs : s.size ≤ 1048576) : Calls Try.prog 8 #[.string s, .string ⟨#[36]⟩] w fun e w' => e = .returned (.tuple #[.string (s.extract 0 o), .string (s.extract (o + 1) s.size), .bool true]) ∧ ∃ k, w' = w.drewN k := by
  have ho := (cut_some h).1
  have HI := Lib.hid h
  clear h
  go_enter Try.func8, Try.ntmps8
  go_wp2_with fail
  refine (idx_any s w).mono ?_
  rintro e w1 ⟨rfl, rfl⟩
  rw [HI.out]
  have e1 : (o : Int) ≤ (s.size : Int) := by omega
  have e2 : (o : Int) + 1 ≤ (s.size : Int) := by omega
  have e3 : IntKind.i64.wrap ((o : Int) + 1) = (o : Int) + 1 := IntWalk.i64_in _ ⟨by omega, by omega⟩
  have e4 : ((o : Int) + 1).toNat = o + 1 := by omega
  have e5 : (0 : Int) ≤ (o : Int) + 1 := by omega
  go_wp2_with fail
  go_quiet (fail)
  go_wp2_with fail
  go_ret3
  exact ⟨rfl, _, rfl⟩
theorem cut_no (s : ByteArray) (w : World) (h : cutI s < 0) (hs : s.size ≤ 1048576) : Calls Try.prog 7 #[.string s, .string ⟨#[36]⟩] w fun e w' => e = .returned (.tuple #[.string s, .string ⟨#[]⟩, .bool false]) ∧ w = w' := by
  have H := Lib.hid (cut2_no s w h hs)
  clear h
  go_enter Try.func7, Try.ntmps7
  go_wp2_with fail
  refine H.out.mono ?_
  rintro e w1 ⟨rfl, rfl⟩
  go_wp2_with fail
  go_ret3
  exact ⟨rfl, rfl⟩
theorem cut_yes (s : ByteArray) (w : World) (o : Nat) (h : cutI s = o) (hs : s.size ≤ 1048576) : Calls Try.prog 7 #[.string s, .string ⟨#[36]⟩] w fun e w' => e = .returned (.tuple #[.string (s.extract 0 o), .string (s.extract (o + 1) s.size), .bool true]) ∧ ∃ k, w' = w.drewN k := by
  have H := Lib.hid (cut2_yes s w o h hs)
  clear h
  go_enter Try.func7, Try.ntmps7
  go_wp2_with fail
  refine H.out.mono ?_
  rintro e w1 ⟨rfl, k, rfl⟩
  go_wp2_with fail
  go_ret3
  exact ⟨rfl, _, rfl⟩
end Go.Proofs.Ytnigebnibikolab.PX
