
/-
  slices.SortFunc at the row of states.
-/
import Derived.Test.YthddbinbeinafaaTlSortL
import Derived.Test.YthddbinbeinafaaTlSortS
import Derived.Test.YthddbinbeinafaaTlSmall
namespace Go.Proofs.Ythddbinbeinafaa.TL
open Go.RowKit Go.Law Go.Law.Tl Ref
set_option linter.unusedVariables false
set_option linter.unusedSimpArgs false
set_option maxRecDepth 100000
set_option maxHeartbeats 4000000 in
theorem insertion_none (p : Option Addr) (cap : Nat) (fv : Value) (w : World) :
    Calls Try.prog 24 #[.slice p 0 cap, .int .i64 0, .int .i64 0, fv] w fun e w' => e = .returned (.tuple #[]) ∧ w' = w := by
  go_enter Try.func24, Try.ntmps24
  go_wp2
  refine wp_loop_rounds 1 ?_
  rw [rounds_succ]
  go_wp2
  go_end0
  exact ⟨rfl, rfl⟩
set_option maxHeartbeats 4000000 in
theorem pdq_none (p : Option Addr) (cap : Nat) (lim : Int) (fv : Value) (w : World) :
    Calls Try.prog 22 #[.slice p 0 cap, .int .i64 0, .int .i64 0, .int .i64 lim, fv] w fun e w' => e = .returned (.tuple #[]) ∧ w' = w := by
  go_enter Try.func22, Try.ntmps22
  go_wp2
  refine wp_loop_rounds 1 ?_
  rw [rounds_succ]
  go_wp2_with fail
  refine (insertion_none p cap fv _).mono ?_
  rintro e w' ⟨rfl, rfl⟩
  go_wp2_with fail
  (try simp only [Exit.inBlock, Exit.then])
  refine bodyPost_ret (results_none rfl _ _ _) rfl ?_
  exact ⟨rfl, rfl⟩
set_option maxHeartbeats 4000000 in
theorem sort_none (p : Option Addr) (cap : Nat) (fv : Value) (w : World) :
    Calls Try.prog 20 #[.slice p 0 cap, fv] w fun e w' => e = .returned (.tuple #[]) ∧ w' = w := by
  have hl : ∀ W, Calls Try.prog 23 #[.int .u64 0] W fun e w' => e = .returned (.int .i64 (Lib.bitLen 0 : Nat)) ∧ w' = W := fun W =>
    Any.bits_Len (SlLaysF0.n15.bits (P := Try.prog) (ρ := Try.sort6_ren) { Try.sort6 with }) 0 W (by omega) (by omega)
  have HL := Lib.hid hl
  clear hl
  go_enter Try.func20, Try.ntmps20
  go_wp2_with fail
  refine (HL.out _).mono ?_
  rintro e w' ⟨rfl, rfl⟩
  go_wp2_with fail
  refine (pdq_none p cap _ fv _).mono ?_
  rintro e w' ⟨rfl, rfl⟩
  go_wp2_with fail
  go_end0
  exact ⟨rfl, rfl⟩
theorem sortC : SortC Try.prog 20 21 :=
  ⟨fun blk cap d w hH hb hs => AnyQ.slices_SortFunc Try.sort6 4 Try.isAgg33 Try.sizeOf33 enc4 enc4_len enc4_one cf4 swo4 21 #[] blk 0 cap d w (enters_of Try.func21 (by kernel_rfl) rfl) (cmp4 (fun s0 s1 s2 s3 r0 r1 r2 r3 w hs hr => two_any s0 s1 s2 s3 r0 r1 r2 r3 w hs hr)) hH hb hs,
   fun p cap w => sort_none p cap _ w⟩
end Go.Proofs.Ythddbinbeinafaa.TL
