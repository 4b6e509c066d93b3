
/-
  The reference's has: whether a text contains a character.
-/
import Derived.Test.YtnigebnibikolaaDoorProg
import Derived.Test.YtnigebnibikolaaDoorCommon
import Derived.WalkLawsBesides
import Derived.Lib.Hide
import Derived.Laws.RangeString
import Derived.Laws.RangeAny
import Derived.Laws.Runes
import Derived.Outline
namespace Go.Proofs.YtnigebnibikolaaDoor.Ref
open Go.RowKit Go.Law
set_option linter.unusedVariables false
set_option linter.unusedSimpArgs false
set_option maxRecDepth 100000
def runesFrom (s : ByteArray) : Nat → Nat → List Int
  | 0, _ => []
  | f + 1, pos => if pos < s.size then ((Utf8.decode s pos).1 : Int) :: runesFrom s f (pos + (Utf8.decode s pos).2) else []
theorem runesFrom_step {s : ByteArray} {f pos : Nat} (h : pos < s.size) : runesFrom s (f + 1) pos = ((Utf8.decode s pos).1 : Int) :: runesFrom s f (pos + (Utf8.decode s pos).2) := by
  show (if _ then _ else _) = _; rw [if_pos h]
theorem runesFrom_end {s : ByteArray} {f pos : Nat} (h : ¬ pos < s.size) : runesFrom s f pos = [] := by
  cases f with
  | zero => rfl
  | succ f => show (if _ then _ else _) = _; rw [if_neg h]
def hasF (s : ByteArray) (c : Int) (f pos : Nat) : Bool := (runesFrom s f pos).any (fun x => x == c)
def hasC (s : ByteArray) (c : Int) : Bool := hasF s c s.size 0
theorem width_pos (s : ByteArray) (pos : Nat) (h : pos < s.size) : 1 ≤ (Utf8.decode s pos).2 := by
  by_cases ha : (s[pos]'h).toNat < 128
  · rw [decode_ascii s pos h ha]
    exact Nat.le_refl _
  · exact (decode_high s pos h (by omega)).2
set_option maxHeartbeats 1000000 in
theorem has_any (s : ByteArray) (c : Int) (w : World) :
    Calls Tryd.prog 41 #[.string s, .int .i64 c] w fun e w' => e = .returned (.bool (hasC s c)) ∧ Below w.heap.size w w' := by
  have HC := Lib.hid (show hasC s c = hasF s c s.size 0 from rfl)
  obtain ⟨R, hR⟩ : ∃ R, R = hasC s c := ⟨_, rfl⟩
  rw [← hR] at HC ⊢
  clear hR
  go_enter Tryd.func41, Tryd.ntmps41
  go_wp2_with fail
  go_loopw [6] (fun _ wr => ∃ pos f : Nat, wr = w.iter s pos ∧ s.size ≤ pos + f ∧ R = hasF s c f pos) (fun _ wr => s.size - wr.iterPos w.heap.size)
  case atStart => exact ⟨0, s.size, rfl, by omega, HC.out⟩
  case round =>
    obtain ⟨pos, f, rfl, hf, hR⟩ := hrel
    have HR := Lib.hid hR
    clear hR HC
    by_cases hp : pos < s.size
    · have hnx : ∀ ty, (Instr.next (.pointer (some ⟨w.heap.size, 0, none⟩)) true ty).run Tryd.prog (w.iter s pos) = _ := fun ty => run_next_any w s pos ty hp
      have hwd := width_pos s pos hp
      obtain ⟨g, rfl⟩ : ∃ g, f = g + 1 := ⟨f - 1, by omega⟩
      have hst := runesFrom_step (s := s) (f := g) hp
      obtain ⟨x, hx⟩ : ∃ x, x = (Utf8.decode s pos).1 := ⟨_, rfl⟩
      obtain ⟨d, hd⟩ : ∃ d, d = (Utf8.decode s pos).2 := ⟨_, rfl⟩
      have hxb := decode_le s pos
      rw [← hx] at hxb
      rw [← hx, ← hd] at hnx hst
      rw [← hd] at hwd
      have HST := Lib.hid hst
      clear hst hx hd
      by_cases hc : (x : Int) = c
      · have hc' : ((x : Int) == c) = true := by simpa using hc
        have HT := Lib.hid (show R = true by rw [HR.out]; unfold hasF; rw [HST.out, List.any_cons, hc']; rfl)
        clear hc
        go_wp2_with fail
        go_ret
        refine ⟨by rw [HT.out]; rfl, ?_⟩
        exact (Below.refl _ _).alloc (Nat.le_refl _) _
      · have hc' : ((x : Int) == c) = false := by simpa using hc
        have HT := Lib.hid (show R = hasF s c g (pos + d) by rw [HR.out]; unfold hasF; rw [HST.out, List.any_cons, hc']; rfl)
        clear hc
        go_wp2_with fail
        go_roundw
        case rel => exact ⟨pos + d, g, rfl, by omega, HT.out⟩
        case measure => simp; omega
    · have hnx : ∀ ty, (Instr.next (.pointer (some ⟨w.heap.size, 0, none⟩)) true ty).run Tryd.prog (w.iter s pos) = _ := fun ty => run_next_end w s pos ty hp
      have HT := Lib.hid (show R = false by rw [HR.out]; unfold hasF; rw [runesFrom_end hp]; rfl)
      go_wp2_with fail
      go_ret
      refine ⟨by rw [HT.out]; rfl, ?_⟩
      exact (Below.refl _ _).alloc (Nat.le_refl _) _
end Go.Proofs.YtnigebnibikolaaDoor.Ref
