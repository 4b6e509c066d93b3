
/-
  The text of a set.
-/
import Derived.Test.YtghbicajcffjhaaDoorPcChar
import Derived.Test.YtghbicajcffjhaaDoorPcNamed
namespace Go.Law.Pn
theorem setE_good {n : Nat} {sf : Nat → Int × Int} (h : setE n sf = 0) : 1 ≤ n ∧ n ≤ 40 ∧ ∀ i, i < n → 0 ≤ (sf i).1 ∧ (sf i).1 ≤ (sf i).2 ∧ (sf i).2 ≤ 1114111 := by
  unfold setE at h
  by_cases h0 : n = 0
  · rw [if_pos h0] at h; simp at h
  rw [if_neg h0] at h
  by_cases h1 : 40 < n
  · rw [if_pos h1] at h; simp at h
  rw [if_neg h1] at h
  refine ⟨by omega, by omega, fun i hi => ?_⟩
  have h2 := (fstE_zero h).1 i hi
  unfold rgE at h2
  split at h2
  · omega
  · omega
end Go.Law.Pn
namespace Go.Proofs.YtghbicajcffjhaaDoor.PC
open Go.RowKit Go.Law Go.Law.Pn
set_option linter.unusedVariables false
set_option linter.unusedSimpArgs false
set_option maxRecDepth 100000
/-- a range in the text of a set -/
noncomputable def oneS (s : ByteArray) (x : Int × Int) : ByteArray :=
  if x.1 < x.2 then (if x.1 + 1 < x.2 then s ++ chrS x.1.toNat ++ ⟨#[45]⟩ else s ++ chrS x.1.toNat) ++ chrS x.2.toNat else s ++ chrS x.1.toNat
noncomputable def rgsS (nt : Bool) (sf : Nat → Int × Int) : Nat → ByteArray
  | 0 => if nt then ⟨#[91]⟩ ++ ⟨#[94]⟩ else ⟨#[91]⟩
  | i + 1 => oneS (rgsS nt sf i) (sf i)
noncomputable def setS (nt : Bool) (n : Nat) (sf : Nat → Int × Int) : ByteArray :=
  if nmB n sf ≠ 0 then ⟨#[92]⟩ ++ strOfNums [if nt then nmB n sf - 32 else nmB n sf]
  else if (n = 1 ∧ (sf 0).1 = (sf 0).2) ∧ nt = false then chrS (sf 0).1.toNat
  else if (n = 1 ∧ (sf 0).1 = (sf 0).2) ∧ (sf 0).1 = 10 then ⟨#[46]⟩
  else rgsS nt sf n ++ ⟨#[93]⟩
theorem chrS_size (c : Nat) : (chrS c).size ≤ 8 := by
  have h1 : (strOfNums (hexL c)).size ≤ 4 := by rw [strOfNums_size]; exact hexL_len c
  have h2 := encode_size_le (c : Int)
  have a1 : (⟨#[92, 116]⟩ : ByteArray).size = 2 := rfl
  have a2 : (⟨#[92, 110]⟩ : ByteArray).size = 2 := rfl
  have a3 : (⟨#[92]⟩ : ByteArray).size = 1 := rfl
  have a4 : (⟨#[92, 117, 123]⟩ : ByteArray).size = 3 := rfl
  have a5 : (⟨#[125]⟩ : ByteArray).size = 1 := rfl
  obtain ⟨U, hU⟩ : ∃ U, U = Utf8.encode (c : Int) := ⟨_, rfl⟩
  obtain ⟨S, hS⟩ : ∃ S, S = strOfNums (hexL c) := ⟨_, rfl⟩
  unfold chrS
  rw [← hU] at h2 ⊢
  rw [← hS] at h1 ⊢
  clear hU hS
  by_cases b1 : c = 9
  · rw [if_pos b1]; omega
  rw [if_neg b1]
  by_cases b2 : c = 10
  · rw [if_pos b2]; omega
  rw [if_neg b2]
  by_cases b3 : c < 127 ∧ 32 ≤ c ∧ 0 ≤ Lib.indexByte specS.data.toList (UInt8.ofNat c)
  · rw [if_pos b3, ByteArray.size_append]; omega
  rw [if_neg b3]
  by_cases b4 : c < 32 ∨ (127 ≤ c ∧ c < 160) ∨ (55296 ≤ c ∧ c ≤ 57343)
  · rw [if_pos b4, ByteArray.size_append, ByteArray.size_append]; omega
  rw [if_neg b4]
  omega
theorem oneS_size (s : ByteArray) (x : Int × Int) : (oneS s x).size ≤ s.size + 17 := by
  have h1 := chrS_size x.1.toNat
  have h2 := chrS_size x.2.toNat
  have h3 : (⟨#[45]⟩ : ByteArray).size = 1 := rfl
  unfold oneS
  repeat' split
  all_goals (simp only [ByteArray.size_append, h3]; omega)
theorem rgsS_size (nt : Bool) (sf : Nat → Int × Int) : ∀ i, (rgsS nt sf i).size ≤ 2 + 17 * i
  | 0 => by
    unfold rgsS
    cases nt
    · show 1 ≤ _; omega
    · show 2 ≤ _; omega
  | i + 1 => by
    have h1 := rgsS_size nt sf i
    have h2 := oneS_size (rgsS nt sf i) (sf i)
    unfold rgsS
    omega
theorem setS_size (nt : Bool) (n : Nat) (sf : Nat → Int × Int) (hn : n ≤ 40) : (setS nt n sf).size ≤ 1000 := by
  have h1 := chrS_size (sf 0).1.toNat
  have h2 := rgsS_size nt sf n
  have h3 : (⟨#[92]⟩ : ByteArray).size = 1 := rfl
  have h4 : (⟨#[93]⟩ : ByteArray).size = 1 := rfl
  have h5 : (⟨#[46]⟩ : ByteArray).size = 1 := rfl
  unfold setS
  repeat' split
  all_goals (try simp only [ByteArray.size_append, h3, h4, h5, strOfNums_size, List.length_singleton])
  all_goals omega
theorem nmB_range (n : Nat) (sf : Nat → Int × Int) : nmB n sf = 0 ∨ (100 ≤ nmB n sf ∧ nmB n sf ≤ 119) := by
  unfold nmB
  repeat' split
  all_goals omega
end Go.Proofs.YtghbicajcffjhaaDoor.PC
