/-
  The text of a pattern: what it is, and how long it can be.
-/
import Derived.Test.YtghbicajcffjhaaDoorPcShSet
import Derived.Test.YtghbicajcffjhaaDoorPcBnd
import Derived.Test.YtghbicajcffjhaaDoorPcRKc
import Derived.Test.YtghbicajcffjhaaDoorPcSize
namespace Go.Proofs.YtghbicajcffjhaaDoor.PC
open Go.RowKit Go.Law Go.Law.Pn
set_option linter.unusedVariables false
set_option linter.unusedSimpArgs false
def ownL (k : Int) : Int := if k = 4 then 1 else if k = 5 then 0 else 2
def stepL (k : Int) : Int := if k = 5 then 1 else 0
def brS (own lv : Int) (s : ByteArray) : ByteArray := if own < lv then ⟨#[40, 63, 58]⟩ ++ s ++ ⟨#[41]⟩ else s
def seqS (F : Nat → ByteArray) : Nat → ByteArray
  | 0 => ⟨#[]⟩
  | i + 1 => seqS F i ++ F i
def orS (F : Nat → ByteArray) : Nat → ByteArray
  | 0 => ⟨#[]⟩
  | i + 1 => (if i = 0 then orS F i else orS F i ++ ⟨#[124]⟩) ++ F i
def opdS (k : Int) (s0 s2 : ByteArray) : ByteArray := if k = 6 then ⟨#[40, 63, 58]⟩ ++ s0 ++ ⟨#[41]⟩ else s2
noncomputable def shwS : PT → Int → ByteArray
  | .nil, _ => ⟨#[]⟩
  | .mk h kf, lv => brS (ownL h.kind) lv
    (if h.kind = 0 then setS h.nt h.sn h.sf else if h.kind = 1 then ⟨#[94]⟩ else if h.kind = 2 then ⟨#[36]⟩ else if h.kind = 3 then (if h.nt then ⟨#[92, 66]⟩ else ⟨#[92, 98]⟩)
      else if h.kind = 4 then seqS (fun i => shwS (kf i) (1 + stepL (kf i).hd.kind)) h.kn
      else if h.kind = 5 then orS (fun i => shwS (kf i) 1) h.kn
      else if h.kind = 6 then opdS (kf 0).hd.kind (shwS (kf 0) 0) (shwS (kf 0) 2) ++ bndS h.lo h.hi h.lz
      else ⟨#[40]⟩ ++ shwS (kf 0) 0 ++ ⟨#[41]⟩)
theorem brS_size (own lv : Int) (s : ByteArray) : (brS own lv s).size ≤ s.size + 4 := by
  have a1 : (⟨#[40, 63, 58]⟩ : ByteArray).size = 3 := rfl
  have a2 : (⟨#[41]⟩ : ByteArray).size = 1 := rfl
  unfold brS
  split
  · simp only [ByteArray.size_append]; omega
  · omega
theorem opdS_size (k : Int) (s0 s2 : ByteArray) (m : Nat) (h0 : s0.size ≤ m) (h2 : s2.size ≤ m) : (opdS k s0 s2).size ≤ m + 4 := by
  have a1 : (⟨#[40, 63, 58]⟩ : ByteArray).size = 3 := rfl
  have a2 : (⟨#[41]⟩ : ByteArray).size = 1 := rfl
  unfold opdS
  split
  · simp only [ByteArray.size_append]; omega
  · omega
theorem seqS_size (F : Nat → ByteArray) (c : Nat → Nat) : ∀ m, (∀ i, i < m → (F i).size + 10 ≤ 2000 * c i) → (seqS F m).size ≤ 2000 * sumK c m
  | 0, _ => by show 0 ≤ _; omega
  | m + 1, h => by
    have h1 := seqS_size F c m (fun i hi => h i (by omega))
    have h2 := h m (by omega)
    unfold seqS sumK
    simp only [ByteArray.size_append]
    omega
theorem orS_size (F : Nat → ByteArray) (c : Nat → Nat) : ∀ m, (∀ i, i < m → (F i).size + 10 ≤ 2000 * c i) → (orS F m).size ≤ 2000 * sumK c m
  | 0, _ => by show 0 ≤ _; omega
  | m + 1, h => by
    have h1 := orS_size F c m (fun i hi => h i (by omega))
    have h2 := h m (by omega)
    have a1 : (⟨#[124]⟩ : ByteArray).size = 1 := rfl
    unfold orS sumK
    split
    · simp only [ByteArray.size_append]; omega
    · simp only [ByteArray.size_append]; omega
theorem shwS_size : ∀ (t : PT), t.Val → ∀ lv, (shwS t lv).size + 10 ≤ 2000 * t.cnt
  | .nil, hv, _ => False.elim hv
  | .mk h kf, hv, lv => by
    have hg := shp_good hv.1
    have hk := fun i (hi : i < h.kn) => shwS_size (kf i) (hv.2 i hi)
    rw [shwS]
    obtain ⟨S, hS⟩ : ∃ S, S = (if h.kind = 0 then setS h.nt h.sn h.sf else if h.kind = 1 then ⟨#[94]⟩ else if h.kind = 2 then ⟨#[36]⟩ else if h.kind = 3 then (if h.nt then ⟨#[92, 66]⟩ else ⟨#[92, 98]⟩)
      else if h.kind = 4 then seqS (fun i => shwS (kf i) (1 + stepL (kf i).hd.kind)) h.kn
      else if h.kind = 5 then orS (fun i => shwS (kf i) 1) h.kn
      else if h.kind = 6 then opdS (kf 0).hd.kind (shwS (kf 0) 0) (shwS (kf 0) 2) ++ bndS h.lo h.hi h.lz
      else ⟨#[40]⟩ ++ shwS (kf 0) 0 ++ ⟨#[41]⟩) := ⟨_, rfl⟩
    rw [← hS]
    have hb := brS_size (ownL h.kind) lv S
    have hc : (PT.mk h kf).cnt = 1 + sumK (fun i => (kf i).cnt) h.kn := by rw [PT.cnt]
    rw [hc]
    have a1 : (⟨#[94]⟩ : ByteArray).size = 1 := rfl
    have a2 : (⟨#[36]⟩ : ByteArray).size = 1 := rfl
    have a3 : (⟨#[92, 66]⟩ : ByteArray).size = 2 := rfl
    have a4 : (⟨#[92, 98]⟩ : ByteArray).size = 2 := rfl
    have a5 : (⟨#[40]⟩ : ByteArray).size = 1 := rfl
    have a6 : (⟨#[41]⟩ : ByteArray).size = 1 := rfl
    suffices hs : S.size + 20 ≤ 2000 * (1 + sumK (fun i => (kf i).cnt) h.kn) by omega
    by_cases k0 : h.kind = 0
    · rw [hS, if_pos k0]
      have h1 := setE_good (hg.2.2.1 k0).2
      have h2 := setS_size h.nt h.sn h.sf h1.2.1
      omega
    rw [if_neg k0] at hS
    by_cases k1 : h.kind = 1
    · rw [hS, if_pos k1]; omega
    rw [if_neg k1] at hS
    by_cases k2 : h.kind = 2
    · rw [hS, if_pos k2]; omega
    rw [if_neg k2] at hS
    by_cases k3 : h.kind = 3
    · rw [hS, if_pos k3]; split <;> omega
    rw [if_neg k3] at hS
    by_cases k4 : h.kind = 4
    · rw [hS, if_pos k4]
      have h1 := seqS_size (fun i => shwS (kf i) (1 + stepL (kf i).hd.kind)) (fun i => (kf i).cnt) h.kn (fun i hi => hk i hi _)
      omega
    rw [if_neg k4] at hS
    by_cases k5 : h.kind = 5
    · rw [hS, if_pos k5]
      have h1 := orS_size (fun i => shwS (kf i) 1) (fun i => (kf i).cnt) h.kn (fun i hi => hk i hi _)
      omega
    rw [if_neg k5] at hS
    by_cases k6 : h.kind = 6
    · rw [hS, if_pos k6]
      obtain ⟨h1, h2⟩ := hg.2.2.2.2.2.2.1 k6
      have h3 := hk 0 (by omega)
      unfold repBad at h2
      have h4 := bndS_size h.lo h.hi h.lz (by omega) (by omega) (by omega) (by omega)
      have h5 := opdS_size (kf 0).hd.kind (shwS (kf 0) 0) (shwS (kf 0) 2) (2000 * (kf 0).cnt - 10) (by have := h3 0; omega) (by have := h3 2; omega)
      have h6 := h3 0
      rw [h1]
      simp only [ByteArray.size_append, sumK]
      omega
    rw [if_neg k6] at hS
    have h1 := hg.2.2.2.2.2.2.2 (by omega)
    have h6 := hk 0 (by omega) 0
    rw [hS, h1]
    simp only [ByteArray.size_append, sumK]
    omega
end Go.Proofs.YtghbicajcffjhaaDoor.PC
