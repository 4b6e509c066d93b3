
/-
  ChartSectorsAndShares returns true for every chart and every list: the walk.
-/
import Derived.Test.YtpbnkkeplhgepaaChSectors
import Derived.Test.YtpbnkkeplhgepaaChRightOk
import Derived.Test.YtpbnkkeplhgepaaSameInts
namespace Go.Proofs.Ytpbnkkeplhgepaa.CH
open Go.RowKit Go.Law Go.Law.Ch Ref
set_option linter.unusedVariables false
set_option linter.unusedSimpArgs false
set_option maxRecDepth 100000
theorem right_any (n : Nat) (f : Nat → Int) (a : Option Addr) (c : Nat) (w : World) (ha : IntsF w a n f) (hb : n ≤ 1000000000000000000) :
    Calls Try.prog 32 #[.slice a n c] w fun e w' => e = .returned (.bool true) ∧ Below w.heap.size w w' := by
  by_cases he : shErr n f = 0
  · exact right_ok n f a c w ha he
  · refine (right_bad n f a c w ha hb he).mono ?_
    rintro e w1 ⟨rfl, rfl⟩
    exact ⟨rfl, Below.refl _ _⟩
def ones : Nat → Int := fun _ => 1
def G1 : Nat → Int := fun i => match i with | 0 => 334 | _ => 333
theorem one_zero : shErr 3 ones = 0 := shErr_ok (by omega) (by omega) (fun i _ => by unfold ones; omega)
theorem one_share : ∀ i, i < 3 → shareF 3 ones i = G1 i := by
  intro i hi
  have : i = 0 ∨ i = 1 ∨ i = 2 := by omega
  rcases this with rfl | rfl | rfl <;> decide +kernel
theorem lit_ints {w : World} {b n : Nat} {f : Nat → Int} (h : ∀ i, i < n → w.cell? ⟨b, i, none⟩ = some (.int .i64 (f i))) : IntsF w (some ⟨b, 0, none⟩) n f :=
  fun _ => ⟨b, 0, rfl, fun i hi => by rw [Nat.zero_add]; exact h i hi⟩
/-- what the cells of a row of the call's own read -/
theorem ownsRow_reads {w : World} {base e s n : Nat} {v : Value} {xs : List Value} (h : w.ownsRow base e s v n xs) (hn : 0 < n) :
    ∃ g cap, v = .slice (some ⟨g, 0, none⟩) n cap ∧ base ≤ g ∧ g < w.heap.size ∧ n ≤ cap ∧ cap ≤ maxLen ∧ ∀ j u, xs[j]? = some u → w.cell? ⟨g, j, none⟩ = some u := by
  obtain ⟨hl, h⟩ := h
  rcases h with ⟨_, h0⟩ | ⟨g, cap, cur, hv, hg, hh, hnc, hcm, hcs, ht⟩
  · omega
  · refine ⟨g, cap, hv, hg, (Array.getElem?_eq_some_iff.1 hh).1, hnc, hcm, fun j u hj => ?_⟩
    have hj' : j < n * s := by rw [← hl]; exact (List.getElem?_eq_some_iff.1 hj).1
    rw [← ht, List.getElem?_take_of_lt hj'] at hj
    have h3 : cur[j]? = some u := by simpa using hj
    simp [World.cell?, hh, h3]
set_option maxHeartbeats 4000000 in
theorem law_bad (kind : Int) (a1 a2 : Option Addr) (p cp s cs : Nat) (sa : Nat → Option Addr) (sn sc : Nat → Nat) (sf : Nat → Nat → Int) (m : Nat) (h : Nat → Int) (al : Option Addr) (cl : Nat) (w : World)
    (hrows : RowsF w a2 s sa sn sc sf) (hl : IntsF w al m h) (hm : m ≤ 1000000000000000000) (he : chErr kind p s sn sf ≠ 0) :
    Calls Try.prog 8 #[.agg #[.int .i64 kind, .slice a1 p cp, .slice a2 s cs], .slice al m cl] w fun e w' => e = .returned (.bool true) ∧ Below w.heap.size w w' := by
  have HE := Lib.hid he
  clear he
  have HL := Lib.hid hl
  have HR := Lib.hid hrows
  clear hl hrows
  go_enter Try.func8, Try.ntmps8
  go_wp2_with fail
  have hsh := fun a c w0 h => shares_ok 3 ones a c w0 h one_zero
  refine (hsh _ _ _ ?ones).mono ?_
  case ones =>
    refine lit_ints fun i hi => ?_
    have : i = 0 ∨ i = 1 ∨ i = 2 := by omega
    rcases this with rfl | rfl | rfl <;> simp [ones]
  clear hsh
  rintro e w1 ⟨hb1, g1, rfl, hg1, hown1⟩
  have hs1 := hb1.size
  simp at hs1
  go_wp2_with fail
  refine (same_any 3 3 (shareF 3 ones) G1 _ _ _ _ _ ?hx ?hy (by omega) (by omega)).mono ?_
  case hx => exact (hown1.alloc _).ints
  case hy =>
    refine lit_ints fun i hi => ?_
    have : i = 0 ∨ i = 1 ∨ i = 2 := by omega
    rcases this with rfl | rfl | rfl <;> simp [G1]
  rintro e w2 ⟨rfl, hb2⟩
  rw [sameB_true.2 ⟨rfl, one_share⟩]
  have hs2 := hb2.size
  simp at hs2
  have p0 : w2.cell? ⟨w.heap.size, 0, none⟩ = some (.int .i64 kind) := (hb2.cell (by simp; omega)).trans ((Below.alloc (Below.refl _ _) (Nat.le_refl _) _).cell (by simp; omega) |>.trans ((hb1.cell (by simp; omega)).trans (by simp)))
  have p1 : w2.cell? ⟨w.heap.size, 1, none⟩ = some (.slice a1 p cp) := (hb2.cell (by simp; omega)).trans ((Below.alloc (Below.refl _ _) (Nat.le_refl _) _).cell (by simp; omega) |>.trans ((hb1.cell (by simp; omega)).trans (by simp)))
  have p2 : w2.cell? ⟨w.heap.size, 2, none⟩ = some (.slice a2 s cs) := (hb2.cell (by simp; omega)).trans ((Below.alloc (Below.refl _ _) (Nat.le_refl _) _).cell (by simp; omega) |>.trans ((hb1.cell (by simp; omega)).trans (by simp)))
  have hbel : Below w.heap.size w w2 := (((((Below.refl _ _).alloc (Nat.le_refl _) _).alloc (by simp) _).trans (hb1.mono (by simp; omega))).alloc (by omega) _).trans (hb2.mono (by simp; omega))
  clear hown1 hb1 hb2
  have z2 : w.heap.size < w2.heap.size := by omega
  go_wp2_with fail
  refine (sectors_bad kind a1 a2 p cp s cs sa sn sc sf _ (HR.out.below (Nat.le_refl _) hbel) HE.out).mono ?_
  rintro e w3 ⟨rfl, hb3⟩
  have hs_w3 := (hb3).size
  have z_w3 : w.heap.size < w3.heap.size := by omega
  replace hbel := hbel.trans ((hb3).mono (show w.heap.size ≤ w2.heap.size by omega))
  replace p0 : w3.cell? ⟨w.heap.size, 0, none⟩ = some (.int .i64 kind) := ((hb3).cell (show w.heap.size < w2.heap.size by omega)).trans p0
  replace p1 : w3.cell? ⟨w.heap.size, 1, none⟩ = some (.slice a1 p cp) := ((hb3).cell (show w.heap.size < w2.heap.size by omega)).trans p1
  replace p2 : w3.cell? ⟨w.heap.size, 2, none⟩ = some (.slice a2 s cs) := ((hb3).cell (show w.heap.size < w2.heap.size by omega)).trans p2
  go_wp2_with fail
  refine (error_any kind a1 a2 p cp s cs sa sn sc sf _ (HR.out.below (Nat.le_refl _) hbel)).mono ?_
  rintro e w4 ⟨rfl, hb4⟩
  have hs_w4 := (hb4).size
  have z_w4 : w.heap.size < w4.heap.size := by omega
  replace hbel := hbel.trans ((hb4).mono (show w.heap.size ≤ w3.heap.size by omega))
  replace p0 : w4.cell? ⟨w.heap.size, 0, none⟩ = some (.int .i64 kind) := ((hb4).cell (show w.heap.size < w3.heap.size by omega)).trans p0
  replace p1 : w4.cell? ⟨w.heap.size, 1, none⟩ = some (.slice a1 p cp) := ((hb4).cell (show w.heap.size < w3.heap.size by omega)).trans p1
  replace p2 : w4.cell? ⟨w.heap.size, 2, none⟩ = some (.slice a2 s cs) := ((hb4).cell (show w.heap.size < w3.heap.size by omega)).trans p2
  clear hb3 hb4
  obtain ⟨E, hE⟩ : ∃ E, E = chErr kind p s sn sf := ⟨_, rfl⟩
  rw [← hE] at HE ⊢
  have e1 : (E == 0) = false := by simpa using HE.out
  have e2 : (E != 0) = true := by simpa using HE.out
  have e3 : (E == E) = true := by simp
  clear hE
  go_wp2_with fail
  refine (right_any m h al cl _ (HL.out.below (Nat.le_refl _) hbel) hm).mono ?_
  rintro e w5 ⟨rfl, hb5⟩
  have hbel5 := hbel.trans (hb5.mono (by omega))
  go_wp2_with fail
  go_ret
  exact ⟨rfl, hbel5⟩
set_option maxHeartbeats 4000000 in
theorem law_kind (kind : Int) (a1 a2 : Option Addr) (p cp s cs : Nat) (sa : Nat → Option Addr) (sn sc : Nat → Nat) (sf : Nat → Nat → Int) (m : Nat) (h : Nat → Int) (al : Option Addr) (cl : Nat) (w : World)
    (hrows : RowsF w a2 s sa sn sc sf) (hl : IntsF w al m h) (hm : m ≤ 1000000000000000000) (he : chErr kind p s sn sf = 0) (hk : kind ≠ 3) :
    Calls Try.prog 8 #[.agg #[.int .i64 kind, .slice a1 p cp, .slice a2 s cs], .slice al m cl] w fun e w' => e = .returned (.bool true) ∧ Below w.heap.size w w' := by
  have HE := Lib.hid he
  have HK := Lib.hid hk
  clear he hk
  have HL := Lib.hid hl
  have HR := Lib.hid hrows
  clear hl hrows
  go_enter Try.func8, Try.ntmps8
  go_wp2_with fail
  have hsh := fun a c w0 h => shares_ok 3 ones a c w0 h one_zero
  refine (hsh _ _ _ ?ones).mono ?_
  case ones =>
    refine lit_ints fun i hi => ?_
    have : i = 0 ∨ i = 1 ∨ i = 2 := by omega
    rcases this with rfl | rfl | rfl <;> simp [ones]
  clear hsh
  rintro e w1 ⟨hb1, g1, rfl, hg1, hown1⟩
  have hs1 := hb1.size
  simp at hs1
  go_wp2_with fail
  refine (same_any 3 3 (shareF 3 ones) G1 _ _ _ _ _ ?hx ?hy (by omega) (by omega)).mono ?_
  case hx => exact (hown1.alloc _).ints
  case hy =>
    refine lit_ints fun i hi => ?_
    have : i = 0 ∨ i = 1 ∨ i = 2 := by omega
    rcases this with rfl | rfl | rfl <;> simp [G1]
  rintro e w2 ⟨rfl, hb2⟩
  rw [sameB_true.2 ⟨rfl, one_share⟩]
  have hs2 := hb2.size
  simp at hs2
  have p0 : w2.cell? ⟨w.heap.size, 0, none⟩ = some (.int .i64 kind) := (hb2.cell (by simp; omega)).trans ((Below.alloc (Below.refl _ _) (Nat.le_refl _) _).cell (by simp; omega) |>.trans ((hb1.cell (by simp; omega)).trans (by simp)))
  have p1 : w2.cell? ⟨w.heap.size, 1, none⟩ = some (.slice a1 p cp) := (hb2.cell (by simp; omega)).trans ((Below.alloc (Below.refl _ _) (Nat.le_refl _) _).cell (by simp; omega) |>.trans ((hb1.cell (by simp; omega)).trans (by simp)))
  have p2 : w2.cell? ⟨w.heap.size, 2, none⟩ = some (.slice a2 s cs) := (hb2.cell (by simp; omega)).trans ((Below.alloc (Below.refl _ _) (Nat.le_refl _) _).cell (by simp; omega) |>.trans ((hb1.cell (by simp; omega)).trans (by simp)))
  have hbel : Below w.heap.size w w2 := (((((Below.refl _ _).alloc (Nat.le_refl _) _).alloc (by simp) _).trans (hb1.mono (by simp; omega))).alloc (by omega) _).trans (hb2.mono (by simp; omega))
  clear hown1 hb1 hb2
  have z2 : w.heap.size < w2.heap.size := by omega
  go_wp2_with fail
  refine (sectors_kind kind a1 a2 p cp s cs sa sn sc sf _ (HR.out.below (Nat.le_refl _) hbel) HE.out HK.out).mono ?_
  rintro e w3 ⟨rfl, hb3⟩
  have hs_w3 := (hb3).size
  have z_w3 : w.heap.size < w3.heap.size := by omega
  replace hbel := hbel.trans ((hb3).mono (show w.heap.size ≤ w2.heap.size by omega))
  replace p0 : w3.cell? ⟨w.heap.size, 0, none⟩ = some (.int .i64 kind) := ((hb3).cell (show w.heap.size < w2.heap.size by omega)).trans p0
  replace p1 : w3.cell? ⟨w.heap.size, 1, none⟩ = some (.slice a1 p cp) := ((hb3).cell (show w.heap.size < w2.heap.size by omega)).trans p1
  replace p2 : w3.cell? ⟨w.heap.size, 2, none⟩ = some (.slice a2 s cs) := ((hb3).cell (show w.heap.size < w2.heap.size by omega)).trans p2
  go_wp2_with fail
  refine (error_any kind a1 a2 p cp s cs sa sn sc sf _ (HR.out.below (Nat.le_refl _) hbel)).mono ?_
  rintro e w4 ⟨rfl, hb4⟩
  have hs_w4 := (hb4).size
  have z_w4 : w.heap.size < w4.heap.size := by omega
  replace hbel := hbel.trans ((hb4).mono (show w.heap.size ≤ w3.heap.size by omega))
  replace p0 : w4.cell? ⟨w.heap.size, 0, none⟩ = some (.int .i64 kind) := ((hb4).cell (show w.heap.size < w3.heap.size by omega)).trans p0
  replace p1 : w4.cell? ⟨w.heap.size, 1, none⟩ = some (.slice a1 p cp) := ((hb4).cell (show w.heap.size < w3.heap.size by omega)).trans p1
  replace p2 : w4.cell? ⟨w.heap.size, 2, none⟩ = some (.slice a2 s cs) := ((hb4).cell (show w.heap.size < w3.heap.size by omega)).trans p2
  clear hb3 hb4
  rw [HE.out]
  have e1 : (kind != 3) = true := by simpa using HK.out
  go_wp2_with fail
  refine (right_any m h al cl _ (HL.out.below (Nat.le_refl _) hbel) hm).mono ?_
  rintro e w5 ⟨rfl, hb5⟩
  have hbel5 := hbel.trans (hb5.mono (by omega))
  go_wp2_with fail
  go_ret
  exact ⟨rfl, hbel5⟩
set_option maxHeartbeats 8000000 in
theorem law_sectors (a1 a2 : Option Addr) (p cp s cs : Nat) (sa : Nat → Option Addr) (sn sc : Nat → Nat) (sf : Nat → Nat → Int) (m : Nat) (h : Nat → Int) (al : Option Addr) (cl : Nat) (w : World)
    (hrows : RowsF w a2 s sa sn sc sf) (hl : IntsF w al m h) (hm : m ≤ 1000000000000000000) (he : chErr 3 p s sn sf = 0) :
    Calls Try.prog 8 #[.agg #[.int .i64 3, .slice a1 p cp, .slice a2 s cs], .slice al m cl] w fun e w' => e = .returned (.bool true) ∧ Below w.heap.size w w' := by
  have HE := Lib.hid he
  clear he
  obtain ⟨kind, hkind⟩ : ∃ k : Int, k = 3 := ⟨_, rfl⟩
  rw [← hkind]
  have HK := Lib.hid hkind
  clear hkind
  have HL := Lib.hid hl
  have HR := Lib.hid hrows
  clear hl hrows
  go_enter Try.func8, Try.ntmps8
  go_wp2_with fail
  have hsh := fun a c w0 h => shares_ok 3 ones a c w0 h one_zero
  refine (hsh _ _ _ ?ones).mono ?_
  case ones =>
    refine lit_ints fun i hi => ?_
    have : i = 0 ∨ i = 1 ∨ i = 2 := by omega
    rcases this with rfl | rfl | rfl <;> simp [ones]
  clear hsh
  rintro e w1 ⟨hb1, g1, rfl, hg1, hown1⟩
  have hs1 := hb1.size
  simp at hs1
  go_wp2_with fail
  refine (same_any 3 3 (shareF 3 ones) G1 _ _ _ _ _ ?hx ?hy (by omega) (by omega)).mono ?_
  case hx => exact (hown1.alloc _).ints
  case hy =>
    refine lit_ints fun i hi => ?_
    have : i = 0 ∨ i = 1 ∨ i = 2 := by omega
    rcases this with rfl | rfl | rfl <;> simp [G1]
  rintro e w2 ⟨rfl, hb2⟩
  rw [sameB_true.2 ⟨rfl, one_share⟩]
  have hs2 := hb2.size
  simp at hs2
  have p0 : w2.cell? ⟨w.heap.size, 0, none⟩ = some (.int .i64 kind) := (hb2.cell (by simp; omega)).trans ((Below.alloc (Below.refl _ _) (Nat.le_refl _) _).cell (by simp; omega) |>.trans ((hb1.cell (by simp; omega)).trans (by simp)))
  have p1 : w2.cell? ⟨w.heap.size, 1, none⟩ = some (.slice a1 p cp) := (hb2.cell (by simp; omega)).trans ((Below.alloc (Below.refl _ _) (Nat.le_refl _) _).cell (by simp; omega) |>.trans ((hb1.cell (by simp; omega)).trans (by simp)))
  have p2 : w2.cell? ⟨w.heap.size, 2, none⟩ = some (.slice a2 s cs) := (hb2.cell (by simp; omega)).trans ((Below.alloc (Below.refl _ _) (Nat.le_refl _) _).cell (by simp; omega) |>.trans ((hb1.cell (by simp; omega)).trans (by simp)))
  have hbel : Below w.heap.size w w2 := (((((Below.refl _ _).alloc (Nat.le_refl _) _).alloc (by simp) _).trans (hb1.mono (by simp; omega))).alloc (by omega) _).trans (hb2.mono (by simp; omega))
  clear hown1 hb1 hb2
  have z2 : w.heap.size < w2.heap.size := by omega
  go_wp2_with fail
  rw [HK.out]
  refine (sectors_ok a1 a2 p cp s cs sa sn sc sf _ (HR.out.below (Nat.le_refl _) hbel) HE.out).mono ?_
  rintro e w3 ⟨hb3, v, xs, rfl, hown, hsec⟩
  have hs_w3 := (hb3).size
  have z_w3 : w.heap.size < w3.heap.size := by omega
  replace hbel := hbel.trans ((hb3).mono (show w.heap.size ≤ w2.heap.size by omega))
  replace p0 : w3.cell? ⟨w.heap.size, 0, none⟩ = some (.int .i64 kind) := ((hb3).cell (show w.heap.size < w2.heap.size by omega)).trans p0
  replace p1 : w3.cell? ⟨w.heap.size, 1, none⟩ = some (.slice a1 p cp) := ((hb3).cell (show w.heap.size < w2.heap.size by omega)).trans p1
  replace p2 : w3.cell? ⟨w.heap.size, 2, none⟩ = some (.slice a2 s cs) := ((hb3).cell (show w.heap.size < w2.heap.size by omega)).trans p2
  obtain ⟨_, hp, hs, hp2, _, hs1, hrow⟩ := chErr_zero HE.out
  obtain rfl : s = 1 := hs1 rfl
  obtain ⟨hsn, hok⟩ := hrow 0 (by omega)
  obtain ⟨g, cap, rfl, hg, hgl, hcap, hcm, hcells⟩ := ownsRow_reads hown (by omega)
  have HCL := Lib.hid hcells
  have HSE := Lib.hid hsec
  have HOK0 := Lib.hid hok
  have HSN := Lib.hid hsn
  clear hown hrow hs1 hcells hsec hok hsn
  go_wp2_with fail
  refine (error_any kind a1 a2 p cp 1 cs sa sn sc sf _ (HR.out.below (Nat.le_refl _) hbel)).mono ?_
  rintro e w4 ⟨rfl, hb4⟩
  have hc4 : ∀ j u, xs[j]? = some u → w4.cell? ⟨g, j, none⟩ = some u := fun j u hj => (hb4.cell (show g < w3.heap.size from hgl)).trans (HCL.out j u hj)
  have hok := HOK0.out
  have hsec := HSE.out
  have hsn := HSN.out
  clear HCL HSE HOK0 HSN
  have hs_w4 := (hb4).size
  have z_w4 : w.heap.size < w4.heap.size := by omega
  replace hbel := hbel.trans ((hb4).mono (show w.heap.size ≤ w3.heap.size by omega))
  replace p0 : w4.cell? ⟨w.heap.size, 0, none⟩ = some (.int .i64 kind) := ((hb4).cell (show w.heap.size < w3.heap.size by omega)).trans p0
  replace p1 : w4.cell? ⟨w.heap.size, 1, none⟩ = some (.slice a1 p cp) := ((hb4).cell (show w.heap.size < w3.heap.size by omega)).trans p1
  replace p2 : w4.cell? ⟨w.heap.size, 2, none⟩ = some (.slice a2 1 cs) := ((hb4).cell (show w.heap.size < w3.heap.size by omega)).trans p2
  rw [show chErr kind p 1 sn sf = 0 by rw [HK.out]; exact HE.out]
  have e1 : (kind != 3) = false := by rw [HK.out]; rfl
  obtain ⟨b, off, rfl, hq⟩ := HR.out.below (Nat.le_refl _) hbel (by omega)
  obtain ⟨d0, _, hi⟩ := hq 0 (by omega)
  obtain ⟨n, hn⟩ : ∃ n, n = sn 0 := ⟨_, rfl⟩
  obtain ⟨f, hf⟩ : ∃ f, f = sf 0 := ⟨_, rfl⟩
  rw [← hn] at hsn hok d0 hi hsec hcap ⊢
  rw [← hf] at hok hi hsec
  obtain ⟨b3, off3, hsa, hcell⟩ := hi (by omega)
  rw [hsa] at d0
  replace d0 : w4.cell? ⟨b, off, none⟩ = some (.slice (some ⟨b3, off3, none⟩) n (sc 0)) := d0
  have hok' : okV n f := fun i hi => hok i hi
  obtain ⟨hA1, hA2⟩ := okV_sum hok' (Nat.le_refl n) (by omega)
  have HOK := Lib.hid hok'
  have HC := Lib.hid hcell
  have HC4 := Lib.hid hc4
  have HS := Lib.hid hsec.2
  subst hsn
  clear hq hi hcell hok hok' hn hf hsa hb3 hb4 hc4 hsec HE
  go_wp2_with fail
  go_loopw [10, 64] (fun ax ix wr => ∃ k : Nat, ix = .int .i64 k ∧ ax = .int .i64 (sumI f k) ∧ k ≤ n ∧ w4 = wr) (fun _ ix _ => n - (intOf ix).toNat)
  case atStart => exact ⟨0, rfl, rfl, by omega, rfl⟩
  case round =>
    obtain ⟨k, rfl, rfl, hk, rfl⟩ := hrel
    by_cases hkn : k < n
    · have d1 := HC.out k hkn
      obtain ⟨hr1, hr2⟩ := HOK.out k hkn
      obtain ⟨hs1, hs2⟩ := okV_sum (fun i hi => HOK.out i (by omega)) hk hp2
      go_wp2_with fail
      go_roundw
      case rel => exact ⟨k + 1, by go_num, rfl, by omega, trivial⟩
      case measure => simp [intOf]; omega
    · obtain rfl : n = k := by omega
      obtain ⟨A, hA⟩ : ∃ A, A = sumI f n := ⟨_, rfl⟩
      rw [← hA] at hA1 hA2 HS
      rw [← hA]
      have HA := Lib.hid hA
      have HSS := Lib.hid HS.out
      clear hA HS
      have d9 : ((n : Int) != (n : Int)) = false := by simp
      go_wp2_with fail
      go_loopw [13, 14, 87] (fun sv fv ix wr => ∃ k : Nat, ix = .int .i64 k ∧ sv = .int .i64 (sumI f k) ∧ fv = .int .i64 (toV A (sumI f k)) ∧ k ≤ n ∧ w4 = wr) (fun _ _ ix _ => n - (intOf ix).toNat)
      case atStart => exact ⟨0, rfl, rfl, by rw [show sumI f 0 = 0 from rfl, toV_zero], by omega, rfl⟩
      case round =>
        obtain ⟨k, rfl, rfl, rfl, hk, rfl⟩ := hrel
        by_cases hkn : k < n
        · have d1 := HC.out k hkn
          obtain ⟨hr1, hr2⟩ := HOK.out k hkn
          obtain ⟨hs1, hs2⟩ := okV_sum (fun i hi => HOK.out i (by omega)) hk hp2
          obtain ⟨ht1, ht2⟩ := okV_sum (k := k + 1) (fun i hi => HOK.out i (by omega)) (by omega) hp2
          obtain ⟨x1, x2, x3⟩ := HSS.out k hkn
          have c1 := HC4.out _ _ x1
          have c2 := HC4.out _ _ x2
          have c3 := HC4.out _ _ x3
          clear x1 x2 x3
          obtain ⟨F, hF⟩ : ∃ F, F = toV A (sumI f k) := ⟨_, rfl⟩
          rw [← hF] at c2
          rw [← hF]
          change w4.cell? ⟨g, k * 3 + 2, none⟩ = some (.int .i64 (toV A (sumI f k + f k))) at c3
          change 0 ≤ sumI f k + f k at ht1
          change sumI f k + f k ≤ 20000000000000 at ht2
          have HF := Lib.hid hF
          clear hF
          obtain ⟨T, hT⟩ : ∃ T, T = toV A (sumI f k + f k) := ⟨_, rfl⟩
          rw [← hT] at c3
          by_cases hA0 : 0 < A
          · have hT' : SP.near ((sumI f k + f k) * 3600) A = T := by rw [hT]; unfold toV; rw [if_pos hA0]
            have HT := Lib.hid hT
            clear hT
            go_wp2_with fail
            refine (SP.near_any _ _ _ (by omega) (by omega)).mono ?_
            rintro e w9 ⟨rfl, rfl⟩
            rw [hT']
            go_wp2_with fail
            go_roundw
            case rel => exact ⟨k + 1, by go_num, rfl, congrArg _ HT.out, by omega, trivial⟩
            case measure => simp [intOf]; omega
          · have hT0 : T = 0 := by rw [hT]; unfold toV; rw [if_neg hA0]
            have HT := Lib.hid hT
            clear hT
            subst hT0
            go_wp2_with fail
            go_roundw
            case rel => exact ⟨k + 1, by go_num, rfl, congrArg _ HT.out, by omega, trivial⟩
            case measure => simp [intOf]; omega
        · obtain rfl : n = k := by omega
          go_wp2_with fail
          refine (right_any m h al cl _ (HL.out.below (Nat.le_refl _) hbel) hm).mono ?_
          rintro e w5 ⟨rfl, hb5⟩
          have hbel5 := hbel.trans (hb5.mono (by omega))
          go_wp2_with fail
          go_ret
          exact ⟨rfl, hbel5⟩
end Go.Proofs.Ytpbnkkeplhgepaa.CH
