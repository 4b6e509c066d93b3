
/-
  clock.pass: time passes for the slide that is shown.
-/
import Derived.Test.YtpbnkkeplhgepaaProg
import Derived.Test.YtpbnkkeplhgepaaAside
import Derived.Test.YtpbnkkeplhgepaaClPlain
import Derived.Test.YtpbnkkeplhgepaaCommon
import Derived.WalkLawsBesides
import Derived.Lib.Hide
namespace Go.Proofs.Ytpbnkkeplhgepaa.CL
open Go.RowKit Go.Law Go.Law.Cl
set_option linter.unusedVariables false
set_option linter.unusedSimpArgs false
set_option maxRecDepth 100000
/-- block R is a report with the row v -/
def Rec (w : World) (R : Nat) (s : St) (v : Value) : Prop := w.heap[R]? = some (.cells #[.bool s.run, .int .i64 s.tot, .int .i64 s.sl, v] 67 (0, 0))
theorem Rec.run {w : World} {R : Nat} {s : St} {v : Value} (h : Rec w R s v) : w.cell? ⟨R, 0, none⟩ = some (.bool s.run) := by unfold Rec at h; simp [World.cell?, h]
theorem Rec.tot {w : World} {R : Nat} {s : St} {v : Value} (h : Rec w R s v) : w.cell? ⟨R, 1, none⟩ = some (.int .i64 s.tot) := by unfold Rec at h; simp [World.cell?, h]
theorem Rec.sl {w : World} {R : Nat} {s : St} {v : Value} (h : Rec w R s v) : w.cell? ⟨R, 2, none⟩ = some (.int .i64 s.sl) := by unfold Rec at h; simp [World.cell?, h]
theorem Rec.row {w : World} {R : Nat} {s : St} {v : Value} (h : Rec w R s v) : w.cell? ⟨R, 3, none⟩ = some v := by unfold Rec at h; simp [World.cell?, h]
theorem Rec.frozen {w : World} {R : Nat} {s : St} {v : Value} (h : Rec w R s v) (i : Nat) : w.frozen? ⟨R, i, none⟩ = false := by unfold Rec at h; simp [World.frozen?, h]
theorem Rec.lt {w : World} {R : Nat} {s : St} {v : Value} (h : Rec w R s v) : R < w.heap.size := (Array.getElem?_eq_some_iff.1 h).1
theorem Rec.setTot {w : World} {R : Nat} {s : St} {v : Value} (h : Rec w R s v) (x : Int) : Rec (w.setCell ⟨R, 1, none⟩ (.int .i64 x)) R { s with tot := x } v := by
  unfold Rec at *
  simp [World.setCell, Array.getElem?_modify, h]
theorem Rec.setSl {w : World} {R : Nat} {s : St} {v : Value} (h : Rec w R s v) (x : Int) : Rec (w.setCell ⟨R, 2, none⟩ (.int .i64 x)) R { s with sl := x } v := by
  unfold Rec at *
  simp [World.setCell, Array.getElem?_modify, h]
theorem Rec.setRun {w : World} {R : Nat} {s : St} {v : Value} (h : Rec w R s v) (x : Bool) : Rec (w.setCell ⟨R, 0, none⟩ (.bool x)) R { s with run := x } v := by
  unfold Rec at *
  simp [World.setCell, Array.getElem?_modify, h]
theorem Rec.setRow {w : World} {R : Nat} {s : St} {v : Value} (h : Rec w R s v) (u : Value) : Rec (w.setCell ⟨R, 3, none⟩ u) R s u := by
  unfold Rec at *
  simp [World.setCell, Array.getElem?_modify, h]
theorem Rec.block {w w' : World} {R : Nat} {s : St} {v : Value} (h : Rec w R s v) (hb : w'.heap[R]? = w.heap[R]?) : Rec w' R s v := hb.trans h
theorem Rec.F {w : World} {R : Nat} {s : St} {v : Value} (h : Rec w R s v) (m : Nat) (F : Nat → Int) : Rec w R { s with m := m, F := F } v := h
/-- a report in memory: block R, and a row of the call's own from base on -/
structure Held (w : World) (R base : Nat) (s : St) (v : Value) : Prop where
  box : Rec w R s v
  row : RowI w base 74 3 v s.m s.F
  low : R < base
theorem Held.ne {w : World} {R base : Nat} {s : St} {v : Value} (h : Held w R base s v) : v.ownBlock ≠ some R := fun e => by have := h.row.ge R e; have := h.low; omega
theorem Held.drewN {w : World} {R base : Nat} {s : St} {v : Value} (h : Held w R base s v) (k : Nat) : Held (w.drewN k) R base s v := ⟨h.box.block rfl, h.row.drewN k, h.low⟩
theorem Held.alloc {w : World} {R base : Nat} {s : St} {v : Value} (h : Held w R base s v) (o : Obj) : Held (w.alloc o) R base s v :=
  ⟨h.box.block (Below.heap_alloc _ _ _ h.box.lt), h.row.alloc o, h.low⟩
/-- the times of the first k slides are added -/
def partT (sl d : Int) (k : Nat) (F : Nat → Int) : Nat → Int := fun j => if j < k * 3 then addT sl d F j else F j
theorem partT_zero (sl d : Int) (F : Nat → Int) : partT sl d 0 F = F := by funext j; unfold partT; rw [if_neg (by omega)]
theorem partT_0 (sl d : Int) (F : Nat → Int) {k i : Nat} (h : k ≤ i) : partT sl d k F (i * 3) = F (i * 3) := by unfold partT; rw [if_neg (by omega)]
theorem partT_1 (sl d : Int) (F : Nat → Int) {k i : Nat} (h : k ≤ i) : partT sl d k F (i * 3 + 1) = F (i * 3 + 1) := by unfold partT; rw [if_neg (by omega)]
theorem partT_same {sl d : Int} {F : Nat → Int} {k : Nat} (h : F (k * 3) ≠ sl) : partT sl d (k + 1) F = partT sl d k F := by
  funext j
  unfold partT
  by_cases h1 : j < k * 3
  · rw [if_pos h1, if_pos (by omega)]
  · rw [if_neg h1]
    by_cases h2 : j < (k + 1) * 3
    · rw [if_pos h2]
      have : j = k * 3 ∨ j = k * 3 + 1 ∨ j = k * 3 + 2 := by omega
      rcases this with rfl | rfl | rfl
      · rw [addT_0]
      · rw [addT_1, if_neg h]
      · rw [addT_2]
    · rw [if_neg h2]
theorem partT_add {sl d : Int} {F : Nat → Int} {k : Nat} (h : F (k * 3) = sl) : partT sl d (k + 1) F = upd (partT sl d k F) (k * 3 + 1) (F (k * 3 + 1) + d) := by
  funext j
  unfold upd
  by_cases h3 : j = k * 3 + 1
  · subst h3
    rw [if_pos rfl]
    unfold partT
    rw [if_pos (by omega), addT_1, if_pos h]
  · rw [if_neg h3]
    unfold partT
    by_cases h1 : j < k * 3
    · rw [if_pos h1, if_pos (by omega)]
    · rw [if_neg h1]
      by_cases h2 : j < (k + 1) * 3
      · rw [if_pos h2]
        have : j = k * 3 ∨ j = k * 3 + 2 := by omega
        rcases this with rfl | rfl
        · rw [addT_0]
        · rw [addT_2]
      · rw [if_neg h2]
theorem partT_all {sl d : Int} {F : Nat → Int} {m : Nat} : ∀ j, j < m * 3 → partT sl d m F j = addT sl d F j := fun j hj => by unfold partT; rw [if_pos hj]
set_option maxHeartbeats 4000000 in
theorem pass_any (R base : Nat) (s : St) (c d : Int) (k : Nat) (v : Value) (w : World) (hH : Held w R base s v) (hG : Cl.Good s c k) (hd : 0 ≤ d ∧ d ≤ 10000000) (hc : c ≤ 10000000) (hk : k ≤ 10000) :
    Calls Try.prog 49 #[.pointer (some ⟨R, 0, none⟩), .int .i64 d] w fun e w' => e = .returned (.tuple #[]) ∧ Held w' R base (passS s d) v ∧ Aside R v w w' := by
  obtain ⟨run, tot, sl, m, F⟩ := s
  have r0 := hH.box.run
  have r1 := hH.box.tot
  have z0 := hH.box.frozen
  have hR := hH.box.lt
  simp only at r0 r1
  have z1 := z0 1
  clear z0
  cases run
  · go_enter Try.func49, Try.ntmps49
    go_wp2_with fail
    first | go_end0 | (simp only [Exit.inBlock, Exit.then]; refine bodyPost_ret (results_none rfl _ _ _) rfl ?_) | refine bodyPost_ret (results_none rfl _ _ _) rfl ?_
    exact ⟨rfl, hH, Aside.refl _ _ _⟩
  · obtain ⟨ht1, ht2⟩ := hG.tot
    simp only at ht1 ht2
    obtain ⟨aS, cap, rfl, hcap, hcm⟩ := hH.row.slice
    simp only at hcap hcm
    have hm := hG.many
    simp only at hm
    have HG := Lib.hid hG
    have r2 := hH.box.sl
    have r3 := hH.box.row
    simp only at r2 r3
    have HH := Lib.hid hH
    clear hG hH
    go_enter Try.func49, Try.ntmps49
    go_wp2_with fail
    go_loopw [23] (fun ix wr => ∃ q : Nat, ix = .int .i64 q ∧ q ≤ m ∧ Held wr R base ⟨true, tot + d, sl, m, partT sl d q F⟩ (.slice aS m cap) ∧ Aside R (.slice aS m cap) w wr) (fun ix _ => m - (intOf ix).toNat)
    case atStart =>
      refine ⟨0, rfl, by omega, ⟨HH.out.box.setTot (tot + d), ?_, HH.out.low⟩, (Aside.refl _ _ _).setR 1 _⟩
      rw [partT_zero]
      exact HH.out.row.other HH.out.ne _
    case round =>
      obtain ⟨q, rfl, hq, hH2, has2⟩ := hrel
      have q0 := hH2.box.sl
      have q3 := hH2.box.row
      simp only at q0 q3
      by_cases hqm : q < m
      · obtain ⟨g, cap', hv, hg, hgl, _, _, hfz, hcells⟩ := hH2.row.at (by show 0 < m; omega)
        cases hv
        have e0 := hcells (q * 3) (by show q * 3 < m * 3; omega)
        have e1 := hcells (q * 3 + 1) (by show q * 3 + 1 < m * 3; omega)
        have f1 := hfz (q * 3 + 1)
        simp only at e0 e1
        rw [partT_0 _ _ _ (Nat.le_refl _)] at e0
        rw [partT_1 _ _ _ (Nat.le_refl _)] at e1
        obtain ⟨hb1, hb2⟩ := HG.out.time q hqm
        simp only at hb1 hb2
        have HC := Lib.hid hcells
        have HH2 := Lib.hid hH2
        have HAS := Lib.hid has2
        clear hcells hfz hH2 has2
        by_cases he : F (q * 3) = sl
        · have d9 : (F (q * 3) == sl) = true := by simpa using he
          have HE := Lib.hid (partT_add (d := d) he)
          rw [he] at e0
          clear he
          go_wp2_with fail
          go_quiet (fail)
          go_wp2_with fail
          go_roundw
          case rel =>
            refine ⟨q + 1, by go_num, by omega, ⟨?_, ?_, HH2.out.low⟩, (HAS.out.drewN _).setRow (p := ⟨g, q * 3 + 1, none⟩) rfl _⟩
            · exact (HH2.out.drewN _).box.block (Below.heap_setCell _ _ _ _ (by have := HH2.out.low; show R ≠ g; omega))
            · show RowI _ base 74 3 _ m (partT sl d (q + 1) F)
              rw [HE.out]
              exact (HH2.out.drewN _).row.set (q * 3 + 1) (by show q * 3 + 1 < m * 3; omega) _
          case measure => simp [intOf]; omega
        · have d9 : (F (q * 3) == sl) = false := by simpa using he
          have HE := Lib.hid (partT_same (d := d) he)
          clear he
          go_wp2_with fail
          go_quiet (fail)
          go_wp2_with fail
          go_roundw
          case rel =>
            refine ⟨q + 1, by go_num, by omega, ?_, HAS.out.drewN _⟩
            rw [HE.out]
            exact HH2.out.drewN _
          case measure => simp [intOf]; omega
      · obtain rfl : q = m := by omega
        go_wp2_with fail
        first | go_end0 | (simp only [Exit.inBlock, Exit.then]; refine bodyPost_ret (results_none rfl _ _ _) rfl ?_) | refine bodyPost_ret (results_none rfl _ _ _) rfl ?_
        refine ⟨rfl, ⟨hH2.box, ?_, hH2.low⟩, has2⟩
        exact hH2.row.congr fun j hj => partT_all j hj
end Go.Proofs.Ytpbnkkeplhgepaa.CL
