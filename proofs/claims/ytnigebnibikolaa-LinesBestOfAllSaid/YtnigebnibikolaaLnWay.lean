

/-
  The reference's bestFrom.
-/
import Derived.Test.YtnigebnibikolaaLnWayS
import Derived.Test.YtnigebnibikolaaLnEndsR
import Derived.Test.YtnigebnibikolaaLnCostR
import Derived.Test.YtnigebnibikolaaTakes
import Derived.Deep.CutRange
namespace Go.Proofs.Ytnigebnibikolaa.LN
open Go.RowKit Go.Law Go.Law.Ln
set_option linter.unusedVariables false
set_option linter.unusedSimpArgs false
set_option maxRecDepth 100000
/-- what bestFrom leaves: the steps that are left, and the best lines if there are any left -/
def BfPost (sb : Nat) (k : Int) (w : World) (P : List Line) (C : Int) (e : Ending) (w' : World) : Prop :=
  ∃ k' : Int, Blk w' sb #[.int .i64 k'] 3 ∧ Only sb w w' ∧ -1 ≤ k' ∧ k' < k ∧ ((k' < 0 ∧ e = .returned (.tuple #[.slice none 0 0, .int .i64 0])) ∨ (0 ≤ k' ∧ ∃ v, e = .returned (.tuple #[v, .int .i64 C]) ∧ RowL w' w.heap.size 74 6 v P.length (linesC P)))
/-- the cells of the shape's box and of a line's box -/
def BfC (q px : Nat) (aW : Option Addr) (nw cW : Nat) (D : Int) (xa z : Nat) (Nt St Rs Wd : Int) (w : World) : Prop :=
  w.cell? ⟨q, 0, none⟩ = some (.slice aW nw cW) ∧ w.cell? ⟨q, 1, none⟩ = some (.int .i64 D) ∧ w.cell? ⟨px, 0, none⟩ = some (.int .i64 xa) ∧ w.cell? ⟨px, 1, none⟩ = some (.int .i64 z) ∧ w.cell? ⟨px, 2, none⟩ = some (.int .i64 Nt) ∧ w.cell? ⟨px, 3, none⟩ = some (.int .i64 St) ∧ w.cell? ⟨px, 4, none⟩ = some (.int .i64 Rs) ∧ w.cell? ⟨px, 5, none⟩ = some (.int .i64 Wd)
theorem BfC.of {q px : Nat} {aW : Option Addr} {nw cW : Nat} {D : Int} {xa z : Nat} {Nt St Rs Wd : Int} {w : World} {T U : TypeId} (h : Blk w q #[.slice aW nw cW, .int .i64 D] T) (hx : Blk w px #[.int .i64 xa, .int .i64 z, .int .i64 Nt, .int .i64 St, .int .i64 Rs, .int .i64 Wd] U) : BfC q px aW nw cW D xa z Nt St Rs Wd w :=
  ⟨h.cell (i := 0) rfl, h.cell (i := 1) rfl, hx.cell (i := 0) rfl, hx.cell (i := 1) rfl, hx.cell (i := 2) rfl, hx.cell (i := 3) rfl, hx.cell (i := 4) rfl, hx.cell (i := 5) rfl⟩
/-- the cells that the call of itself reads -/
def BfD (q px : Nat) (aW : Option Addr) (nw cW : Nat) (D : Int) (z b o : Nat) (F : Bool) (w : World) : Prop :=
  w.cell? ⟨q, 0, none⟩ = some (.slice aW nw cW) ∧ w.cell? ⟨q, 1, none⟩ = some (.int .i64 D) ∧ w.cell? ⟨px, 1, none⟩ = some (.int .i64 z) ∧ w.cell? ⟨b, o, none⟩ = some (.bool F)
theorem BfD.of {q px : Nat} {aW : Option Addr} {nw cW : Nat} {D : Int} {xa z : Nat} {Nt St Rs Wd : Int} {w : World} {T U : TypeId} {b o : Nat} {F : Bool} (h : Blk w q #[.slice aW nw cW, .int .i64 D] T) (hx : Blk w px #[.int .i64 xa, .int .i64 z, .int .i64 Nt, .int .i64 St, .int .i64 Rs, .int .i64 Wd] U) (hd : w.cell? ⟨b, o, none⟩ = some (.bool F)) : BfD q px aW nw cW D z b o F w :=
  ⟨h.cell (i := 0) rfl, h.cell (i := 1) rfl, hx.cell (i := 1) rfl, hd⟩
/-- with the line that is looked at, and the way's row -/
structure BfX (w : World) (sb : Nat) (aW : Option Addr) (nw cW : Nat) (D : Int) (E : List Line) (ve : Value) (k : Int) (v : Value) (xs : List Line) (px : Nat) (x : Line) (wr : World) : Prop where
  base : BfS 60 74 3 w sb aW nw cW D E ve k v xs wr
  box : Blk wr px #[.int .i64 x.a, .int .i64 x.z, .int .i64 x.nat, .int .i64 x.str, .int .i64 x.shr, .int .i64 x.wid] 74
  low : w.heap.size < px
structure BfY (w : World) (sb : Nat) (aW : Option Addr) (nw cW : Nat) (D : Int) (E : List Line) (ve : Value) (k : Int) (v : Value) (xs : List Line) (px : Nat) (x : Line) (pw : Nat) (wr : World) : Prop extends BfX w sb aW nw cW D E ve k v xs px x wr where
  way : RowL wr (w.heap.size + 1) 74 6 (.slice (some ⟨pw, 0, none⟩) 1 1) 1 (linesC [x])
  wlow : w.heap.size < pw
  e1 : ∀ q, ve.ownBlock = some q → q < pw
  e2 : ∀ q, v.ownBlock = some q → q < pw
theorem row_one {w : World} {base : Nat} {e : TypeId} {cs : List Value} {s : Nat} (hs : cs.length = s) (hb : base ≤ w.heap.size) : RowL (w.alloc (.cells cs.toArray e)) base e s (.slice (some ⟨w.heap.size, 0, none⟩) 1 1) 1 cs := by
  refine ⟨by rw [hs, Nat.one_mul], .inr ⟨w.heap.size, 1, cs.toArray, rfl, hb, ?_, Nat.le_refl _, by unfold maxLen; omega, by simp [hs], ?_⟩⟩
  · show (w.heap.push _)[_]? = _; simp
  · rw [Nat.one_mul, ← hs]; simp
section
variable {w : World} {sb : Nat} {aW : Option Addr} {nw cW : Nat} {D : Int} {E : List Line} {ve : Value} {k : Int} {v : Value} {xs : List Line} {px pw : Nat} {x : Line} {wr w' : World}
theorem BfX.under (h : BfX w sb aW nw cW D E ve k v xs px x wr) (hb : Below wr.heap.size wr w') : BfX w sb aW nw cW D E ve k v xs px x w' :=
  ⟨h.base.under hb, h.box.below hb h.box.lt, h.low⟩
theorem BfY.under (h : BfY w sb aW nw cW D E ve k v xs px x pw wr) (hb : Below wr.heap.size wr w') : BfY w sb aW nw cW D E ve k v xs px x pw w' :=
  ⟨h.toBfX.under hb, h.way.below hb (Nat.le_refl _), h.wlow, h.e1, h.e2⟩
theorem BfX.made (h : BfX w sb aW nw cW D E ve k v xs px x wr) : BfY w sb aW nw cW D E ve k v xs px x wr.heap.size (wr.alloc (.cells #[.int .i64 x.a, .int .i64 x.z, .int .i64 x.nat, .int .i64 x.str, .int .i64 x.shr, .int .i64 x.wid] 74)) :=
  ⟨h.under ((Below.refl _ _).alloc (Nat.le_refl _) _), row_one (cs := linesC [x]) rfl (by have := h.base.only.size; have := h.base.shape.lt; omega), by have := h.base.shape.lt; omega, fun q hq => RowL.blk_lt h.base.ends q hq, fun q hq => RowL.blk_lt h.base.lines q hq⟩
theorem BfY.call (h : BfY w sb aW nw cW D E ve k v xs px x pw wr) (ho : Only sb wr w') {k' : Int} (hk : Blk w' sb #[.int .i64 k'] 3) : BfY w sb aW nw cW D E ve k' v xs px x pw w' := by
  have hl := h.base.low
  refine ⟨⟨h.base.call ho hk, h.box.block (ho.block _ h.box.lt (by have := h.low; omega) (by simp [Value.ownBlock])), h.low⟩, h.way.only ho ?_, h.wlow, h.e1, h.e2⟩
  intro e
  simp [Value.ownBlock] at e
  have := h.wlow
  omega
end
theorem linesC_one : ∀ {xs : List Line}, ∀ u ∈ linesC xs, u.oneCell' = true
  | [], u, h => by cases h
  | x :: l, u, h => by
    rcases List.mem_append.1 h with h | h
    · simp at h
      rcases h with rfl | rfl | rfl | rfl | rfl | rfl <;> rfl
    · exact linesC_one u h
theorem eq_nilL (w : World) (a : Option Addr) (x c : Nat) : (binOp .eql 61 (.slice a x c) (.slice none 0 0)).run Try.prog w = .ok (.bool a.isNone) w := by
  simp only [binOp]
  simp [Op.equal, Op.maxDepth, Lib.run_equalIn_slice_nil w 9999 61 74 a x c 0 0 Try.underlying61]
attribute [local go_sem] eq_nilL
set_option maxHeartbeats 8000000 in
theorem bestR_any (n : Nat) (L : Nat → Part) (nw : Nat) (W : Nat → Int) (D : Int) (aP aW : Option Addr) (cP cW : Nat) (w0 : World) (sb : Nat) (mP : CellsF w0 aP n 6 (fun i => (L i).V)) (mW : IntsF w0 aW nw W) (hn : n ≤ 1000) (hcP : n ≤ cP) (hcM : cP ≤ 1000000000000000) (hg : Go.Law.Ln.Good n L nw W D) (hsb : w0.heap.size ≤ sb) :
    ∀ (f a num : Nat) (flag : Bool) (k : Int) (w : World), a ≤ n → n + 1 - a ≤ f → num ≤ a → Below w0.heap.size w0 w → Blk w sb #[.int .i64 k] 3 → 0 ≤ k → k ≤ 100000 →
      Calls Try.prog 61 #[.slice aP n cP, .agg #[.slice aW nw cW, .int .i64 D], .int .i64 a, .int .i64 num, .bool flag, .pointer (some ⟨sb, 0, none⟩)] w (BfPost sb k w (pathF n L nw W D a num flag) (bestF n L nw W D a num flag).2.1) := by
  have HP := Lib.hid mP
  have HW := Lib.hid mW
  have HG := Lib.hid hg
  have hnw := hg.some
  have hDD := hg.double
  have hI := info_parts (show (Try.prog.info? 74).map (fun i => (i.zero, i.size, i.bytes)) = some (some (.agg #[.int .i64 0, .int .i64 0, .int .i64 0, .int .i64 0, .int .i64 0, .int .i64 0]), 6, 48) by kernel_rfl)
  have HI := Lib.hid hI
  clear mP mW hg hI
  intro f
  induction f with
  | zero => intro a num flag k w ha hf; omega
  | succ f ih =>
    intro a num flag k w ha hf hna hB hq hk0 hkM
    have IH := Lib.hid ih
    clear ih
    obtain ⟨P, hP⟩ : ∃ P, P = pathF n L nw W D a num flag := ⟨_, rfl⟩
    obtain ⟨R, hR⟩ : ∃ R, R = bestF n L nw W D a num flag := ⟨_, rfl⟩
    rw [← hP, ← hR]
    have HR1 := Lib.hid (show P = accL n L nw W D a num (some R) by rw [hP, hR]; exact pathF_way HG.out ha)
    obtain ⟨E, hE⟩ : ∃ E, E = endF n L nw W a num := ⟨_, rfl⟩
    have HFB := Lib.hid (show E.foldl (stepB n L D (bestF n L nw W D) num flag) none = some R by rw [hR, hE]; exact fold_best ha)
    have HE := Lib.hid hE
    have hEl : E.length ≤ 10000 := by
      have := endF_len (n := n) (L := L) (nw := nw) (W := W) (a := a) (num := num)
      rw [hE]; omega
    clear hP hR hE
    have hsz := hB.size
    have s5 := hq.cell (i := 0) rfl
    have fz5 := hq.frozen
    have z5 := hq.lt
    have HQ := Lib.hid hq
    clear hq
    by_cases h0 : k = 0
    · subst h0
      go_enter Try.func61, Try.ntmps61
      go_wp2_with fail
      go_ret2
      refine ⟨-1, ?_, ?_, by omega, by omega, .inl ⟨by omega, rfl⟩⟩
      · have h := (HQ.out.set 0 (.int .i64 (-1))).alloc (Obj.cells #[.slice aW nw cW, .int .i64 D] 60)
        simp only [List.setIfInBounds_toArray, List.set_cons_zero] at h
        exact h
      · exact ((Aside.refl _ _ _).setR 0 _).alloc _
    · have hk1 : 1 ≤ k := by omega
      have hk1' : ¬ (k - 1 < 0) := by omega
      clear h0
      go_enter Try.func61, Try.ntmps61
      go_wp2_with fail
      obtain ⟨w1, hw1⟩ : ∃ w1, w1 = (w.setCell ⟨sb, 0, none⟩ (.int .i64 (k - 1))).alloc (Obj.cells #[.slice aW nw cW, .int .i64 D] 60) := ⟨_, rfl⟩
      rw [← hw1]
      have hO1 : Only sb w w1 := by rw [hw1]; exact ((Aside.refl _ _ _).setR 0 _).alloc _
      have hQ1 : Blk w1 sb #[.int .i64 (k - 1)] 3 := by
        have h := (HQ.out.set 0 (.int .i64 (k - 1))).alloc (Obj.cells #[.slice aW nw cW, .int .i64 D] 60)
        simp only [List.setIfInBounds_toArray, List.set_cons_zero] at h
        rw [hw1]; exact h
      have hS1 : Blk w1 w.heap.size #[.slice aW nw cW, .int .i64 D] 60 := by
        have h := Blk.new (w.setCell ⟨sb, 0, none⟩ (.int .i64 (k - 1))) #[.slice aW nw cW, .int .i64 D] 60
        rw [show (w.setCell ⟨sb, 0, none⟩ (.int .i64 (k - 1))).heap.size = w.heap.size by simp [World.setCell]] at h
        rw [hw1]; exact h
      have hsz1 : w1.heap.size = w.heap.size + 1 := by rw [hw1]; simp [World.setCell]
      clear hw1 s5 fz5 HQ
      refine (endsR_any n L nw W D aP aW cP cW a num w1 (HP.out.below (Nat.le_refl _) (hB.trans (hO1.to_below hsz hsb))) (HW.out.below (Nat.le_refl _) (hB.trans (hO1.to_below hsz hsb))) (by omega) hcP hcM ha HG.out.parts hnw (by omega)).mono ?_
      rintro e w2 ⟨ve, rfl, hrow2, hb2⟩
      rw [← HE.out] at hrow2
      have hS2 : BfS 60 74 3 w sb aW nw cW D E ve (k - 1) (.slice none 0 0) (accL n L nw W D a num none) w2 :=
        ⟨hO1.more hb2 (Nat.le_refl _), z5, hQ1.below hb2 hQ1.lt, hS1.below hb2 hS1.lt, hrow2.mono (by omega), RowL.nil _ _ _ _⟩
      obtain ⟨av, cv, rfl, _, _⟩ := RowL.slice hrow2
      have HS2 := Lib.hid hS2
      clear hrow2 hb2 hS2 hO1 hQ1 hS1 hsz1 hk1'
      go_wp2_with fail
      go_loopw [14, 15, 38] (fun bv Cv iv wr => ∃ (j : Nat) (k1 : Int) (acc : Option Pl) (bv0 : Value), bv0 = bv ∧ iv = .int .i64 j ∧ Cv = .int .i64 (accN acc) ∧ j ≤ E.length ∧ (acc = none → bv = .slice none 0 0) ∧ (E.drop j).foldl (stepB n L D (bestF n L nw W D) num flag) acc = some R ∧ (∀ p, acc = some p → p.2.2 = (accL n L nw W D a num acc).length ∧ In3 n a p) ∧ (0 ≤ k1 ∧ k1 < k) ∧ BfS 60 74 3 w sb aW nw cW D E (.slice av E.length cv) k1 bv (accL n L nw W D a num acc) wr) (fun _ _ iv _ => E.length - (intOf iv).toNat)
      case atStart => exact ⟨0, k - 1, none, _, rfl, rfl, rfl, Nat.zero_le _, fun _ => rfl, HFB.out, fun p hp => (nomatch hp), by omega, HS2.out⟩
      case round =>
        obtain ⟨j, k1, acc, bv, hbv, rfl, rfl, hj, hnil, hF, hacc, hk1b, hS⟩ := hrel
        subst hbv
        have HS := Lib.hid hS
        have HNIL := Lib.hid hnil
        have HF := Lib.hid hF
        have HACC := Lib.hid hacc
        have HROW := Lib.hid hS.lines
        clear hS hnil hF hacc HS2 HFB
        by_cases hjl : j < E.length
        · have hlt := hjl
          have HF2 := HF.out
          rw [List.drop_eq_getElem_cons hlt, List.foldl_cons] at HF2
          obtain ⟨hx, hxa, hxn⟩ := endF_mem ha (show E[j] ∈ endF n L nw W a num by rw [← HE.out]; exact List.getElem_mem hlt)
          have hmem : E[j] ∈ endF n L nw W a num := by rw [← HE.out]; exact List.getElem_mem hlt
          obtain ⟨x, hxe⟩ : ∃ x, x = E[j] := ⟨_, rfl⟩
          rw [← hxe] at HF2 hx hxa hxn hmem
          have hxq : E[j]? = some x := by rw [hxe]; exact List.getElem?_eq_getElem hlt
          have hbd := line_bd (nw := nw) (W := W) (num := num) (n := n) (L := L) (a := a) (z := x.z) (by omega) HG.out.parts hxa hxn
          have hwd := lineW HG.out a x.z num
          have hcb := costF_bound HG.out hxa hxn (num := num)
          have hdb := dblF_bound HG.out flag x.z
          rw [← hx] at hbd hwd hcb
          have hst := step_way HG.out (flag := flag) ha (acc := acc) hmem (fun p hp => (HACC.out p hp).1)
          have hin := way_in3 HG.out (rec := bestF n L nw W D) (flag := flag) ⟨hx, hxa, hxn⟩ (fun hl => best_in3 HG.out (n + 1 - aftF n L x.z) _ _ _ (by have := aftF_gt hxn hl; omega) (Nat.le_refl _))
          have hxa2 : x.a = a := by rw [hx]; rfl
          have hlen2 : 1 ≤ (wayL n L nw W D num x).length := by unfold wayL; simp
          obtain ⟨WL, hWL⟩ : ∃ l, l = wayL n L nw W D num x := ⟨_, rfl⟩
          have hWLx : wayL n L nw W D num (lineF n L nw W a x.z num) = WL := by rw [← hx, hWL]
          rw [← hWL] at hst hlen2
          obtain ⟨WC, hWC⟩ : ∃ c, c = (wayC n L D (bestF n L nw W D) num flag x).1 := ⟨_, rfl⟩
          rw [← hWC] at hst hin
          rw [way_len HG.out ha hmem, ← hWL] at hin
          obtain ⟨xa, z, Nt, St, Rs, Wd⟩ := x
          simp only at hxa2 hxa hxn hbd hwd hdb hWLx hin hst
          subst hxa2
          obtain ⟨C1, hC1⟩ : ∃ c, c = costF n L ⟨xa, z, Nt, St, Rs, Wd⟩ + dblF n L D flag z := ⟨_, rfl⟩
          have hc1b : -100000000 ≤ C1 ∧ C1 ≤ 2500001000000 := by rw [hC1]; omega
          obtain ⟨lb, hlb⟩ : ∃ b, b = lastB n L z := ⟨_, rfl⟩
          have HLAST := Lib.hid (show lb = true → WC = C1 ∧ WL = [⟨xa, z, Nt, St, Rs, Wd⟩] from fun h => by
            rw [hWC, hC1, hWL]; unfold wayC wayL
            simp only
            rw [← hlb, h]; exact ⟨rfl, rfl⟩)
          have HNEXT := Lib.hid (show lb = false → WC = C1 + (bestF n L nw W D (aftF n L z) (num + 1) (flgB n L z)).2.1 ∧ WL = ⟨xa, z, Nt, St, Rs, Wd⟩ :: pathF n L nw W D (aftF n L z) (num + 1) (flgB n L z) from fun h => by
            rw [hWC, hC1, hWL]; unfold wayC wayL
            simp only
            rw [← hlb, h]; exact ⟨rfl, rfl⟩)
          have HAFT := Lib.hid (show lb = false → z < aftF n L z ∧ aftF n L z < n from fun h => aftF_gt hxn (by rw [← hlb]; exact h))
          have HPB := Lib.hid (show lb = false → In3 n (aftF n L z) (bestF n L nw W D (aftF n L z) (num + 1) (flgB n L z)) from fun h => best_in3 HG.out (n + 1 - aftF n L z) _ _ _ (by have := aftF_gt hxn (by rw [← hlb]; exact h); omega) (Nat.le_refl _))
          have HPL := Lib.hid (show lb = false → (pathF n L nw W D (aftF n L z) (num + 1) (flgB n L z)).length = (bestF n L nw W D (aftF n L z) (num + 1) (flgB n L z)).2.2 from fun h => path_len HG.out _ _ _ _ (by have := aftF_gt hxn (by rw [← hlb]; exact h); omega) (Nat.le_refl _))
          have HLB := Lib.hid hlb
          have HC1 := Lib.hid hC1
          have HST := Lib.hid hst
          have HIN := Lib.hid hin
          have HWLX := Lib.hid hWLx
          have HF3 := Lib.hid HF2
          obtain ⟨gl, cl, hve, hgl1, hgl2, hcl1, hcl2, hfrz, hcells⟩ := RowL.at HS.out.ends (by omega)
          obtain ⟨rfl, rfl⟩ : av = some ⟨gl, 0, none⟩ ∧ cv = cl := by injection hve with h1 _ h2; exact ⟨h1, h2⟩
          have l0 : wr.cell? ⟨gl, j * 6 + 0, none⟩ = some (.int .i64 xa) := hcells _ _ (linesC_get hxq (j := 0) rfl)
          have l1 : wr.cell? ⟨gl, j * 6 + 1, none⟩ = some (.int .i64 z) := hcells _ _ (linesC_get hxq (j := 1) rfl)
          have l2 : wr.cell? ⟨gl, j * 6 + 2, none⟩ = some (.int .i64 Nt) := hcells _ _ (linesC_get hxq (j := 2) rfl)
          have l3 : wr.cell? ⟨gl, j * 6 + 3, none⟩ = some (.int .i64 St) := hcells _ _ (linesC_get hxq (j := 3) rfl)
          have l4 : wr.cell? ⟨gl, j * 6 + 4, none⟩ = some (.int .i64 Rs) := hcells _ _ (linesC_get hxq (j := 4) rfl)
          have l5 : wr.cell? ⟨gl, j * 6 + 5, none⟩ = some (.int .i64 Wd) := hcells _ _ (linesC_get hxq (j := 5) rfl)
          rw [Nat.add_zero] at l0
          have hxz : (z : Int) ≤ n := by omega
          obtain ⟨bd1, bd2, bd3⟩ := hbd
          clear hve hcl1 hcl2 hfrz hcells hxq hxe hC1 hlb HF2 hx HF hcb hdb hst hin hmem hWL hWC hWLx
          go_upto_region 9 with fail
          obtain ⟨w3, hw3⟩ : ∃ w3, w3 = wr.alloc (Obj.cells #[.int .i64 xa, .int .i64 z, .int .i64 Nt, .int .i64 St, .int .i64 Rs, .int .i64 Wd] 74) := ⟨_, rfl⟩
          rw [← hw3]
          have hX3 : BfX w sb aW nw cW D E (.slice (some ⟨gl, 0, none⟩) E.length cv) k1 bv (accL n L nw W D xa num acc) wr.heap.size ⟨xa, z, Nt, St, Rs, Wd⟩ w3 := by
            rw [hw3]
            exact ⟨HS.out.under ((Below.refl _ _).alloc (Nat.le_refl _) _), Blk.new _ _ _, HS.out.shape.lt⟩
          obtain ⟨px, hpx⟩ : ∃ px, px = wr.heap.size := ⟨_, rfl⟩
          rw [← hpx] at hX3 ⊢
          have HX3 := Lib.hid hX3
          clear hw3 hpx l0 l1 l2 l3 l4 l5 hgl1 hgl2 hX3 HS
          go_cut [18, 19, 38] from 38 to 104 (fun sv nv iv wx => nv = .int .i64 C1 ∧ iv = .int .i64 j ∧ ∃ pw, sv = .slice (some ⟨pw, 0, none⟩) 1 1 ∧ BfY w sb aW nw cW D E (.slice (some ⟨gl, 0, none⟩) E.length cv) k1 bv (accL n L nw W D xa num acc) px ⟨xa, z, Nt, St, Rs, Wd⟩ pw wx)
          case first =>
            go_wp2_with fail
            have hX3 := HX3.out.under (Below.refl _ _).drew
            refine wp_region_held_drew (S := BfC w.heap.size px aW nw cW D xa z Nt St Rs Wd) (by kernel_rfl) (BfC.of hX3.base.shape hX3.box) ?_
            intro hHeld
            obtain ⟨wd, hwd'⟩ : ∃ wd, wd = w3.drew := ⟨_, rfl⟩
            rw [← hwd'] at hX3 hHeld ⊢
            have HXd := Lib.hid hX3
            clear hwd' hX3
            refine takeD (i := 0) (oi := { dst := some 42, op := _, type := _, pos := _, after := _, guard := _ }) (d := some 42) (v := ?vva42) rfl rfl (by kernel_rfl) (by kernel_rfl) (by kernel_rfl) ?dda42 (by rfl) ?yya42 hHeld ?rra42
            case dda42 => exact fun _ _ _ h => h
            case yya42 => (intro wx hSw; obtain ⟨y0, y1, y2, y3, y4, y5, y6, y7⟩ := hSw; go_simp; try (with_reducible rfl))
            try simp only [Act.put, List.setIfInBounds_toArray, List.set_cons_zero, List.set_cons_succ]
            refine takeD (i := 2) (oi := { dst := some 44, op := _, type := _, pos := _, after := _, guard := _ }) (d := some 44) (v := ?vva44) rfl rfl (by kernel_rfl) (by kernel_rfl) (by kernel_rfl) ?dda44 (by rfl) ?yya44 hHeld ?rra44
            case dda44 => exact fun _ _ _ h => h
            case yya44 => (intro wx hSw; obtain ⟨y0, y1, y2, y3, y4, y5, y6, y7⟩ := hSw; go_simp; try (with_reducible rfl))
            try simp only [Act.put, List.setIfInBounds_toArray, List.set_cons_zero, List.set_cons_succ]
            refine takeD (i := 3) (oi := { dst := some 45, op := _, type := _, pos := _, after := _, guard := _ }) (d := some 45) (v := ?vva45) rfl rfl (by kernel_rfl) (by kernel_rfl) (by kernel_rfl) ?dda45 (by rfl) ?yya45 hHeld ?rra45
            case dda45 => exact fun _ _ _ h => h
            case yya45 => (intro wx hSw; obtain ⟨y0, y1, y2, y3, y4, y5, y6, y7⟩ := hSw; go_simp; try (with_reducible rfl))
            try simp only [Act.put, List.setIfInBounds_toArray, List.set_cons_zero, List.set_cons_succ]
            refine takeD (i := 4) (oi := { dst := some 46, op := _, type := _, pos := _, after := _, guard := _ }) (d := some 46) (v := ?vva46) rfl rfl (by kernel_rfl) (by kernel_rfl) (by kernel_rfl) ?dda46 (by rfl) ?yya46 hHeld ?rra46
            case dda46 => exact fun _ _ _ h => h
            case yya46 => (intro wx hSw; obtain ⟨y0, y1, y2, y3, y4, y5, y6, y7⟩ := hSw; go_simp; try (with_reducible rfl))
            try simp only [Act.put, List.setIfInBounds_toArray, List.set_cons_zero, List.set_cons_succ]
            refine takeD (i := 5) (oi := { dst := some 47, op := _, type := _, pos := _, after := _, guard := _ }) (d := some 47) (v := ?vva47) rfl rfl (by kernel_rfl) (by kernel_rfl) (by kernel_rfl) ?dda47 (by rfl) ?yya47 hHeld ?rra47
            case dda47 => exact fun _ _ _ h => h
            case yya47 => (intro wx hSw; obtain ⟨y0, y1, y2, y3, y4, y5, y6, y7⟩ := hSw; go_simp; try (with_reducible rfl))
            try simp only [Act.put, List.setIfInBounds_toArray, List.set_cons_zero, List.set_cons_succ]
            refine wpAnyH_ready (rs := [1, 6]) (by kernel_rfl) (by simp) ?_
            refine AllReadyH.cons (o := { dst := some 43, op := _, type := _, pos := _, after := _, guard := _ }) rfl (fun K hK => ?_) (AllReadyH.cons (o := { dst := some 48, op := _, type := _, pos := _, after := _, guard := _ }) rfl (fun K hK => ?_) AllReadyH.nil)
            · go_simp
              have hY := BfX.made (HXd).out
              simp only at hY
              refine hK.out _ _ (BfC.of hY.base.shape hY.box) (fun hHeld2 => ?_)
              clear hK K
              try simp only [Act.put, List.setIfInBounds_toArray, List.set_cons_zero, List.set_cons_succ]
              refine wpAnyH_ready (rs := [6]) (by kernel_rfl) (by simp) ?_
              refine AllReadyH.cons (o := { dst := some 48, op := _, type := _, pos := _, after := _, guard := _ }) rfl (fun K hK => ?_) AllReadyH.nil
              go_simp
              refine (lineCost_any n L nw W D aP aW cP cW xa z Nt St Rs Wd flag _ (HP.out.below (Nat.le_refl _) (hB.trans ((hY).base.only.to_below hsz hsb))) (by omega) hxn HG.out.parts hDD bd1 bd2 bd3 hwd).mono ?_
              rintro e w5 ⟨rfl, hb3⟩
              rw [← HC1.out]
              have hX3 := (hY).under hb3
              refine hK.out _ _ (BfC.of hX3.base.shape hX3.box) (fun hHeld3 => ?_)
              clear hK K
              try simp only [Act.put, List.setIfInBounds_toArray, List.set_cons_zero, List.set_cons_succ]
              refine takeD (i := 7) (oi := { dst := some 18, op := _, type := _, pos := _, after := _, guard := _ }) (d := some 18) (v := ?vvb18) rfl rfl (by kernel_rfl) (by kernel_rfl) (by kernel_rfl) ?ddb18 (by rfl) ?yyb18 hHeld3 ?rrb18
              case ddb18 => exact fun _ _ _ h => h
              case yyb18 => (intro wx hSw; obtain ⟨y0, y1, y2, y3, y4, y5, y6, y7⟩ := hSw; go_simp; try (with_reducible rfl))
              try simp only [Act.put, List.setIfInBounds_toArray, List.set_cons_zero, List.set_cons_succ]
              refine takeD (i := 8) (oi := { dst := some 19, op := _, type := _, pos := _, after := _, guard := _ }) (d := some 19) (v := ?vvb19) rfl rfl (by kernel_rfl) (by kernel_rfl) (by kernel_rfl) ?ddb19 (by rfl) ?yyb19 hHeld3 ?rrb19
              case ddb19 => exact fun _ _ _ h => h
              case yyb19 => (intro wx hSw; obtain ⟨y0, y1, y2, y3, y4, y5, y6, y7⟩ := hSw; go_simp; try (with_reducible rfl))
              try simp only [Act.put, List.setIfInBounds_toArray, List.set_cons_zero, List.set_cons_succ]
              refine wpAnyH_done (by kernel_rfl) ?_ _
              go_wp2_with fail
              go_meet
              exact ⟨rfl, rfl, _, rfl, hX3⟩
            · go_simp
              refine (lineCost_any n L nw W D aP aW cP cW xa z Nt St Rs Wd flag _ (HP.out.below (Nat.le_refl _) (hB.trans ((HXd.out).base.only.to_below hsz hsb))) (by omega) hxn HG.out.parts hDD bd1 bd2 bd3 hwd).mono ?_
              rintro e w5 ⟨rfl, hb3⟩
              rw [← HC1.out]
              have hX3 := (HXd.out).under hb3
              refine hK.out _ _ (BfC.of hX3.base.shape hX3.box) (fun hHeld3 => ?_)
              clear hK K
              try simp only [Act.put, List.setIfInBounds_toArray, List.set_cons_zero, List.set_cons_succ]
              refine wpAnyH_ready (rs := [1]) (by kernel_rfl) (by simp) ?_
              refine AllReadyH.cons (o := { dst := some 43, op := _, type := _, pos := _, after := _, guard := _ }) rfl (fun K hK => ?_) AllReadyH.nil
              go_simp
              have HX4 := Lib.hid hX3
              have hY := BfX.made (HX4).out
              simp only at hY
              refine hK.out _ _ (BfC.of hY.base.shape hY.box) (fun hHeld2 => ?_)
              clear hK K
              try simp only [Act.put, List.setIfInBounds_toArray, List.set_cons_zero, List.set_cons_succ]
              refine takeD (i := 7) (oi := { dst := some 18, op := _, type := _, pos := _, after := _, guard := _ }) (d := some 18) (v := ?vvc18) rfl rfl (by kernel_rfl) (by kernel_rfl) (by kernel_rfl) ?ddc18 (by rfl) ?yyc18 hHeld2 ?rrc18
              case ddc18 => exact fun _ _ _ h => h
              case yyc18 => (intro wx hSw; obtain ⟨y0, y1, y2, y3, y4, y5, y6, y7⟩ := hSw; go_simp; try (with_reducible rfl))
              try simp only [Act.put, List.setIfInBounds_toArray, List.set_cons_zero, List.set_cons_succ]
              refine takeD (i := 8) (oi := { dst := some 19, op := _, type := _, pos := _, after := _, guard := _ }) (d := some 19) (v := ?vvc19) rfl rfl (by kernel_rfl) (by kernel_rfl) (by kernel_rfl) ?ddc19 (by rfl) ?yyc19 hHeld2 ?rrc19
              case ddc19 => exact fun _ _ _ h => h
              case yyc19 => (intro wx hSw; obtain ⟨y0, y1, y2, y3, y4, y5, y6, y7⟩ := hSw; go_simp; try (with_reducible rfl))
              try simp only [Act.put, List.setIfInBounds_toArray, List.set_cons_zero, List.set_cons_succ]
              refine wpAnyH_done (by kernel_rfl) ?_ _
              go_wp2_with fail
              go_meet
              exact ⟨rfl, rfl, _, rfl, hY⟩
          case rest =>
          obtain ⟨rfl, rfl, pw, rfl, hY⟩ := hcut
          have HY := Lib.hid hY
          have mPc := HP.out.below (Nat.le_refl _) (hB.trans (hY.base.only.to_below hsz hsb))
          have HMP := Lib.hid mPc
          have x1 := hY.box.cell (i := 1) rfl
          have zx := hY.box.lt
          simp only at x1 zx
          clear hY HX3 mPc
          go_wp2_with fail
          refine (follow_any n L aP cP z _ HMP.out (by omega) hxn).mono ?_
          rintro e w8 ⟨rfl, rfl⟩
          obtain ⟨af, haf⟩ : ∃ y, y = aftF n L z := ⟨_, rfl⟩
          rw [← haf]
          have HAF := Lib.hid haf
          clear haf
          go_upto_if 56 with fail
          go_cut [18, 19, 38] from 38 to 104 (fun sv nv iv wx => nv = .int .i64 WC ∧ iv = .int .i64 j ∧ ∃ (k2 : Int) (ap : Option Addr) (cs : Nat), sv = .slice ap WL.length cs ∧ (0 ≤ k2 ∧ k2 < k) ∧ BfS 60 74 3 w sb aW nw cW D E (.slice (some ⟨gl, 0, none⟩) E.length cv) k2 bv (accL n L nw W D xa num acc) wx ∧ RowL wx (w.heap.size + 1) 74 6 sv WL.length (linesC WL))
          case first =>
            cases lb
            · have HN := Lib.hid (HNEXT.out rfl)
              have hpb := HPB.out rfl
              have hpl := HPL.out rfl
              have haft := HAFT.out rfl
              have hzn : z < n := by omega
              have hfe : flgB n L z = (L z).flag := by unfold flgB; simp [hzn]
              rw [← HAF.out, hfe] at HN hpb hpl
              rw [← HAF.out] at haft
              obtain ⟨b, off, rfl, hc0⟩ := HP.out (by omega)
              have d0 : w0.cell? ⟨b, off + z * 6 + 5, none⟩ = some (.bool (L z).flag) := hc0 z hzn 5 (by omega)
              obtain ⟨F, hF⟩ : ∃ F, F = (L z).flag := ⟨_, rfl⟩
              rw [← hF] at HN hpb hpl d0
              obtain ⟨P2, hP2⟩ : ∃ y, y = pathF n L nw W D af (num + 1) F := ⟨_, rfl⟩
              obtain ⟨R2, hR2⟩ : ∃ y, y = bestF n L nw W D af (num + 1) F := ⟨_, rfl⟩
              rw [← hP2, ← hR2] at HN hpl
              rw [← hR2] at hpb
              have HD0 := Lib.hid d0
              have HP2 := Lib.hid hP2
              have HR2 := Lib.hid hR2
              obtain ⟨_, pb2, pb3⟩ := hpb
              have hpl1 : 1 ≤ P2.length ∧ P2.length ≤ 1001 := by omega
              have hltn : ((af : Int) < (n : Int)) := by omega
              have i2 : (z : Int) < (n : Int) := by omega
              have f1 : IntKind.i64.wrap ((num : Int) + 1) = (num : Int) + 1 := IntWalk.i64_in _ ⟨by omega, by omega⟩
              have hYd := HY.out.under (Below.refl _ _).drew
              have hBd := hB.trans (hYd.base.only.to_below hsz hsb)
              clear hpl hc0 hfe d0 hP2 hR2 hF HNEXT HLAST HPB HPL HAFT
              go_wp2_with fail
              refine wp_region_held_drew (S := BfD w.heap.size px aW nw cW D z b (off + z * 6 + 5) F) (by kernel_rfl) (BfD.of hYd.base.shape hYd.box (cell_below HD0.out (Nat.le_refl _) hBd)) ?_
              intro hHeld
              obtain ⟨wd, hwd'⟩ : ∃ wd, wd = wc.drew := ⟨_, rfl⟩
              rw [← hwd'] at hYd hHeld hBd ⊢
              have HYd := Lib.hid hYd
              have HBd := Lib.hid hBd
              clear hwd' hYd hBd x1 zx
              refine takeD (i := 0) (oi := { dst := some 58, op := _, type := _, pos := _, after := _, guard := _ }) (d := some 58) (v := ?vvd58) rfl rfl (by kernel_rfl) (by kernel_rfl) (by kernel_rfl) ?ddd58 (by rfl) ?yyd58 hHeld ?rrd58
              case ddd58 => exact fun _ _ _ h => h
              case yyd58 => (intro wx hSw; obtain ⟨y0, y1, y2, y3⟩ := hSw; go_simp; try (with_reducible rfl))
              try simp only [Act.put, List.setIfInBounds_toArray, List.set_cons_zero, List.set_cons_succ]
              refine takeD (i := 1) (oi := { dst := some 59, op := _, type := _, pos := _, after := _, guard := _ }) (d := some 59) (v := ?vvd59) rfl rfl (by kernel_rfl) (by kernel_rfl) (by kernel_rfl) ?ddd59 (by rfl) ?yyd59 hHeld ?rrd59
              case ddd59 => exact fun _ _ _ h => h
              case yyd59 => (intro wx hSw; obtain ⟨y0, y1, y2, y3⟩ := hSw; go_simp; try (with_reducible rfl))
              try simp only [Act.put, List.setIfInBounds_toArray, List.set_cons_zero, List.set_cons_succ]
              refine takeD (i := 2) (oi := { dst := some 60, op := _, type := _, pos := _, after := _, guard := _ }) (d := some 60) (v := ?vvd60) rfl rfl (by kernel_rfl) (by kernel_rfl) (by kernel_rfl) ?ddd60 (by rfl) ?yyd60 hHeld ?rrd60
              case ddd60 => exact fun _ _ _ h => h
              case yyd60 => (intro wx hSw; obtain ⟨y0, y1, y2, y3⟩ := hSw; go_simp; try (with_reducible rfl))
              try simp only [Act.put, List.setIfInBounds_toArray, List.set_cons_zero, List.set_cons_succ]
              refine takeD (i := 3) (oi := { dst := some 61, op := _, type := _, pos := _, after := _, guard := _ }) (d := some 61) (v := ?vvd61) rfl rfl (by kernel_rfl) (by kernel_rfl) (by kernel_rfl) ?ddd61 (by rfl) ?yyd61 hHeld ?rrd61
              case ddd61 => exact fun _ _ _ h => h
              case yyd61 => (intro wx hSw; obtain ⟨y0, y1, y2, y3⟩ := hSw; go_simp; try (with_reducible rfl))
              try simp only [Act.put, List.setIfInBounds_toArray, List.set_cons_zero, List.set_cons_succ]
              refine takeD (i := 4) (oi := { dst := some 62, op := _, type := _, pos := _, after := _, guard := _ }) (d := some 62) (v := ?vvd62) rfl rfl (by kernel_rfl) (by kernel_rfl) (by kernel_rfl) ?ddd62 (by rfl) ?yyd62 hHeld ?rrd62
              case ddd62 => exact fun _ _ _ h => h
              case yyd62 => (intro wx hSw; obtain ⟨y0, y1, y2, y3⟩ := hSw; go_simp; try (with_reducible rfl))
              try simp only [Act.put, List.setIfInBounds_toArray, List.set_cons_zero, List.set_cons_succ]
              refine takeD (i := 5) (oi := { dst := some 63, op := _, type := _, pos := _, after := _, guard := _ }) (d := some 63) (v := ?vvd63) rfl rfl (by kernel_rfl) (by kernel_rfl) (by kernel_rfl) ?ddd63 (by rfl) ?yyd63 hHeld ?rrd63
              case ddd63 => exact fun _ _ _ h => h
              case yyd63 => (intro wx hSw; obtain ⟨y0, y1, y2, y3⟩ := hSw; go_simp; try (with_reducible rfl))
              try simp only [Act.put, List.setIfInBounds_toArray, List.set_cons_zero, List.set_cons_succ]
              refine takeD (i := 6) (oi := { dst := some 64, op := _, type := _, pos := _, after := _, guard := _ }) (d := some 64) (v := ?vvd64) rfl rfl (by kernel_rfl) (by kernel_rfl) (by kernel_rfl) ?ddd64 (by rfl) ?yyd64 hHeld ?rrd64
              case ddd64 => exact fun _ _ _ h => h
              case yyd64 => (intro wx hSw; obtain ⟨y0, y1, y2, y3⟩ := hSw; go_simp; try (with_reducible rfl))
              try simp only [Act.put, List.setIfInBounds_toArray, List.set_cons_zero, List.set_cons_succ]
              refine takeD (i := 7) (oi := { dst := some 65, op := _, type := _, pos := _, after := _, guard := _ }) (d := some 65) (v := ?vvd65) rfl rfl (by kernel_rfl) (by kernel_rfl) (by kernel_rfl) ?ddd65 (by rfl) ?yyd65 hHeld ?rrd65
              case ddd65 => exact fun _ _ _ h => h
              case yyd65 => (intro wx hSw; obtain ⟨y0, y1, y2, y3⟩ := hSw; go_simp; try (with_reducible rfl))
              try simp only [Act.put, List.setIfInBounds_toArray, List.set_cons_zero, List.set_cons_succ]
              refine takeD (i := 8) (oi := { dst := some 66, op := _, type := _, pos := _, after := _, guard := _ }) (d := some 66) (v := ?vvd66) rfl rfl (by kernel_rfl) (by kernel_rfl) (by kernel_rfl) ?ddd66 (by rfl) ?yyd66 hHeld ?rrd66
              case ddd66 => exact fun _ _ _ h => h
              case yyd66 => (intro wx hSw; obtain ⟨y0, y1, y2, y3⟩ := hSw; go_simp; try (with_reducible rfl))
              try simp only [Act.put, List.setIfInBounds_toArray, List.set_cons_zero, List.set_cons_succ]
              refine takeD (i := 9) (oi := { dst := some 67, op := _, type := _, pos := _, after := _, guard := _ }) (d := some 67) (v := ?vvd67) rfl rfl (by kernel_rfl) (by kernel_rfl) (by kernel_rfl) ?ddd67 (by rfl) ?yyd67 hHeld ?rrd67
              case ddd67 => exact fun _ _ _ h => h
              case yyd67 => (intro wx hSw; obtain ⟨y0, y1, y2, y3⟩ := hSw; go_simp; try (with_reducible rfl))
              try simp only [Act.put, List.setIfInBounds_toArray, List.set_cons_zero, List.set_cons_succ]
              refine takeD (i := 10) (oi := { dst := some 68, op := _, type := _, pos := _, after := _, guard := _ }) (d := some 68) (v := ?vvd68) rfl rfl (by kernel_rfl) (by kernel_rfl) (by kernel_rfl) ?ddd68 (by rfl) ?yyd68 hHeld ?rrd68
              case ddd68 => exact fun _ _ _ h => h
              case yyd68 => (intro wx hSw; obtain ⟨y0, y1, y2, y3⟩ := hSw; go_simp; try (with_reducible rfl))
              try simp only [Act.put, List.setIfInBounds_toArray, List.set_cons_zero, List.set_cons_succ]
              refine takeD (i := 11) (oi := { dst := some 69, op := _, type := _, pos := _, after := _, guard := _ }) (d := some 69) (v := ?vvd69) rfl rfl (by kernel_rfl) (by kernel_rfl) (by kernel_rfl) ?ddd69 (by rfl) ?yyd69 hHeld ?rrd69
              case ddd69 => exact fun _ _ _ h => h
              case yyd69 => (intro wx hSw; obtain ⟨y0, y1, y2, y3⟩ := hSw; go_simp; try (with_reducible rfl))
              try simp only [Act.put, List.setIfInBounds_toArray, List.set_cons_zero, List.set_cons_succ]
              clear f1
              refine wpAnyH_ready (rs := [12]) (by kernel_rfl) (by simp) ?_
              refine AllReadyH.cons (o := { dst := some 70, op := _, type := _, pos := _, after := _, guard := _ }) rfl (fun K hK => ?_) AllReadyH.nil
              go_simp
              rw [show ((num : Int) + 1) = ((num + 1 : Nat) : Int) from by omega]
              refine (IH.out af (num + 1) F k1 wd (by omega) (by omega) (by omega) HBd.out HYd.out.base.steps hk1b.1 (by omega)).mono ?_
              rintro e w6 ⟨k2, hq6, hO6, hk61, hk62, hres⟩
              rw [← HP2.out, ← HR2.out] at hres
              have HY6 := Lib.hid (HYd.out.call hO6 hq6)
              have s5 := HY6.out.base.steps.cell (i := 0) rfl
              have z6 := HY6.out.base.steps.lt
              have zq6 := HY6.out.base.shape.lt
              have hS6 : BfD w.heap.size px aW nw cW D z b (off + z * 6 + 5) F w6 := BfD.of HY6.out.base.shape HY6.out.box (cell_below HD0.out (Nat.le_refl _) (hB.trans (HY6.out.base.only.to_below hsz hsb)))
              clear hq6 hO6 HYd HBd
              rcases hres with ⟨hneg, rfl⟩ | ⟨hnn, vr, rfl, hrow6⟩
              · refine hK.out _ _ hS6 (fun hHeld2 => ?_)
                clear hK K
                try simp only [Act.put, List.setIfInBounds_toArray, List.set_cons_zero, List.set_cons_succ]
                refine takeD (i := 13) (oi := { dst := some 57, op := _, type := _, pos := _, after := _, guard := _ }) (d := some 57) (v := ?vve57) rfl rfl (by kernel_rfl) (by kernel_rfl) (by kernel_rfl) ?dde57 (by rfl) ?yye57 hHeld2 ?rre57
                case dde57 => exact fun _ _ _ h => h
                case yye57 => (intro wx hSw; obtain ⟨y0, y1, y2, y3⟩ := hSw; go_simp; try (with_reducible rfl))
                try simp only [Act.put, List.setIfInBounds_toArray, List.set_cons_zero, List.set_cons_succ]
                refine takeD (i := 14) (oi := { dst := some 71, op := _, type := _, pos := _, after := _, guard := _ }) (d := some 71) (v := ?vve71) rfl rfl (by kernel_rfl) (by kernel_rfl) (by kernel_rfl) ?dde71 (by rfl) ?yye71 hHeld2 ?rre71
                case dde71 => exact fun _ _ _ h => h
                case yye71 => (intro wx hSw; obtain ⟨y0, y1, y2, y3⟩ := hSw; go_simp; try (with_reducible rfl))
                try simp only [Act.put, List.setIfInBounds_toArray, List.set_cons_zero, List.set_cons_succ]
                refine takeD (i := 15) (oi := { dst := some 72, op := _, type := _, pos := _, after := _, guard := _ }) (d := some 72) (v := ?vve72) rfl rfl (by kernel_rfl) (by kernel_rfl) (by kernel_rfl) ?dde72 (by rfl) ?yye72 hHeld2 ?rre72
                case dde72 => exact fun _ _ _ h => h
                case yye72 => (intro wx hSw; obtain ⟨y0, y1, y2, y3⟩ := hSw; go_simp; try (with_reducible rfl))
                try simp only [Act.put, List.setIfInBounds_toArray, List.set_cons_zero, List.set_cons_succ]
                refine takeD (i := 16) (oi := { dst := some 21, op := _, type := _, pos := _, after := _, guard := _ }) (d := some 21) (v := ?vve21) rfl rfl (by kernel_rfl) (by kernel_rfl) (by kernel_rfl) ?dde21 (by rfl) ?yye21 hHeld2 ?rre21
                case dde21 => exact fun _ _ _ h => h
                case yye21 => (intro wx hSw; obtain ⟨y0, y1, y2, y3⟩ := hSw; go_simp; try (with_reducible rfl))
                try simp only [Act.put, List.setIfInBounds_toArray, List.set_cons_zero, List.set_cons_succ]
                refine takeD (i := 17) (oi := { dst := some 22, op := _, type := _, pos := _, after := _, guard := _ }) (d := some 22) (v := ?vve22) rfl rfl (by kernel_rfl) (by kernel_rfl) (by kernel_rfl) ?dde22 (by rfl) ?yye22 hHeld2 ?rre22
                case dde22 => exact fun _ _ _ h => h
                case yye22 => (intro wx hSw; obtain ⟨y0, y1, y2, y3⟩ := hSw; go_simp; try (with_reducible rfl))
                try simp only [Act.put, List.setIfInBounds_toArray, List.set_cons_zero, List.set_cons_succ]
                refine wpAnyH_done (by kernel_rfl) ?_ _
                clear hS6 hHeld hHeld2
                go_wp2_with fail
                go_ret2
                exact ⟨k2, HY6.out.base.steps, HY6.out.base.only, hk61, by omega, .inl ⟨hneg, rfl⟩⟩
              · obtain ⟨gr, cr, hvr, hgr1, hgr2, hcr1, hcr2, hfz, hcr⟩ := RowL.at hrow6 (by omega)
                subst hvr
                refine hK.out _ _ hS6 (fun hHeld2 => ?_)
                clear hK K
                try simp only [Act.put, List.setIfInBounds_toArray, List.set_cons_zero, List.set_cons_succ]
                refine takeD (i := 13) (oi := { dst := some 57, op := _, type := _, pos := _, after := _, guard := _ }) (d := some 57) (v := ?vvf57) rfl rfl (by kernel_rfl) (by kernel_rfl) (by kernel_rfl) ?ddf57 (by rfl) ?yyf57 hHeld2 ?rrf57
                case ddf57 => exact fun _ _ _ h => h
                case yyf57 => (intro wx hSw; obtain ⟨y0, y1, y2, y3⟩ := hSw; go_simp; try (with_reducible rfl))
                try simp only [Act.put, List.setIfInBounds_toArray, List.set_cons_zero, List.set_cons_succ]
                refine takeD (i := 14) (oi := { dst := some 71, op := _, type := _, pos := _, after := _, guard := _ }) (d := some 71) (v := ?vvf71) rfl rfl (by kernel_rfl) (by kernel_rfl) (by kernel_rfl) ?ddf71 (by rfl) ?yyf71 hHeld2 ?rrf71
                case ddf71 => exact fun _ _ _ h => h
                case yyf71 => (intro wx hSw; obtain ⟨y0, y1, y2, y3⟩ := hSw; go_simp; try (with_reducible rfl))
                try simp only [Act.put, List.setIfInBounds_toArray, List.set_cons_zero, List.set_cons_succ]
                refine takeD (i := 15) (oi := { dst := some 72, op := _, type := _, pos := _, after := _, guard := _ }) (d := some 72) (v := ?vvf72) rfl rfl (by kernel_rfl) (by kernel_rfl) (by kernel_rfl) ?ddf72 (by rfl) ?yyf72 hHeld2 ?rrf72
                case ddf72 => exact fun _ _ _ h => h
                case yyf72 => (intro wx hSw; obtain ⟨y0, y1, y2, y3⟩ := hSw; go_simp; try (with_reducible rfl))
                try simp only [Act.put, List.setIfInBounds_toArray, List.set_cons_zero, List.set_cons_succ]
                refine takeD (i := 16) (oi := { dst := some 21, op := _, type := _, pos := _, after := _, guard := _ }) (d := some 21) (v := ?vvf21) rfl rfl (by kernel_rfl) (by kernel_rfl) (by kernel_rfl) ?ddf21 (by rfl) ?yyf21 hHeld2 ?rrf21
                case ddf21 => exact fun _ _ _ h => h
                case yyf21 => (intro wx hSw; obtain ⟨y0, y1, y2, y3⟩ := hSw; go_simp; try (with_reducible rfl))
                try simp only [Act.put, List.setIfInBounds_toArray, List.set_cons_zero, List.set_cons_succ]
                refine takeD (i := 17) (oi := { dst := some 22, op := _, type := _, pos := _, after := _, guard := _ }) (d := some 22) (v := ?vvf22) rfl rfl (by kernel_rfl) (by kernel_rfl) (by kernel_rfl) ?ddf22 (by rfl) ?yyf22 hHeld2 ?rrf22
                case ddf22 => exact fun _ _ _ h => h
                case yyf22 => (intro wx hSw; obtain ⟨y0, y1, y2, y3⟩ := hSw; go_simp; try (with_reducible rfl))
                try simp only [Act.put, List.setIfInBounds_toArray, List.set_cons_zero, List.set_cons_succ]
                refine wpAnyH_done (by kernel_rfl) ?_ _
                have hnn' : ¬ k2 < 0 := by omega
                have HCR := Lib.hid hcr
                have g1 : IntKind.i64.wrap (C1 + R2.2.1) = C1 + R2.2.1 := IntWalk.i64_in _ ⟨by omega, by omega⟩
                obtain ⟨ii, hii, hz0, hz1, hz2⟩ := HI.out
                clear hS6 hHeld hHeld2 hcr hfz hrow6
                go_wp2_with (at_builtin; go_loud (refine wpList_append_own _ rfl _ _ 61 rfl (w.heap.size + 1) 74 ii _ 6 48 Try.underlying61 hii hz0 hz1 hz2 rfl (by decide) _ _ _ rfl HY6.out.way ⟨gr, 0, none⟩ P2.length cr (linesC P2) rfl (linesC_len P2) ?k1 ?k2 ?k3 ?k4 ?k5 ?_))
                case k1 =>
                  intro j u hj
                  first | exact HCR.out j u hj | (simp only [Addr.add, Nat.zero_add]; exact HCR.out j u hj)
                case k2 => exact linesC_one
                case k3 => unfold maxLen; omega
                case k4 => omega
                case k5 => omega
                intro v7 w7 hown hgrow _
                have hS7 := HY6.out.base.grown hgrow (p := pw) (fun q hq => by simp [Value.ownBlock] at hq; omega) HY6.out.wlow HY6.out.e1 HY6.out.e2
                have hr7 : RowL w7 (w.heap.size + 1) 74 6 v7 WL.length (linesC WL) := by
                  rw [HN.out.2]
                  rw [Nat.add_comm 1 P2.length] at hown
                  exact hown
                have HS7 := Lib.hid hS7
                have HR7 := Lib.hid hr7
                clear hS7 hr7 hown hgrow hii hz0 hz1 hz2
                go_wp2_with fail
                go_meet
                obtain ⟨ap, cs, hv7, _, _⟩ := RowL.slice HR7.out
                exact ⟨by rw [HN.out.1], rfl, k2, ap, cs, hv7, by omega, HS7.out, HR7.out⟩
            · have HL := Lib.hid (HLAST.out rfl)
              have he : af = n := by have := HLB.out; unfold lastB at this; rw [HAF.out]; simpa using this.symm
              subst he
              go_wp2_with fail
              go_meet
              have h1 := HL.out.1
              have h2 := HL.out.2
              subst h1 h2
              exact ⟨rfl, rfl, k1, _, _, rfl, hk1b, HY.out.base, HY.out.way⟩
          case rest =>
          obtain ⟨rfl, rfl, k2, ap, cs, rfl, hk2b, hS9, hr9⟩ := hcut
          have HS9 := Lib.hid hS9
          have HR9 := Lib.hid hr9
          clear hS9 hr9 HY HMP HAF x1 zx
          cases acc with
          | none =>
            have hb := HNIL.out rfl
            subst hb
            have HF5 := Lib.hid (HST.out.1 (.inl rfl))
            clear HST
            go_wp2_with fail
            go_roundw
            case rel =>
              have ha2 : accL n L nw W D xa num (some (z, WC, WL.length)) = WL := HWLX.out
              refine ⟨j + 1, k2, some (z, WC, WL.length), _, rfl, by go_num, rfl, by omega, (fun h => nomatch h), ?_, fun p hp => ?_, hk2b, ?_⟩
              · have h := HF3.out
                rw [HF5.out] at h
                exact h
              · cases hp
                exact ⟨by rw [ha2], HIN.out⟩
              · rw [ha2]
                exact HS9.out.best HR9.out
            case measure => simp [intOf]; omega
          | some p =>
            have hst := HST.out
            obtain ⟨gb, cb, hbv, _, _, _, _, _, _⟩ := RowL.at HROW.out (by have h1 := HACC.out p rfl; have h2 := h1.2.2.2.1; rw [← h1.1]; exact h2)
            subst hbv
            obtain ⟨M, hM⟩ : ∃ M, M = (accL n L nw W D xa num (some p)).length := ⟨_, rfl⟩
            obtain ⟨CA, hCA⟩ : ∃ c, c = accN (some p) := ⟨_, rfl⟩
            rw [← hM, ← hCA] at hst
            rw [← hM] at HS9 HNIL
            rw [← hM, ← hCA]
            have HCA := Lib.hid hCA
            clear HST hM hCA
            by_cases c1 : WC < CA
            · have HF5 := Lib.hid (hst.1 (.inr (.inl c1)))
              clear hst
              go_wp2_with fail
              go_roundw
              case rel =>
                have ha2 : accL n L nw W D xa num (some (z, WC, WL.length)) = WL := HWLX.out
                refine ⟨j + 1, k2, some (z, WC, WL.length), _, rfl, by go_num, rfl, by omega, (fun h => nomatch h), ?_, fun p hp => ?_, hk2b, ?_⟩
                · have h := HF3.out
                  rw [HF5.out] at h
                  exact h
                · cases hp
                  exact ⟨by rw [ha2], HIN.out⟩
                · rw [ha2]
                  exact HS9.out.best HR9.out
              case measure => simp [intOf]; omega
            · by_cases c2 : WC = CA
              · have b2 : (WC == CA) = true := by simpa using c2
                by_cases c3 : WL.length ≤ M
                · have HF5 := Lib.hid (hst.1 (.inr (.inr ⟨c2, c3⟩)))
                  have c3' : (WL.length : Int) ≤ (M : Int) := by omega
                  clear hst c2 c3
                  go_wp2_with fail
                  go_roundw
                  case rel =>
                    have ha2 : accL n L nw W D xa num (some (z, WC, WL.length)) = WL := HWLX.out
                    refine ⟨j + 1, k2, some (z, WC, WL.length), _, rfl, by go_num, rfl, by omega, (fun h => nomatch h), ?_, fun p hp => ?_, hk2b, ?_⟩
                    · have h := HF3.out
                      rw [HF5.out] at h
                      exact h
                    · cases hp
                      exact ⟨by rw [ha2], HIN.out⟩
                    · rw [ha2]
                      exact HS9.out.best HR9.out
                  case measure => simp [intOf]; omega
                · have HF5 := Lib.hid (hst.2 (fun h => h.elim (fun h => nomatch h) (fun h => h.elim c1 (fun h => c3 h.2))))
                  have c3' : ¬ (WL.length : Int) ≤ (M : Int) := by omega
                  clear hst c2 c3
                  go_wp2_with fail
                  go_roundw
                  case rel =>
                    refine ⟨j + 1, k2, some p, _, rfl, by go_num, by rw [HCA.out], by omega, (fun h => nomatch h), ?_, HACC.out, hk2b, HS9.out⟩
                    have h := HF3.out
                    rw [HF5.out] at h
                    exact h
                  case measure => simp [intOf]; omega
              · have b2 : (WC == CA) = false := by simpa using c2
                have HF5 := Lib.hid (hst.2 (fun h => h.elim (fun h => nomatch h) (fun h => h.elim c1 (fun h => c2 h.1))))
                clear hst c2
                go_wp2_with fail
                go_roundw
                case rel =>
                  refine ⟨j + 1, k2, some p, _, rfl, by go_num, by rw [HCA.out], by omega, (fun h => nomatch h), ?_, HACC.out, hk2b, HS9.out⟩
                  have h := HF3.out
                  rw [HF5.out] at h
                  exact h
                case measure => simp [intOf]; omega
        · obtain rfl : j = E.length := by omega
          have HFE := Lib.hid (show acc = some R by
            have h := HF.out
            rw [List.drop_length] at h
            exact h)
          clear HF
          go_wp2_with fail
          go_ret2
          have h1 := HFE.out
          subst h1
          refine ⟨k1, HS.out.steps, HS.out.only, by omega, hk1b.2, .inr ⟨hk1b.1, bv, rfl, ?_⟩⟩
          rw [HR1.out]
          exact HS.out.lines.mono (Nat.le_succ _)
end Go.Proofs.Ytnigebnibikolaa.LN
