/-
  BdState, RowV, BdPairsP, BdCls, BdParaP, BdSmall, Make.
-/
import Derived.Test.YtojbicdmcodgdaaDoorBdM02
import Derived.Test.YtojbicdmcodgdaaDoorBdM00
import Derived.Test.YtojbicdmcodgdaaDoorProg
import Derived.WalkKit
import Derived.WalkLawsBesides
import Derived.Lib.Hide
import Derived.Deep.QuietTactic
import Derived.BigQuiet
import Derived.StillTailTactics
import Derived.BigRegion
namespace Go.Law.Bd
open Go Go.Law Go.RowKit
set_option linter.unusedVariables false
/-- a sequence: blocks, lengths, places, own classes, levels -/
structure SqP where
  sz : Nat
  pz : Nat
  ga : Nat
  gw : Nat
  gc : Nat
  gl : Nat
  go : Nat
  gm : Nat
  n : Nat
  m : Nat
  cap : Nat
  A : Nat → Nat
  K : Nat → Int
  lev : Int
  beg : Int
  en : Int
  base : Int
  tv : Value
structure SqOk (p : SqP) : Prop where
  lt : ∀ k, k < p.m → p.A k < p.n
  inj : ∀ j k, j < p.m → k < p.m → p.A j = p.A k → j = k
  mn : p.m ≤ p.n
  mc : p.m ≤ p.cap
  n2 : p.n ≤ 200
  c1 : p.gc ≠ p.sz
  c2 : p.gc ≠ p.pz
  c3 : p.gc ≠ p.ga
  c4 : p.gc ≠ p.gw
  l1 : p.gl ≠ p.sz
  l2 : p.gl ≠ p.pz
  l3 : p.gl ≠ p.ga
  l4 : p.gl ≠ p.gw
  lc : p.gl ≠ p.gc
structure SqW (p : SqP) (w : World) : Prop where
  sb : Blk w p.sz #[.pointer (some ⟨p.pz, 0, none⟩), .slice (some ⟨p.ga, 0, none⟩) p.m p.cap, .slice (some ⟨p.gw, 0, none⟩) p.n p.n, .int .i64 p.lev, .int .i64 p.beg, .int .i64 p.en] 65
  pb : Blk w p.pz #[p.tv, .slice (some ⟨p.gc, 0, none⟩) p.n p.n, .slice (some ⟨p.gl, 0, none⟩) p.n p.n, .int .i64 p.base, .slice (some ⟨p.go, 0, none⟩) p.n p.n, .slice (some ⟨p.gm, 0, none⟩) p.n p.n] 39
  at_ : ∀ k, k < p.m → w.cell? ⟨p.ga, k, none⟩ = some (.int .i64 (p.A k))
  ow : ∀ i, i < p.n → w.cell? ⟨p.gw, i, none⟩ = some (.int .i64 (p.K i))
/-- the classes of the row: V at the sequence's places, C0 elsewhere -/
def ClsV (p : SqP) (C0 : Nat → Int) (w : World) (V : Nat → Int) : Prop :=
  ∃ C, OwnF w 3 p.gc p.n C ∧ (∀ k, k < p.m → C (p.A k) = V k) ∧ ∀ j, (∀ k, k < p.m → p.A k ≠ j) → C j = C0 j
structure Sq (p : SqP) (C0 : Nat → Int) (w0 w : World) (V : Nat → Int) : Prop where
  st : SqW p w
  cl : ClsV p C0 w V
  on : Only p.gc w0 w
section
variable {p : SqP} {C0 V V' : Nat → Int} {w0 w w' : World} {g : Nat}
theorem SqW.block (h : SqW p w) (hb : ∀ k, k < w.heap.size → k ≠ g → w'.heap[k]? = w.heap[k]?) (h1 : g ≠ p.sz) (h2 : g ≠ p.pz) (h3 : g ≠ p.ga) (h4 : g ≠ p.gw) : SqW p w' where
  sb := h.sb.block (hb _ h.sb.lt (fun e => h1 e.symm))
  pb := h.pb.block (hb _ h.pb.lt (fun e => h2 e.symm))
  at_ := fun k hk => (World.cell?_of_block (w := w) (hb _ (lt_of_cell (h.at_ k hk)) (fun e => h3 e.symm))).trans (h.at_ k hk)
  ow := fun k hk => (World.cell?_of_block (w := w) (hb _ (lt_of_cell (h.ow k hk)) (fun e => h4 e.symm))).trans (h.ow k hk)
theorem SqW.only (h : SqW p w) (ho : Only g w w') (h1 : g ≠ p.sz) (h2 : g ≠ p.pz) (h3 : g ≠ p.ga) (h4 : g ≠ p.gw) : SqW p w' :=
  h.block (g := g) (fun k hk hne => Aside.block ho k hk hne (by simp [Value.ownBlock])) h1 h2 h3 h4
theorem SqW.drewN (h : SqW p w) (q : Nat) : SqW p (w.drewN q) := ⟨h.sb.drewN q, h.pb.drewN q, h.at_, h.ow⟩
theorem ClsV.drewN (h : ClsV p C0 w V) (q : Nat) : ClsV p C0 (w.drewN q) V := by
  obtain ⟨C, h1, h2, h3⟩ := h
  exact ⟨C, h1.drewN q, h2, h3⟩
theorem ClsV.congr (h : ClsV p C0 w V) (he : ∀ k, k < p.m → V k = V' k) : ClsV p C0 w V' := by
  obtain ⟨C, h1, h2, h3⟩ := h
  exact ⟨C, h1, fun k hk => by rw [h2 k hk, he k hk], h3⟩
theorem ClsV.cell (h : ClsV p C0 w V) (ok : SqOk p) {k : Nat} (hk : k < p.m) : w.cell? ⟨p.gc, p.A k, none⟩ = some (.int .i64 (V k)) := by
  obtain ⟨C, h1, h2, h3⟩ := h
  rw [← h2 k hk]; exact h1.cell (ok.lt k hk)
theorem ClsV.frozen (h : ClsV p C0 w V) (i : Nat) : w.frozen? ⟨p.gc, i, none⟩ = false := by
  obtain ⟨C, h1, h2, h3⟩ := h
  exact h1.frozen i
theorem ClsV.set (h : ClsV p C0 w V) (ok : SqOk p) {k : Nat} (hk : k < p.m) (x : Int) : ClsV p C0 (w.setCell ⟨p.gc, p.A k, none⟩ (.int .i64 x)) (upd V k x) := by
  obtain ⟨C, h1, h2, h3⟩ := h
  refine ⟨_, h1.set (p.A k) x, fun j hj => ?_, fun j hj => ?_⟩
  · unfold upd
    by_cases he : j = k
    · subst he; rw [if_pos rfl, if_pos rfl]
    · rw [if_neg he, if_neg (fun e => he (ok.inj j k hj hk e))]; exact h2 j hj
  · unfold upd
    rw [if_neg (fun e => hj k hk e.symm)]; exact h3 j hj
theorem Sq.drewN (h : Sq p C0 w0 w V) (q : Nat) : Sq p C0 w0 (w.drewN q) V := ⟨h.st.drewN q, h.cl.drewN q, Aside.drewN h.on q⟩
theorem Sq.congr (h : Sq p C0 w0 w V) (he : ∀ k, k < p.m → V k = V' k) : Sq p C0 w0 w V' := ⟨h.st, h.cl.congr he, h.on⟩
theorem Sq.set (h : Sq p C0 w0 w V) (ok : SqOk p) {k : Nat} (hk : k < p.m) (x : Int) : Sq p C0 w0 (w.setCell ⟨p.gc, p.A k, none⟩ (.int .i64 x)) (upd V k x) :=
  ⟨h.st.block (g := p.gc) (fun j _ hne => Below.heap_setCell _ _ _ _ hne) ok.c1 ok.c2 ok.c3 ok.c4, h.cl.set ok hk x, Only.set h.on (p.A k) _⟩
/-- memory that is new changes nothing -/
theorem SqW.under {B : Nat} (h : SqW p w) (hb : Below B w w') (hB : w.heap.size ≤ B) : SqW p w' where
  sb := h.sb.block (hb.block _ (by have := h.sb.lt; omega))
  pb := h.pb.block (hb.block _ (by have := h.pb.lt; omega))
  at_ := fun k hk => (hb.cell (by have := lt_of_cell (h.at_ k hk); simp only at this ⊢; omega)).trans (h.at_ k hk)
  ow := fun k hk => (hb.cell (by have := lt_of_cell (h.ow k hk); simp only at this ⊢; omega)).trans (h.ow k hk)
theorem ClsV.under {B : Nat} (h : ClsV p C0 w V) (hb : Below B w w') (hB : w.heap.size ≤ B) : ClsV p C0 w' V := by
  obtain ⟨C, h1, h2, h3⟩ := h
  exact ⟨C, h1.below hb (by have := h1.lt; omega), h2, h3⟩
theorem Sq.under {B : Nat} (h : Sq p C0 w0 w V) (hb : Below B w w') (hB : w.heap.size ≤ B) : Sq p C0 w0 w' V := ⟨h.st.under hb hB, h.cl.under hb hB, Only.more h.on hb hB⟩
end
/-- the class of the k-th place, or that of the border -/
def gtV (p : SqP) (V : Nat → Int) (k : Int) : Int := if k < 0 then p.beg else if (p.m : Int) ≤ k then p.en else V k.toNat
/-- W ahead of k, V from there on -/
def prt (W V : Nat → Int) (k : Nat) : Nat → Int := fun j => if j < k then W j else V j
theorem prt_zero (W V : Nat → Int) (j : Nat) : prt W V 0 j = V j := by unfold prt; rw [if_neg (by omega)]
theorem prt_lt {W V : Nat → Int} {k j : Nat} (h : j < k) : prt W V k j = W j := by unfold prt; rw [if_pos h]
theorem prt_ge {W V : Nat → Int} {k j : Nat} (h : k ≤ j) : prt W V k j = V j := by unfold prt; rw [if_neg (by omega)]
theorem prt_set (W V : Nat → Int) (k : Nat) {x : Int} (hx : W k = x) (j : Nat) : upd (prt W V k) k x j = prt W V (k + 1) j := by
  unfold upd
  by_cases h : j = k
  · subst h; rw [if_pos rfl, prt_lt (by omega), hx]
  · rw [if_neg h]
    by_cases h2 : j < k
    · rw [prt_lt h2, prt_lt (by omega)]
    · rw [prt_ge (by omega), prt_ge (by omega)]
theorem prt_same {W V : Nat → Int} {k : Nat} (hx : W k = V k) (j : Nat) : prt W V k j = prt W V (k + 1) j := by
  by_cases h : j = k
  · subst h; rw [prt_ge (Nat.le_refl _), prt_lt (by omega), hx]
  · by_cases h2 : j < k
    · rw [prt_lt h2, prt_lt (by omega)]
    · rw [prt_ge (by omega), prt_ge (by omega)]
theorem gtV_in {p : SqP} {V : Nat → Int} {k : Nat} (h : k < p.m) : gtV p V k = V k := by unfold gtV; rw [if_neg (by omega), if_neg (by omega)]; rfl
theorem gtV_neg {p : SqP} {V : Nat → Int} : gtV p V (-1) = p.beg := by unfold gtV; rw [if_pos (by omega)]
theorem gtV_end {p : SqP} {V : Nat → Int} : gtV p V p.m = p.en := by unfold gtV; rw [if_neg (by omega), if_pos (by omega)]
end Go.Law.Bd
namespace Go.Law
open Go.RowKit
set_option linter.unusedVariables false
def RowV (w : World) (base : Nat) (e : TypeId) (s : Nat) (v : Value) (n : Nat) (V : Nat → Nat → Value) : Prop :=
  ∃ xs, w.ownsRow base e s v n xs ∧ ∀ i, i < n → ∀ j, j < s → xs[i * s + j]? = some (V i j)
section
variable {w w' : World} {base : Nat} {e : TypeId} {s : Nat} {v : Value} {n : Nat} {V V' : Nat → Nat → Value}
theorem RowV.nil (w : World) (base : Nat) (e : TypeId) (s : Nat) (V : Nat → Nat → Value) : RowV w base e s (.slice none 0 0) 0 V :=
  ⟨[], World.ownsRow_nil _ _ _ _, fun i hi => by omega⟩
theorem RowV.congr (h : RowV w base e s v n V) (he : ∀ i, i < n → ∀ j, j < s → V i j = V' i j) : RowV w base e s v n V' := by
  obtain ⟨xs, h1, h2⟩ := h
  exact ⟨xs, h1, fun i hi j hj => by rw [h2 i hi j hj, he i hi j hj]⟩
theorem RowV.own (h : RowV w base e s v n V) : ∃ xs, w.ownsRow base e s v n xs ∧ xs.length = n * s ∧ ∀ i, i < n → ∀ j, j < s → xs[i * s + j]? = some (V i j) := by
  obtain ⟨xs, h1, h2⟩ := h
  exact ⟨xs, h1, h1.1, h2⟩
theorem RowV.slice (h : RowV w base e s v n V) : ∃ a cap, v = .slice a n cap ∧ n ≤ cap ∧ cap ≤ maxLen := by
  obtain ⟨xs, h1, _⟩ := h
  exact RowL.slice h1
theorem RowV.at (h : RowV w base e s v n V) (hn : 0 < n) :
    ∃ g cap, v = .slice (some ⟨g, 0, none⟩) n cap ∧ base ≤ g ∧ g < w.heap.size ∧ n ≤ cap ∧ cap ≤ maxLen ∧ (∀ i, w.frozen? ⟨g, i, none⟩ = false) ∧ ∀ i, i < n → ∀ j, j < s → w.cell? ⟨g, i * s + j, none⟩ = some (V i j) := by
  obtain ⟨xs, h1, h2⟩ := h
  obtain ⟨g, cap, a1, a2, a3, a4, a5, a6, a7⟩ := RowL.at h1 hn
  exact ⟨g, cap, a1, a2, a3, a4, a5, a6, fun i hi j hj => a7 _ _ (h2 i hi j hj)⟩
theorem RowV.cells (h : RowV w base e s v n V) : ∃ a cap, v = .slice a n cap ∧ CellsF w a n s V := by
  obtain ⟨a, cap, rfl, _, _⟩ := h.slice
  refine ⟨a, cap, rfl, fun hn => ?_⟩
  obtain ⟨g, cap', hv, _, _, _, _, _, hc⟩ := h.at hn
  cases hv
  exact ⟨g, 0, rfl, fun i hi j hj => by rw [Nat.zero_add]; exact hc i hi j hj⟩
theorem RowV.block (h : RowV w base e s v n V) (hb : ∀ k, v.ownBlock = some k → w'.heap[k]? = w.heap[k]?) : RowV w' base e s v n V := by
  obtain ⟨xs, h1, h2⟩ := h
  exact ⟨xs, RowL.block h1 hb, h2⟩
theorem RowV.obj (h : RowV w base e s v n V) {k : Nat} (hk : v.ownBlock = some k) : ∃ cs, w.heap[k]? = some (.cells cs e (0, 0)) := by
  obtain ⟨_, ⟨_, ⟨rfl, _⟩ | ⟨g, cap, cur, rfl, _, hg, _⟩⟩, _⟩ := h
  · simp [Value.ownBlock] at hk
  · simp [Value.ownBlock] at hk
    subst hk
    exact ⟨cur, hg⟩
theorem RowV.lt (h : RowV w base e s v n V) {k : Nat} (hk : v.ownBlock = some k) : k < w.heap.size := by
  obtain ⟨c, hc⟩ := h.obj hk
  exact (Array.getElem?_eq_some_iff.1 hc).1
theorem RowV.ge (h : RowV w base e s v n V) : ∀ k, v.ownBlock = some k → base ≤ k := by
  obtain ⟨xs, h1, _⟩ := h
  exact RowL.ge h1
theorem RowV.mono {base' : Nat} (h : RowV w base e s v n V) (hb : base' ≤ base) : RowV w base' e s v n V := by
  obtain ⟨xs, h1, h2⟩ := h
  exact ⟨xs, RowL.mono h1 hb, h2⟩
theorem RowV.below {B : Nat} (h : RowV w base e s v n V) (hb : Below B w w') (hB : w.heap.size ≤ B) : RowV w' base e s v n V :=
  h.block fun k hk => hb.block k (by have := h.lt hk; omega)
theorem RowV.other (h : RowV w base e s v n V) {a : Addr} (ha : v.ownBlock ≠ some a.block) (u : Value) : RowV (w.setCell a u) base e s v n V :=
  h.block fun k hk => Below.heap_setCell _ _ _ _ (by rintro rfl; exact ha hk)
/-- the function V with u at i, j -/
def updV (V : Nat → Nat → Value) (i j : Nat) (u : Value) : Nat → Nat → Value := fun a b => if a = i ∧ b = j then u else V a b
theorem RowV.set {g cap : Nat} (h : RowV w base e s (.slice (some ⟨g, 0, none⟩) n cap) n V) (i j : Nat) (hi : i < n) (hj : j < s) (u : Value) :
    RowV (w.setCell ⟨g, i * s + j, none⟩ u) base e s (.slice (some ⟨g, 0, none⟩) n cap) n (updV V i j u) := by
  obtain ⟨xs, ⟨hl, h⟩, h2⟩ := h
  have hij : i * s + j < n * s := by
    have := Nat.mul_le_mul_right s (show i + 1 ≤ n by omega)
    rw [Nat.succ_mul] at this
    omega
  rcases h with ⟨hv, h0⟩ | ⟨g', cap', cur, hv, hg, hh, hnc, hcm, hcs, ht⟩
  · cases hv
  · cases hv
    refine ⟨xs.set (i * s + j) u, ⟨by simpa using hl, .inr ⟨g, cap, cur.setIfInBounds (i * s + j) u, rfl, hg, ?_, hnc, hcm, by simpa using hcs, ?_⟩⟩, fun a ha b hb => ?_⟩
    · simp only [World.setCell, Array.getElem?_modify, hh, Option.map_some]
      simp
    · rw [Array.toList_setIfInBounds, List.take_set, ht]
    · unfold updV
      by_cases hab : a = i ∧ b = j
      · obtain ⟨rfl, rfl⟩ := hab
        rw [if_pos ⟨rfl, rfl⟩, List.getElem?_set_self (by omega)]
      · rw [if_neg hab, List.getElem?_set_ne ?_]
        · exact h2 a ha b hb
        · intro he
          apply hab
          have h3 : (i * s + j) / s = (a * s + b) / s := by rw [he]
          have h4 : (i * s + j) % s = (a * s + b) % s := by rw [he]
          rw [Nat.mul_comm i s, Nat.mul_comm a s, Nat.mul_add_div (by omega), Nat.mul_add_div (by omega), Nat.div_eq_of_lt hj, Nat.div_eq_of_lt hb] at h3
          rw [Nat.mul_comm i s, Nat.mul_comm a s, Nat.mul_add_mod, Nat.mul_add_mod, Nat.mod_eq_of_lt hj, Nat.mod_eq_of_lt hb] at h4
          omega
theorem RowV.push {xs news : List Value} (h : w.ownsRow base e s v (n + 1) (xs ++ news)) (hl : xs.length = n * s)
    (hx : ∀ i, i < n → ∀ j, j < s → xs[i * s + j]? = some (V i j)) (hn : ∀ j, j < s → news[j]? = some (V' n j)) (hV : ∀ i, i < n → ∀ j, j < s → V i j = V' i j) : RowV w base e s v (n + 1) V' := by
  refine ⟨_, h, fun i hi j hj => ?_⟩
  by_cases h1 : i < n
  · have : i * s + j < n * s := by
      have := Nat.mul_le_mul_right s (show i + 1 ≤ n by omega)
      rw [Nat.succ_mul] at this
      omega
    rw [List.getElem?_append_left (by omega), hx i h1 j hj, hV i h1 j hj]
  · obtain rfl : i = n := by omega
    rw [List.getElem?_append_right (by omega), hl, show i * s + j - i * s = j by omega]
    exact hn j hj
end
/-- rows of different types share no block -/
theorem RowV.apart {w : World} {base base' : Nat} {e e' : TypeId} {s s' : Nat} {v v' : Value} {n n' : Nat} {V V' : Nat → Nat → Value} (h : RowV w base e s v n V) (h' : RowV w base' e' s' v' n' V') (hne : e ≠ e') {k : Nat} (hk : v.ownBlock = some k) : v'.ownBlock ≠ some k := by
  intro h2
  obtain ⟨c1, e1⟩ := h.obj hk
  obtain ⟨c2, e2⟩ := h'.obj h2
  rw [e1] at e2
  injection e2 with e3
  injection e3 with _ e4
  exact hne e4
theorem RowV.notblk {w : World} {base : Nat} {e e' : TypeId} {s : Nat} {v : Value} {n : Nat} {V : Nat → Nat → Value} (h : RowV w base e s v n V) {q : Nat} {cs : Array Value} (hq : Blk w q cs e') (hne : e ≠ e') : v.ownBlock ≠ some q := by
  intro h2
  obtain ⟨c1, e1⟩ := h.obj h2
  unfold Blk at hq
  rw [hq] at e1
  injection e1 with e3
  injection e3 with _ e4
  exact hne e4.symm
end Go.Law
namespace Go.Law.Bd
open Go Go.Law Go.RowKit
set_option linter.unusedVariables false
/-- the entry of the table that has a character -/
def bi (c : Int) : Nat := if c = 40 ∨ c = 41 then 0 else if c = 91 ∨ c = 93 then 1 else if c = 123 ∨ c = 125 then 2 else if c = 12300 ∨ c = 12301 then 3 else 4
theorem bi_open {j : Nat} (hj : j < 4) {c : Int} (h : c = ent bracketsT j 0) : bi c = j ∧ clOf c = ent bracketsT j 1 ∧ 0 ≤ clOf c ∧ c ≠ ent bracketsT j 1 := by
  subst h
  match j, hj with
  | 0, _ => decide
  | 1, _ => decide
  | 2, _ => decide
  | 3, _ => decide
theorem bi_close {j : Nat} (hj : j < 4) {c : Int} (h : c = ent bracketsT j 1) : bi c = j ∧ clOf c < 0 ∧ opOf c = ent bracketsT j 0 ∧ 0 ≤ opOf c ∧ c ≠ ent bracketsT j 0 := by
  subst h
  match j, hj with
  | 0, _ => decide
  | 1, _ => decide
  | 2, _ => decide
  | 3, _ => decide
theorem bi_no {j : Nat} (hj : j < 4) {c : Int} (h0 : c ≠ ent bracketsT j 0) (h1 : c ≠ ent bracketsT j 1) : bi c ≠ j := by
  unfold bi
  match j, hj with
  | 0, _ => rw [show ent bracketsT 0 0 = 40 by decide] at h0; rw [show ent bracketsT 0 1 = 41 by decide] at h1; split; omega; split; omega; split; omega; split <;> omega
  | 1, _ => rw [show ent bracketsT 1 0 = 91 by decide] at h0; rw [show ent bracketsT 1 1 = 93 by decide] at h1; split; omega; split; omega; split; omega; split <;> omega
  | 2, _ => rw [show ent bracketsT 2 0 = 123 by decide] at h0; rw [show ent bracketsT 2 1 = 125 by decide] at h1; split; omega; split; omega; split; omega; split <;> omega
  | 3, _ => rw [show ent bracketsT 3 0 = 12300 by decide] at h0; rw [show ent bracketsT 3 1 = 12301 by decide] at h1; split; omega; split; omega; split; omega; split <;> omega
theorem bi_none {c : Int} (h : bi c = 4) : clOf c < 0 ∧ opOf c < 0 := by
  unfold bi at h
  split at h; omega
  split at h; omega
  split at h; omega
  split at h; omega
  unfold clOf opOf
  constructor
  · rw [if_neg (by omega), if_neg (by omega), if_neg (by omega), if_neg (by omega)]; omega
  · rw [if_neg (by omega), if_neg (by omega), if_neg (by omega), if_neg (by omega)]; omega
theorem bi_le (c : Int) : bi c ≤ 4 := by unfold bi; split; omega; split; omega; split; omega; split <;> omega
/-- the closing bracket of a place tells its opening one -/
theorem cl_eq {j : Nat} (hj : j < 4) {x : Int} : clOf x = ent bracketsT j 1 ↔ x = ent bracketsT j 0 := by
  unfold clOf
  match j, hj with
  | 0, _ => rw [show ent bracketsT 0 0 = 40 by decide, show ent bracketsT 0 1 = 41 by decide]; split; omega; split; omega; split; omega; split <;> omega
  | 1, _ => rw [show ent bracketsT 1 0 = 91 by decide, show ent bracketsT 1 1 = 93 by decide]; split; omega; split; omega; split; omega; split <;> omega
  | 2, _ => rw [show ent bracketsT 2 0 = 123 by decide, show ent bracketsT 2 1 = 125 by decide]; split; omega; split; omega; split; omega; split <;> omega
  | 3, _ => rw [show ent bracketsT 3 0 = 12300 by decide, show ent bracketsT 3 1 = 12301 by decide]; split; omega; split; omega; split; omega; split <;> omega
section
variable {T C : Nat → Int} {i j : Nat} {s : Bkt}
theorem bk_no (h : C i ≠ 13) : bkStep T C i s = some s := by unfold bkStep; rw [if_neg h]
theorem bk_four (h : bi (T i) = 4) : bkStep T C i s = some s := by
  unfold bkStep
  have := bi_none h
  split
  · rw [if_neg (by omega), if_neg (by omega)]
  · rfl
theorem bk_steplen {s' : Bkt} (h : bkStep T C i s = some s') : s'.pr.length ≤ s.pr.length + 1 := by
  unfold bkStep at h
  split at h
  · split at h
    · split at h
      · cases h
      · cases h; simp
    · split at h
      · split at h
        · cases h; simp
        · cases h; simp
      · cases h; simp
  · cases h; simp
theorem bk_prlen : ∀ i s, bkAt T C i = some s → s.pr.length ≤ i := by
  intro i
  induction i with
  | zero => intro s h; simp [bkAt] at h; subst h; simp
  | succ i ih =>
    intro s h
    rw [bkAt] at h
    cases hb : bkAt T C i with
    | none => rw [hb] at h; cases h
    | some s0 =>
      rw [hb] at h
      have h1 := ih s0 hb
      have h2 := bk_steplen (T := T) (C := C) (i := i) (s := s0) (s' := s) h
      omega
theorem bk_open (hj : j < 4) (h : C i = 13) (ho : T i = ent bracketsT j 0) : bkStep T C i s = if s.op.length = 63 then none else some ⟨i :: s.op, s.pr⟩ := by
  unfold bkStep
  have := bi_open hj ho
  rw [if_pos h, if_pos this.2.2.1]
theorem bk_close (hj : j < 4) (h : C i = 13) (ho : T i = ent bracketsT j 1) : bkStep T C i s = match popTo T (ent bracketsT j 0) s.op with
      | some (k, r) => some ⟨r, s.pr ++ [(k, i)]⟩
      | none => some s := by
  unfold bkStep
  have := bi_close hj ho
  rw [if_pos h, if_neg (by omega), if_pos this.2.2.2.1, this.2.2.1]
  rfl
theorem popTo_skip {o : Int} {x : Nat} {t : List Nat} (h : T x ≠ o) : popTo T o (x :: t) = popTo T o t := by rw [popTo, if_neg h]
theorem popTo_app {o : Int} : ∀ {l1 l2 : List Nat}, (∀ x, x ∈ l1 → T x ≠ o) → popTo T o (l1 ++ l2) = popTo T o l2
  | [], _, _ => rfl
  | x :: t, l2, h => by rw [List.cons_append, popTo_skip (h x (by simp)), popTo_app fun y hy => h y (by simp [hy])]
theorem popTo_hit {o : Int} {x : Nat} {t : List Nat} (h : T x = o) : popTo T o (x :: t) = some (x, t) := by rw [popTo, if_pos h]
end
theorem getD_left {l1 l2 : List Nat} {i d : Nat} (h : i < l1.length) : (l1 ++ l2).getD i d = l1.getD i d := by
  rw [List.getD_eq_getElem?_getD, List.getElem?_append_left h, List.getD_eq_getElem?_getD]
/-- a cell of the row of open brackets -/
def opV (T : Nat → Int) (l : List Nat) (i j : Nat) : Value := if j = 0 then .int .i64 (clOf (T (l.reverse.getD i 0))) else .int .i64 (l.reverse.getD i 0 : Nat)
/-- a cell of a row of pairs -/
def prV (P : Nat → Nat × Nat) (i j : Nat) : Value := if j = 0 then .int .i64 (P i).1 else .int .i64 (P i).2
theorem opV_push (T : Nat → Int) (l : List Nat) (x : Nat) {i : Nat} (hi : i < l.length) (j : Nat) : opV T l i j = opV T (x :: l) i j := by
  unfold opV
  rw [List.reverse_cons, getD_left (by simpa using hi)]
theorem opV_last (T : Nat → Int) (l : List Nat) (x : Nat) (j : Nat) : opV T (x :: l) l.length j = if j = 0 then .int .i64 (clOf (T x)) else .int .i64 (x : Nat) := by
  unfold opV
  rw [List.reverse_cons, show (l.reverse ++ [x]).getD l.length 0 = x by rw [List.getD_eq_getElem?_getD, List.getElem?_append_right (by simp)]; simp]
theorem opV_pre (T : Nat → Int) (l1 l : List Nat) {i : Nat} (hi : i < l.length) (j : Nat) : opV T (l1 ++ l) i j = opV T l i j := by
  unfold opV
  rw [List.reverse_append, getD_left (by simpa using hi)]
theorem RowV.take {w : World} {base : Nat} {e : TypeId} {s : Nat} {a : Option Addr} {n cap k : Nat} {V : Nat → Nat → Value} (h : RowV w base e s (.slice a n cap) n V) (hk : k ≤ n) : RowV w base e s (.slice a k cap) k V := by
  obtain ⟨xs, ⟨hl, h⟩, h2⟩ := h
  have hm : k * s ≤ n * s := Nat.mul_le_mul_right s hk
  refine ⟨xs.take (k * s), ⟨by rw [List.length_take]; omega, ?_⟩, fun i hi j hj => ?_⟩
  · rcases h with ⟨hv, h0⟩ | ⟨g, cap', cur, hv, hg, hh, hnc, hcm, hcs, ht⟩
    · obtain rfl : k = 0 := by omega
      cases hv
      exact .inl ⟨rfl, rfl⟩
    · cases hv
      refine .inr ⟨g, cap, cur, rfl, hg, hh, by omega, hcm, hcs, ?_⟩
      rw [← ht, List.take_take, Nat.min_eq_left hm]
  · have : i * s + j < k * s := by
      have := Nat.mul_le_mul_right s (show i + 1 ≤ k by omega)
      rw [Nat.succ_mul] at this
      omega
    rw [List.getElem?_take_of_lt this]
    exact h2 i (by omega) j hj
/-- a table with its capacity -/
def TabC (w : World) (g k : Nat) (rows : List (List Int)) : Prop :=
  ∃ b off cap, w.cell? ⟨g, 0, none⟩ = some (.slice (some ⟨b, off, none⟩) rows.length cap) ∧ rows.length ≤ cap ∧ ∀ i j, i < rows.length → j < k → w.cell? ⟨b, off + i * k + j, none⟩ = some (.int .i64 (ent rows i j))
theorem TabC.below {W w : World} {B g k : Nat} {T : List (List Int)} (h : TabC W g k T) (hB : W.heap.size ≤ B) (hb : Below B W w) : TabC w g k T := by
  obtain ⟨b, off, cap, h1, h2, h3⟩ := h
  refine ⟨b, off, cap, ?_, h2, fun i j hi hj => ?_⟩
  · rw [hb.cell (by have := lt_of_cell h1; simp only at this ⊢; omega)]; exact h1
  · rw [hb.cell (by have := lt_of_cell (h3 i j hi hj); simp only at this ⊢; omega)]; exact h3 i j hi hj
theorem RowV.cellAt {w : World} {base : Nat} {e : TypeId} {s g n cap : Nat} {V : Nat → Nat → Value} (h : RowV w base e s (.slice (some ⟨g, 0, none⟩) n cap) n V) {i j : Nat} (hi : i < n) (hj : j < s) : w.cell? ⟨g, i * s + j, none⟩ = some (V i j) := by
  obtain ⟨g', cap', hv, _, _, _, _, _, hc⟩ := h.at (by omega)
  cases hv
  exact hc i hi j hj
theorem RowV.frozenAt {w : World} {base : Nat} {e : TypeId} {s g n cap : Nat} {V : Nat → Nat → Value} (h : RowV w base e s (.slice (some ⟨g, 0, none⟩) n cap) n V) (hn : 0 < n) (i : Nat) : w.frozen? ⟨g, i, none⟩ = false := by
  obtain ⟨g', cap', hv, _, _, _, _, hf, _⟩ := h.at hn
  cases hv
  exact hf i
/-- a pair is written -/
theorem RowV.setP {w : World} {base : Nat} {e : TypeId} {g n cap : Nat} {A B : Nat → Nat × Nat} (h : RowV w base e 2 (.slice (some ⟨g, 0, none⟩) n cap) n (prV A)) (i : Nat) (hi : i < n) (x : Nat × Nat)
    (hB : ∀ k, k < n → B k = if k = i then x else A k) :
    RowV ((w.setCell ⟨g, i * 2, none⟩ (.int .i64 x.1)).setCell ⟨g, i * 2 + 1, none⟩ (.int .i64 x.2)) base e 2 (.slice (some ⟨g, 0, none⟩) n cap) n (prV B) := by
  have h1 := h.set i 0 hi (by omega) (.int .i64 x.1)
  rw [Nat.add_zero] at h1
  have h2 := h1.set i 1 hi (by omega) (.int .i64 x.2)
  refine h2.congr fun k hk j hj => ?_
  unfold updV prV
  rw [hB k hk]
  by_cases hki : k = i
  · subst hki
    rw [if_pos rfl]
    match j, hj with
    | 0, _ => rw [if_neg (by omega), if_pos ⟨rfl, rfl⟩, if_pos rfl]
    | 1, _ => rw [if_pos ⟨rfl, rfl⟩, if_neg (by omega)]
  · rw [if_neg (fun q => hki q.1), if_neg (fun q => hki q.1), if_neg hki]
/-- neighbours exchanged -/
def swG {α : Type} (A : Nat → α) (j : Nat) : Nat → α := fun k => if k = j then A (j - 1) else if k = j - 1 then A j else A k
theorem swG_perm {α : Type} {c j : Nat} {A : Nat → α} (hj : 0 < j) (hjc : j < c) : ((List.range c).map (swG A j)).Perm ((List.range c).map A) := by
  have hs : ((List.range c).map A).toArray.size = c := by simp
  have h := Array.swap_perm (xs := ((List.range c).map A).toArray) (i := j) (j := j - 1) (by rw [hs]; omega) (by rw [hs]; omega)
  have h2 := Array.perm_iff_toList_perm.1 h
  have e : (((List.range c).map A).toArray.swap j (j - 1) (by rw [hs]; omega) (by rw [hs]; omega)).toList = (List.range c).map (swG A j) := by
    apply List.ext_getElem
    · simp
    · intro k h3 h4
      simp at h4
      rw [Array.getElem_toList, Array.getElem_swap]
      simp only [List.getElem_toArray, List.getElem_map, List.getElem_range]
      unfold swG
      by_cases e1 : k = j
      · subst e1; rw [if_pos rfl]
      · by_cases e2 : k = j - 1
        · subst e2; rw [if_neg e1, if_pos rfl]
        · rw [if_neg e1, if_neg e2]
  rw [e] at h2
  exact h2
/-- while the i-th wanders down and stands at j -/
structure InsG (A : Nat → Nat × Nat) (i j : Nat) : Prop where
  ord : ∀ a b, a < b → b ≤ i → a ≠ j → b ≠ j → (A a).1 < (A b).1
  up : ∀ b, j < b → b ≤ i → (A j).1 < (A b).1
section
variable {A : Nat → Nat × Nat} {i j : Nat}
theorem insG_start (h : ∀ a b, a < b → b < i → (A a).1 < (A b).1) : InsG A i i :=
  ⟨fun a b h1 h2 h3 h4 => h a b h1 (by omega), fun b h1 h2 => by omega⟩
theorem insG_swap (h : InsG A i j) (hj : 0 < j) (hji : j ≤ i) (hlt : (A j).1 < (A (j - 1)).1) : InsG (swG A j) i (j - 1) := by
  have e1 : swG A j j = A (j - 1) := by unfold swG; rw [if_pos rfl]
  have e2 : swG A j (j - 1) = A j := by unfold swG; rw [if_neg (by omega), if_pos rfl]
  have e3 : ∀ a, a ≠ j → a ≠ j - 1 → swG A j a = A a := fun a h1 h2 => by unfold swG; rw [if_neg h1, if_neg h2]
  refine ⟨fun a b h1 h2 h3 h4 => ?_, fun b h1 h2 => ?_⟩
  · by_cases ha : a = j
    · subst ha
      rw [e1, e3 b (by omega) (by omega)]
      exact h.ord (a - 1) b (by omega) h2 (by omega) (by omega)
    · by_cases hb : b = j
      · subst hb
        rw [e1, e3 a ha h3]
        exact h.ord a (b - 1) (by omega) (by omega) ha (by omega)
      · rw [e3 a ha h3, e3 b hb h4]
        exact h.ord a b h1 h2 ha hb
  · rw [e2]
    by_cases hb : b = j
    · subst hb; rw [e1]; exact hlt
    · rw [e3 b hb (by omega)]; exact h.up b (by omega) h2
theorem insG_end (h : InsG A i j) (hji : j ≤ i) (hstop : j = 0 ∨ (A (j - 1)).1 < (A j).1) : ∀ a b, a < b → b < i + 1 → (A a).1 < (A b).1 := by
  intro a b h1 h2
  by_cases ha : a = j
  · subst ha; exact h.up b h1 (by omega)
  · by_cases hb : b = j
    · subst hb
      have hs := hstop.resolve_left (by omega)
      by_cases ha2 : a = b - 1
      · subst ha2; exact hs
      · exact Nat.lt_trans (h.ord a (b - 1) (by omega) (by omega) ha (by omega)) hs
    · exact h.ord a b h1 (by omega) ha hb
end
/-- distinct keys stay distinct in another order -/
theorem key_ne {c : Nat} {A : Nat → Nat × Nat} {P : List (Nat × Nat)} (hp : ((List.range c).map A).Perm P) (hn : (P.map (·.1)).Nodup) : ∀ a b, a < b → b < c → (A a).1 ≠ (A b).1 := by
  have h1 := ((hp.map (·.1)).nodup_iff).2 hn
  rw [List.map_map, List.nodup_iff_pairwise_ne, List.pairwise_map] at h1
  intro a b hab hb
  have := List.pairwise_iff_getElem.1 h1 a b (by simp; omega) (by simp; omega) hab
  simpa using this
/-- the pairs in order are those of their places -/
theorem ord_done {c m : Nat} {A : Nat → Nat × Nat} {P : List (Nat × Nat)} (hp : ((List.range c).map A).Perm P) (hn : (P.map (·.1)).Nodup) (ho : ∀ a b, a < b → b < c → (A a).1 < (A b).1) (hm : ∀ x, x ∈ P → x.1 < m) :
    (List.range c).map A = ordB P m := by
  refine ord_eq hn hp ?_ hm
  rw [List.pairwise_map]
  refine List.Pairwise.imp_of_mem ?_ (List.pairwise_lt_range (n := c))
  intro a b ha hb hlt
  exact ho a b hlt (by simpa using hb)
theorem range_getD (P : List (Nat × Nat)) : (List.range P.length).map (fun i => P.getD i (0, 0)) = P := by
  apply List.ext_getElem
  · simp
  · intro i h1 h2; simp [h2]
def clsB (c : Int) : Int := lookR c tableT
theorem lookR_in (c : Int) : ∀ S : List (List Int), lookR c S = 0 ∨ ∃ r, r ∈ S ∧ lookR c S = r.getD 2 0 ∧ r.getD 0 0 ≤ c ∧ c ≤ r.getD 1 0
  | [] => .inl rfl
  | r :: t => by
    rw [lookR]
    by_cases h : c < r.getD 0 0 ∨ r.getD 1 0 < c
    · rw [if_pos h]
      rcases lookR_in c t with h1 | ⟨q, h1, h2⟩
      · exact .inl h1
      · exact .inr ⟨q, by simp [h1], h2⟩
    · rw [if_neg h]
      exact .inr ⟨r, by simp, rfl, by omega, by omega⟩
theorem clsB_range (c : Int) : 0 ≤ clsB c ∧ clsB c ≤ 22 := by
  have hall : ∀ r ∈ tableT, 0 ≤ r.getD 2 0 ∧ r.getD 2 0 ≤ 22 := by decide
  rcases lookR_in c tableT with h | ⟨r, h1, h2, _⟩
  · unfold clsB; omega
  · have := hall r h1; unfold clsB; omega
theorem clsB_ten {c : Int} : clsB c = 10 ↔ c = 10 := by
  constructor
  · intro h
    have hall : ∀ r ∈ tableT, r.getD 2 0 = 10 → r.getD 0 0 = 10 ∧ r.getD 1 0 = 10 := by decide
    rcases lookR_in c tableT with h1 | ⟨r, h1, h2, h3, h4⟩
    · unfold clsB at h; omega
    · have := hall r h1 (by unfold clsB at h; omega); omega
  · rintro rfl; decide
theorem tableC_len : tableT.length = 65 := rfl
/-- the error of a place of a text -/
def erT (T : Nat → Int) (i : Nat) : Int := if T i < 0 ∨ 1114111 < T i then 2 else if 0 < i ∧ T (i - 1) = 10 then 4 else 0
/-- the error of a text -/
def textE (T : Nat → Int) (n : Nat) : Int := firstE (erT T) n
theorem textE_zero {T : Nat → Int} {n : Nat} (h : textE T n = 0) : ∀ i, i < n → (0 ≤ T i ∧ T i ≤ 1114111) ∧ (T i = 10 → i + 1 = n) := by
  intro i hi
  have h1 := firstE_zero h i hi
  unfold erT at h1
  split at h1
  · omega
  · split at h1
    · omega
    · refine ⟨by omega, fun h10 => ?_⟩
      rcases Nat.lt_or_ge (i + 1) n with h2 | h2
      · have h3 := firstE_zero h (i + 1) h2
        unfold erT at h3
        split at h3
        · omega
        · rw [if_pos ⟨by omega, by simpa using h10⟩] at h3
          omega
      · omega
/-- the level of a paragraph -/
def baseB (T : Nat → Int) (n : Nat) (dir : Int) : Int := if dir = -1 then fst (fun i => clsB (T i)) n false 0 0 else dir
theorem fst_range (K : Nat → Int) (n : Nat) (inner : Bool) : ∀ k i d, n - i = k → (fst K n inner i d = 0 ∨ fst K n inner i d = 1) := by
  intro k
  induction k with
  | zero => intro i d h; rw [fst_end (by omega)]; exact .inl rfl
  | succ k ih =>
    intro i d h
    rw [fst_step (by omega)]
    split
    · exact ih _ _ (by omega)
    · split
      · split
        · exact .inl rfl
        · exact ih _ _ (by omega)
      · split
        · exact ih _ _ (by omega)
        · split
          · exact .inl rfl
          · split
            · exact .inr rfl
            · split
              · exact .inl rfl
              · exact ih _ _ (by omega)
/-- the table's cells -/
theorem TabC.of_tab {w : World} {g k : Nat} {T : List (List Int)} (h : TabC w g k T) : ∃ b off cap, w.cell? ⟨g, 0, none⟩ = some (.slice (some ⟨b, off, none⟩) T.length cap) ∧ ∀ i j, i < T.length → j < k → w.cell? ⟨b, off + i * k + j, none⟩ = some (.int .i64 (ent T i j)) := by
  obtain ⟨b, off, cap, h1, _, h3⟩ := h
  exact ⟨b, off, cap, h1, h3⟩
end Go.Law.Bd
namespace Go.Law
open Go.RowKit
set_option linter.unusedVariables false
/-- all blocks that were there are as they were, but those of P -/
structure Save (P : Nat → Prop) (w w' : World) : Prop where
  os : w'.os = w.os
  tape : w'.tape = w.tape
  output : w'.output = w.output
  size : w.heap.size ≤ w'.heap.size
  block : ∀ k, k < w.heap.size → ¬ P k → w'.heap[k]? = w.heap[k]?
section
variable {P : Nat → Prop} {a w w' : World}
theorem Save.refl (P : Nat → Prop) (w : World) : Save P w w := ⟨rfl, rfl, rfl, Nat.le_refl _, fun _ _ _ => rfl⟩
theorem Save.trans {b c : World} (h : Save P a b) (k : Save P b c) : Save P a c :=
  ⟨k.os.trans h.os, k.tape.trans h.tape, k.output.trans h.output, Nat.le_trans h.size k.size, fun i hi h1 => (k.block i (Nat.lt_of_lt_of_le hi h.size) h1).trans (h.block i hi h1)⟩
theorem Save.drew (h : Save P a w) : Save P a w.drew := ⟨h.os, h.tape, h.output, h.size, h.block⟩
theorem Save.drewN (h : Save P a w) (q : Nat) : Save P a (w.drewN q) := ⟨h.os, h.tape, h.output, h.size, h.block⟩
theorem Save.alloc (h : Save P a w) (o : Obj) : Save P a (w.alloc o) := h.trans ⟨rfl, rfl, rfl, by simp, fun k hk _ => Below.heap_alloc _ _ _ hk⟩
theorem Save.set (h : Save P a w) {p : Addr} (hp : P p.block ∨ a.heap.size ≤ p.block) (u : Value) : Save P a (w.setCell p u) :=
  ⟨h.os, h.tape, h.output, by have := h.size; simpa [World.setCell] using this, fun k hk h1 => (Below.heap_setCell _ _ _ _ (by
    intro e
    subst e
    rcases hp with h2 | h2
    · exact h1 h2
    · omega)).trans (h.block k hk h1)⟩
theorem Save.grown {row : Option Nat} (h : Save P a w) (hg : w.grownBy w' row) (hr : ∀ k, row = some k → a.heap.size ≤ k) : Save P a w' :=
  ⟨hg.os.trans h.os, hg.tape.trans h.tape, hg.output.trans h.output, Nat.le_trans h.size hg.size, fun k hk h1 => (hg.block k (Nat.lt_of_lt_of_le hk h.size) (fun e => by have := hr k e.symm; omega)).trans (h.block k hk h1)⟩
theorem Save.below {B : Nat} (h : Save P w w') (hB : B ≤ w.heap.size) (hP : ∀ k, P k → B ≤ k) : Below B w w' :=
  ⟨h.os, h.tape, h.output, h.size, fun k hk => h.block k (by omega) (fun e => by have := hP k e; omega)⟩
theorem Save.of_below {B : Nat} (h : Below B w w') (hB : w.heap.size ≤ B) : Save P w w' := ⟨h.os, h.tape, h.output, h.size, fun k hk _ => h.block k (by omega)⟩
theorem Save.of_only {g : Nat} (h : Only g w w') (hg : P g) : Save P w w' := ⟨h.os, h.tape, h.output, h.size, fun k hk h1 => Aside.block h k hk (fun e => h1 (by rw [e]; exact hg)) (by simp [Value.ownBlock])⟩
theorem Save.mono {Q : Nat → Prop} (h : Save P w w') (hq : ∀ k, P k → Q k) : Save Q w w' := ⟨h.os, h.tape, h.output, h.size, fun k hk h1 => h.block k hk (fun e => h1 (hq k e))⟩
end
end Go.Law
namespace Go.Law.Bd
open Go Go.Law Go.RowKit
set_option linter.unusedVariables false
/-- the blocks of a paragraph -/
structure PaP where
  pz : Nat
  gc : Nat
  gl : Nat
  go : Nat
  n : Nat
  base : Int
  tv : Value
  mv : Value
structure PaOk (p : PaP) : Prop where
  n2 : p.n ≤ 200
  cl : p.gc ≠ p.gl
  co : p.gc ≠ p.go
  lo : p.gl ≠ p.go
  pc : p.pz ≠ p.gc
  pl : p.pz ≠ p.gl
  po : p.pz ≠ p.go
def PaP.own (p : PaP) (k : Nat) : Prop := k = p.gc ∨ k = p.gl ∨ k = p.go
structure Pa (p : PaP) (C L : Nat → Int) (O : Nat → Bool) (w : World) : Prop where
  par : Blk w p.pz #[p.tv, .slice (some ⟨p.gc, 0, none⟩) p.n p.n, .slice (some ⟨p.gl, 0, none⟩) p.n p.n, .int .i64 p.base, .slice (some ⟨p.go, 0, none⟩) p.n p.n, p.mv] 39
  cls : OwnF w 3 p.gc p.n C
  lev : OwnF w 3 p.gl p.n L
  out : OwnB w 4 p.go p.n O
section
variable {p : PaP} {C C' L L' : Nat → Int} {O O' : Nat → Bool} {w w' : World}
theorem Pa.congr (h : Pa p C L O w) (hC : ∀ i, i < p.n → C i = C' i) (hL : ∀ i, i < p.n → L i = L' i) (hO : ∀ i, i < p.n → O i = O' i) : Pa p C' L' O' w :=
  ⟨h.par, h.cls.congr hC, h.lev.congr hL, h.out.congr hO⟩
theorem Pa.keep (h : Pa p C L O w) (hb : ∀ k, (k = p.pz ∨ k = p.gc ∨ k = p.gl ∨ k = p.go) → w'.heap[k]? = w.heap[k]?) : Pa p C L O w' :=
  ⟨h.par.block (hb _ (.inl rfl)), h.cls.block (hb _ (.inr (.inl rfl))), h.lev.block (hb _ (.inr (.inr (.inl rfl)))), h.out.block (hb _ (.inr (.inr (.inr rfl))))⟩
theorem Pa.lt (h : Pa p C L O w) : ∀ k, (k = p.pz ∨ k = p.gc ∨ k = p.gl ∨ k = p.go) → k < w.heap.size := by
  rintro k (rfl | rfl | rfl | rfl)
  · exact h.par.lt
  · exact h.cls.lt
  · exact h.lev.lt
  · exact h.out.lt
theorem Pa.drewN (h : Pa p C L O w) (q : Nat) : Pa p C L O (w.drewN q) := h.keep fun _ _ => rfl
theorem Pa.drew (h : Pa p C L O w) : Pa p C L O w.drew := h.keep fun _ _ => rfl
theorem Pa.under {B : Nat} (h : Pa p C L O w) (hb : Below B w w') (hB : w.heap.size ≤ B) : Pa p C L O w' := h.keep fun k hk => hb.block k (by have := h.lt k hk; omega)
theorem Pa.alloc (h : Pa p C L O w) (o : Obj) : Pa p C L O (w.alloc o) := h.under ((Below.refl _ _).alloc (Nat.le_refl _) _) (Nat.le_refl _)
/-- blocks that came later change -/
theorem Pa.grown {row : Option Nat} (h : Pa p C L O w) (hg : w.grownBy w' row) (hr : ∀ k, row = some k → k ≠ p.pz ∧ k ≠ p.gc ∧ k ≠ p.gl ∧ k ≠ p.go) : Pa p C L O w' :=
  h.keep fun k hk => hg.block k (h.lt k hk) (fun e => by have := hr k e.symm; omega)
theorem Pa.other (h : Pa p C L O w) {a : Addr} (ha : a.block ≠ p.pz ∧ a.block ≠ p.gc ∧ a.block ≠ p.gl ∧ a.block ≠ p.go) (u : Value) : Pa p C L O (w.setCell a u) :=
  h.keep fun k hk => Below.heap_setCell _ _ _ _ (fun e => by omega)
theorem Pa.setC (ok : PaOk p) (h : Pa p C L O w) (i : Nat) (x : Int) : Pa p (upd C i x) L O (w.setCell ⟨p.gc, i, none⟩ (.int .i64 x)) :=
  ⟨h.par.other ok.pc _, h.cls.set i x, h.lev.other (fun e => ok.cl e.symm) _, h.out.other (fun e => ok.co e.symm) _⟩
theorem Pa.setL (ok : PaOk p) (h : Pa p C L O w) (i : Nat) (x : Int) : Pa p C (upd L i x) O (w.setCell ⟨p.gl, i, none⟩ (.int .i64 x)) :=
  ⟨h.par.other ok.pl _, h.cls.other ok.cl _, h.lev.set i x, h.out.other (fun e => ok.lo e.symm) _⟩
theorem Pa.setO (ok : PaOk p) (h : Pa p C L O w) (i : Nat) (x : Bool) : Pa p C L (fun j => if j = i then x else O j) (w.setCell ⟨p.go, i, none⟩ (.bool x)) :=
  ⟨h.par.other ok.po _, h.cls.other ok.co _, h.lev.other ok.lo _, h.out.set i x⟩
end
/-- the same for Bools -/
def prtB (W V : Nat → Bool) (k : Nat) : Nat → Bool := fun j => if j < k then W j else V j
theorem prtB_zero (W V : Nat → Bool) (j : Nat) : prtB W V 0 j = V j := by unfold prtB; rw [if_neg (by omega)]
theorem prtB_lt {W V : Nat → Bool} {k j : Nat} (h : j < k) : prtB W V k j = W j := by unfold prtB; rw [if_pos h]
theorem prtB_ge {W V : Nat → Bool} {k j : Nat} (h : k ≤ j) : prtB W V k j = V j := by unfold prtB; rw [if_neg (by omega)]
theorem prtB_set (W V : Nat → Bool) (k : Nat) {x : Bool} (hx : W k = x) (j : Nat) : (if j = k then x else prtB W V k j) = prtB W V (k + 1) j := by
  by_cases h : j = k
  · subst h; rw [if_pos rfl, prtB_lt (by omega), hx]
  · rw [if_neg h]
    by_cases h2 : j < k
    · rw [prtB_lt h2, prtB_lt (by omega)]
    · rw [prtB_ge (by omega), prtB_ge (by omega)]
theorem prtB_same {W V : Nat → Bool} {k : Nat} (hx : W k = V k) (j : Nat) : prtB W V k j = prtB W V (k + 1) j := by
  by_cases h : j = k
  · subst h; rw [prtB_ge (Nat.le_refl _), prtB_lt (by omega), hx]
  · by_cases h2 : j < k
    · rw [prtB_lt h2, prtB_lt (by omega)]
    · rw [prtB_ge (by omega), prtB_ge (by omega)]
/-- a value that is written over another one just written -/
theorem upd_upd (f : Nat → Int) (i : Nat) (x y : Int) (j : Nat) : upd (upd f i x) i y j = upd f i y j := by
  unfold upd; by_cases h : j = i
  · rw [if_pos h, if_pos h]
  · rw [if_neg h, if_neg h, if_neg h]
/-- what lies ahead of a place does not matter -/
theorem fst_congr {K K' : Nat → Int} {n : Nat} {inner : Bool} : ∀ k i d, n - i = k → (∀ j, i ≤ j → j < n → K j = K' j) → fst K n inner i d = fst K' n inner i d := by
  intro k
  induction k with
  | zero => intro i d h _; rw [fst_end (by omega), fst_end (by omega)]
  | succ k ih =>
    intro i d h he
    rw [fst_step (K := K) (by omega), fst_step (K := K') (by omega), he i (Nat.le_refl _) (by omega), ih (i + 1) (d + 1) (by omega) (fun j h1 h2 => he j (by omega) h2), ih (i + 1) (d - 1) (by omega) (fun j h1 h2 => he j (by omega) h2), ih (i + 1) d (by omega) (fun j h1 h2 => he j (by omega) h2)]
/-- a cell of the stack of embeddings -/
def stV (b : Ent) (S : List Ent) (i j : Nat) : Value := if j = 0 then .int .i64 (S.reverse.getD i b).lev else if j = 1 then .int .i64 (S.reverse.getD i b).ovr else .bool (S.reverse.getD i b).iso
theorem ent_left {b : Ent} {l1 l2 : List Ent} {i : Nat} (h : i < l1.length) : (l1 ++ l2).getD i b = l1.getD i b := by
  rw [List.getD_eq_getElem?_getD, List.getElem?_append_left h, List.getD_eq_getElem?_getD]
theorem stV_push (b : Ent) (S : List Ent) (x : Ent) {i : Nat} (hi : i < S.length) (j : Nat) : stV b S i j = stV b (x :: S) i j := by
  unfold stV
  rw [List.reverse_cons, ent_left (by simpa using hi)]
theorem stV_pre (b : Ent) (l1 S : List Ent) {i : Nat} (hi : i < S.length) (j : Nat) : stV b (l1 ++ S) i j = stV b S i j := by
  unfold stV
  rw [List.reverse_append, ent_left (by simpa using hi)]
theorem stV_last (b : Ent) (S : List Ent) (x : Ent) : (x :: S).reverse.getD S.length b = x := by
  rw [List.reverse_cons, List.getD_eq_getElem?_getD, List.getElem?_append_right (by simp)]; simp
end Go.Law.Bd
namespace Go.Proofs.YtojbicdmcodgdaaDoor.BD
open Go.RowKit Go.Law Go.Law.Bd
set_option linter.unusedVariables false
set_option linter.unusedSimpArgs false
set_option maxRecDepth 100000
theorem isolate_any (k : Int) (w : World) : Calls Tryd.prog 32 #[.int .i64 k] w fun e w' => e = .returned (.bool (isoB k)) ∧ w = w' := by
  go_enter Tryd.func32, Tryd.ntmps32
  go_wp2
  all_goals
    go_ret
    refine ⟨congrArg (fun b => Ending.returned (.bool b)) ?_, rfl⟩
    first | decide | (rw [Bool.eq_iff_iff]; simp [isoB]; omega)
theorem isolate_is {k : Int} {b : Bool} (h : isoB k = b) (w : World) : Calls Tryd.prog 32 #[.int .i64 k] w fun e w' => e = .returned (.bool b) ∧ w = w' := by
  rw [← h]; exact isolate_any k w
theorem side_any (k : Int) (hk : 0 ≤ k) (w : World) : Calls Tryd.prog 40 #[.int .i64 k] w fun e w' => e = .returned (.int .i64 (sideB k)) ∧ w = w' := by
  have ht : k.tmod 2 = k % 2 := Int.tmod_eq_emod_of_nonneg hk
  have h0 : k % 2 = 0 ∨ k % 2 = 1 := by omega
  go_enter Tryd.func40, Tryd.ntmps40
  rcases h0 with h0 | h0
  · have h1 : (k % 2 == 1) = false := by rw [h0]; rfl
    have HS := Lib.hid (show sideB k = 0 by unfold sideB; rw [if_neg (by omega)])
    clear ht h0
    go_wp2
    go_ret
    exact ⟨by rw [HS.out]; rfl, rfl⟩
  · have h1 : (k % 2 == 1) = true := by rw [h0]; rfl
    have HS := Lib.hid (show sideB k = 1 by unfold sideB; rw [if_pos (by omega)])
    clear ht h0
    go_wp2
    go_ret
    exact ⟨by rw [HS.out]; rfl, rfl⟩
theorem letter_any (k : Int) (w : World) : Calls Tryd.prog 42 #[.int .i64 k] w fun e w' => e = .returned (.int .i64 (ctB k)) ∧ w = w' := by
  go_enter Tryd.func42, Tryd.ntmps42
  go_wp2
  all_goals
    go_ret
    refine ⟨?_, rfl⟩
    unfold ctB
    simp at *
    try simp [*]
theorem neutral_any (k : Int) (w : World) : Calls Tryd.prog 43 #[.int .i64 k] w fun e w' => e = .returned (.bool (neuB k)) ∧ w = w' := by
  by_cases h : 19 ≤ k ∧ k ≤ 21
  · have hi : isoB k = true := by simpa [isoB] using h
    have h1 : (k == 10) = false := by simp; omega
    have h2 : (k == 11) = false := by simp; omega
    have h3 : (k == 12) = false := by simp; omega
    have h4 : (k == 13) = false := by simp; omega
    go_enter Tryd.func43, Tryd.ntmps43
    go_wp2_with (go_at_call 32; refine (isolate_any _ _).mono ?_; rw [hi]; rintro e w2 ⟨rfl, rfl⟩)
    all_goals
      go_ret
      refine ⟨congrArg (fun b => Ending.returned (.bool b)) ?_, rfl⟩
      first | decide | (rw [Bool.eq_iff_iff]; simp [neuB]; omega)
  · have hi : isoB k = false := by simp [isoB]; omega
    go_enter Tryd.func43, Tryd.ntmps43
    go_wp2_with (go_at_call 32; refine (isolate_any _ _).mono ?_; rw [hi]; rintro e w2 ⟨rfl, rfl⟩)
    all_goals
      go_ret
      refine ⟨congrArg (fun b => Ending.returned (.bool b)) ?_, rfl⟩
      first | decide | (rw [Bool.eq_iff_iff]; simp [neuB]; omega)
theorem up_any (lev : Int) (odd : Bool) (w : World) (hl : 0 ≤ lev ∧ lev ≤ 125) : Calls Tryd.prog 33 #[.int .i64 lev, .int .i64 (if odd then 1 else 0)] w fun e w' => e = .returned (.int .i64 (upB lev odd)) ∧ w = w' := by
  have ht : (lev + 1).tmod 2 = (lev + 1) % 2 := Int.tmod_eq_emod_of_nonneg (by omega)
  obtain ⟨o, ho⟩ : ∃ o : Int, o = if odd then 1 else 0 := ⟨_, rfl⟩
  have HU := Lib.hid (show upB lev odd = if (lev + 1) % 2 = o then lev + 1 else lev + 2 by rw [ho]; rfl)
  rw [← ho]
  clear ho
  go_enter Tryd.func33, Tryd.ntmps33
  by_cases h : (lev + 1) % 2 = o
  · have h0 : 0 ≤ lev + 1 := by omega
    have h1 : ((lev + 1) % 2 != o) = false := by rw [h]; simp
    have HS := Lib.hid (HU.out.trans (if_pos h))
    clear ht h
    go_wp2
    go_ret
    exact ⟨by rw [HS.out]; rfl, rfl⟩
  · have h0 : 0 ≤ lev + 1 := by omega
    have h1 : ((lev + 1) % 2 != o) = true := by simpa using h
    have HS := Lib.hid (HU.out.trans (if_neg h))
    clear ht h
    go_wp2
    go_ret
    exact ⟨by rw [HS.out, show lev + 1 + 1 = lev + 2 by omega]; rfl, rfl⟩
section
variable {p : SqP} {C0 V : Nat → Int} {w0 w : World}
theorem get_any (ok : SqOk p) (h : Sq p C0 w0 w V) (k : Int) (hk : -1 ≤ k ∧ k ≤ p.m) (r : Nat) :
    Calls Tryd.prog 36 #[.pointer (some ⟨p.sz, 0, none⟩), .int .i64 k] (w.drewN r) fun e w' => e = .returned (.int .i64 (gtV p V k)) ∧ ∃ q, w' = w.drewN q := by
  have H := Lib.hid h
  have s0 : w.cell? ⟨p.sz, 0, none⟩ = _ := h.st.sb.cell (i := 0) rfl
  have s1 : w.cell? ⟨p.sz, 1, none⟩ = _ := h.st.sb.cell (i := 1) rfl
  have s4 : w.cell? ⟨p.sz, 4, none⟩ = _ := h.st.sb.cell (i := 4) rfl
  have s5 : w.cell? ⟨p.sz, 5, none⟩ = _ := h.st.sb.cell (i := 5) rfl
  have p1 : w.cell? ⟨p.pz, 1, none⟩ = _ := h.st.pb.cell (i := 1) rfl
  have OK := Lib.hid ok
  clear h ok
  by_cases h1 : k < 0
  · have HG := Lib.hid (show gtV p V k = p.beg by unfold gtV; rw [if_pos h1])
    go_enter Tryd.func36, Tryd.ntmps36
    go_wp2
    go_ret
    exact ⟨by rw [HG.out]; rfl, r, rfl⟩
  · by_cases h2 : (p.m : Int) ≤ k
    · have HG := Lib.hid (show gtV p V k = p.en by unfold gtV; rw [if_neg h1, if_pos h2])
      go_enter Tryd.func36, Tryd.ntmps36
      go_wp2
      go_ret
      exact ⟨by rw [HG.out]; rfl, r, rfl⟩
    · obtain ⟨j, rfl⟩ : ∃ j : Nat, k = j := ⟨k.toNat, by omega⟩
      have hj : j < p.m := by omega
      have HG := Lib.hid (show gtV p V j = V j by unfold gtV; rw [if_neg h1, if_neg h2]; rfl)
      have a1 := H.out.st.at_ j hj
      have a2 := H.out.cl.cell OK.out hj
      have hA := OK.out.lt j hj
      have hA2 : ((p.A j : Nat) : Int) < (p.n : Int) := by omega
      go_enter Tryd.func36, Tryd.ntmps36
      go_wp2
      go_quiet (fail)
      go_wp2
      go_ret
      exact ⟨by rw [HG.out]; rfl, _, World.drewN_drewN _ _ _⟩
theorem set_any (ok : SqOk p) (h : Sq p C0 w0 w V) (k : Nat) (hk : k < p.m) (x : Int) :
    Calls Tryd.prog 37 #[.pointer (some ⟨p.sz, 0, none⟩), .int .i64 k, .int .i64 x] w fun e w' => e = .returned (.tuple #[]) ∧ Sq p C0 w0 w' (upd V k x) := by
  have H := Lib.hid h
  have s0 : w.cell? ⟨p.sz, 0, none⟩ = _ := h.st.sb.cell (i := 0) rfl
  have s1 : w.cell? ⟨p.sz, 1, none⟩ = _ := h.st.sb.cell (i := 1) rfl
  have p1 : w.cell? ⟨p.pz, 1, none⟩ = _ := h.st.pb.cell (i := 1) rfl
  have a1 := h.st.at_ k hk
  have a2 := h.cl.cell ok hk
  have a3 := h.cl.frozen (p.A k)
  have hA := ok.lt k hk
  have hA2 : ((p.A k : Nat) : Int) < (p.n : Int) := by omega
  have OK := Lib.hid ok
  clear h ok
  go_enter Tryd.func37, Tryd.ntmps37
  go_wp2_with fail
  go_still_tail 16, (by kernel_rfl)
  change wpList _ _ _ _ _ w.drew
  obtain ⟨we, hwe⟩ : ∃ we, we = w.drew := ⟨_, rfl⟩
  have HSE := Lib.hid (show Sq p C0 w0 we V by rw [hwe]; exact H.out.drewN 1)
  have z1 : we.frozen? ⟨p.gc, p.A k, none⟩ = false := by rw [hwe]; exact a3
  have z2 : we.cell? ⟨p.gc, p.A k, none⟩ = some (.int .i64 (V k)) := by rw [hwe]; exact a2
  rw [← hwe]
  clear hwe s0 s1 p1 a1 a2 a3 H
  go_wp2_with fail
  first | go_end0 | (simp only [Exit.inBlock, Exit.then]; refine bodyPost_ret (results_none rfl _ _ _) rfl ?_) | refine bodyPost_ret (results_none rfl _ _ _) rfl ?_
  exact ⟨rfl, HSE.out.set OK.out hk x⟩
theorem strong_any (ok : SqOk p) (h : Sq p C0 w0 w V) (k : Nat) (hk : k ≤ p.m) (r : Nat) :
    Calls Tryd.prog 38 #[.pointer (some ⟨p.sz, 0, none⟩), .int .i64 k] (w.drewN r) fun e w' => e = .returned (.int .i64 (sgB V p.beg k)) ∧ ∃ q, w' = w.drewN q := by
  have H := Lib.hid h
  have OK := Lib.hid ok
  have hm2 := ok.mn
  have hn2 := ok.n2
  clear h ok
  go_enter Tryd.func38, Tryd.ntmps38
  go_wp2_with fail
  go_loopw [1] (fun iv wr => ∃ j : Nat, iv = .int .i64 ((j : Int) - 1) ∧ j ≤ k ∧ sgB V p.beg k = sgB V p.beg j ∧ ∃ q, wr = w.drewN q) (fun iv _ => (intOf iv + 1).toNat)
  case atStart => exact ⟨k, rfl, Nat.le_refl _, rfl, r, rfl⟩
  case round =>
    obtain ⟨j, rfl, hj, hs, q, rfl⟩ := hrel
    have HS := Lib.hid hs
    clear hs
    cases j with
    | zero =>
      have HZ := Lib.hid (HS.out.trans (show sgB V p.beg 0 = p.beg from rfl))
      have s4 : w.cell? ⟨p.sz, 4, none⟩ = _ := H.out.st.sb.cell (i := 4) rfl
      go_wp2_with fail
      go_ret
      exact ⟨by rw [HZ.out]; rfl, q, rfl⟩
    | succ j =>
      have e1 : ((j + 1 : Nat) : Int) - 1 = j := by omega
      have h0 : (0 : Int) ≤ j := by omega
      rw [e1]
      have HG := Lib.hid (get_any OK.out H.out j (by omega) q)
      have HV := Lib.hid (show gtV p V j = V j by unfold gtV; rw [if_neg (by omega), if_neg (by omega)]; rfl)
      have HT := Lib.hid (show sgB V p.beg (j + 1) = if V j = 0 ∨ V j = 1 ∨ V j = 2 then V j else sgB V p.beg j by rw [sgB])
      go_wp2_with fail
      refine HG.out.mono ?_
      rintro e w2 ⟨rfl, q2, rfl⟩
      rw [HV.out]
      obtain ⟨x, hx⟩ : ∃ x, x = V j := ⟨_, rfl⟩
      rw [← hx] at HT ⊢
      clear hx HG HV
      by_cases hx : x = 0 ∨ x = 1 ∨ x = 2
      · have HZ := Lib.hid (HS.out.trans (HT.out.trans (if_pos hx)))
        rcases hx with rfl | rfl | rfl
        all_goals
          go_wp2_with fail
          go_ret
          exact ⟨by rw [HZ.out]; rfl, q2, rfl⟩
      · have HZ := Lib.hid (HS.out.trans (HT.out.trans (if_neg hx)))
        have f0 : (x == 0) = false := by simp; omega
        have f1 : (x == 1) = false := by simp; omega
        have f2 : (x == 2) = false := by simp; omega
        clear hx
        go_wp2_with fail
        go_roundw
        case rel => exact ⟨j, by go_num, by omega, HZ.out, q2, rfl⟩
        case measure => simp [intOf]
theorem get0_any (ok : SqOk p) (h : Sq p C0 w0 w V) (k : Int) (hk : -1 ≤ k ∧ k ≤ p.m) :
    Calls Tryd.prog 36 #[.pointer (some ⟨p.sz, 0, none⟩), .int .i64 k] w fun e w' => e = .returned (.int .i64 (gtV p V k)) ∧ ∃ q, w' = w.drewN q := by
  have := get_any ok h k hk 0
  rwa [World.drewN_zero] at this
/-- the k-th place's -/
theorem getk_any (ok : SqOk p) (h : Sq p C0 w0 w V) (k : Nat) (hk : k < p.m) (r : Nat) :
    Calls Tryd.prog 36 #[.pointer (some ⟨p.sz, 0, none⟩), .int .i64 k] (w.drewN r) fun e w' => e = .returned (.int .i64 (V k)) ∧ ∃ q, w' = w.drewN q := by
  have := get_any ok h k (by omega) r
  rwa [gtV_in hk] at this
theorem getk0_any (ok : SqOk p) (h : Sq p C0 w0 w V) (k : Nat) (hk : k < p.m) :
    Calls Tryd.prog 36 #[.pointer (some ⟨p.sz, 0, none⟩), .int .i64 k] w fun e w' => e = .returned (.int .i64 (V k)) ∧ ∃ q, w' = w.drewN q := by
  have := getk_any ok h k hk 0
  rwa [World.drewN_zero] at this
end
end Go.Proofs.YtojbicdmcodgdaaDoor.BD
namespace Go.Proofs.YtojbicdmcodgdaaDoor.Ref
open Go.RowKit Go.Law
theorem make_ints (n : Nat) (hn : n ≤ 1000000000000) (w : World) : (Instr.makeSlice 22 (.int .i64 (n : Int)) (.int .i64 (n : Int))).run Tryd.prog w = .ok (.slice (some ⟨w.heap.size, 0, none⟩) n n) (w.alloc (.cells (madeCells #[.int .i64 0] n) 3)) := by
  obtain ⟨i0, hi, hz0, hz1, hz2⟩ := info_parts (show (Tryd.prog.info? 3).map (fun i => (i.zero, i.size, i.bytes)) = some (some (.int .i64 0), 1, 8) by kernel_rfl)
  have := run_make (P := Tryd.prog) w 22 3 i0 (.int .i64 0) Tryd.underlying22 hi hz0 .i64 .i64 (n : Int) (n : Int) (by omega) (by omega) (by rw [hz2]; omega) (by omega)
  rw [hz1] at this
  simpa [Value.cells] using this
end Go.Proofs.YtojbicdmcodgdaaDoor.Ref
