/-
  The ends of clicks: plain laws, and what holds of memory.
-/
import Derived.Test.YthddbinbeinafaaTlTimes
namespace Go.Law.Tl
open Go.Law Go.RowKit
set_option linter.unusedVariables false
def cLen (L : Nat → Eff) (i : Nat) : Nat := (clk L i).toNat + 1
/-- the ends of the clicks behind i effects -/
def endF (L : Nat → Eff) : Nat → Nat → Int
  | 0 => fun _ => 0
  | i + 1 => upd (endF L i) (tmC L i).toNat (max (endF L i (tmC L i).toNat) (tmT L i))
theorem endF_zero {L : Nat → Eff} : ∀ {i k : Nat}, cLen L i ≤ k → endF L i k = 0
  | 0, k, _ => rfl
  | i + 1, k, h => by
    have h1 := clk_mono (L := L) (show i ≤ i + 1 by omega)
    have h2 := clk_bd (L := L) i
    unfold cLen at h
    show upd (endF L i) (clk L (i + 1)).toNat _ k = 0
    unfold upd
    rw [if_neg (by omega), endF_zero (by unfold cLen; omega)]
theorem cLen_step (L : Nat → Eff) (i : Nat) : cLen L (i + 1) = (tmC L i).toNat + 1 ∧ cLen L i ≤ cLen L (i + 1) ∧ cLen L (i + 1) ≤ cLen L i + 1 ∧ tmC L i = ((tmC L i).toNat : Int) := by
  have h2 := clk_bd (L := L) i
  have h3 := clk_bd (L := L) (i + 1)
  have h1 : clk L (i + 1) = if (L i).start = 0 then clk L i + 1 else clk L i := by rw [clk]
  unfold cLen tmC
  split at h1 <;> omega
theorem endF_bd {L : Nat → Eff} {n : Nat} (h : ∀ i, i < n → (L i).Ok) (hn : n ≤ 200) : ∀ {i k : Nat}, i ≤ n → 0 ≤ endF L i k ∧ endF L i k ≤ 5000000000
  | 0, k, _ => ⟨Int.le_refl _, (by decide : (0 : Int) ≤ 5000000000)⟩
  | i + 1, k, hi => by
    have h1 := endF_bd h hn (i := i) (k := k) (by omega)
    have h2 := endF_bd h hn (i := i) (k := (tmC L i).toNat) (by omega)
    have h3 := tm_bd h hn (i := i) (by omega)
    rw [endF]
    unfold upd
    split <;> omega
theorem rowI_obj {w : World} {base : Nat} {e : TypeId} {s : Nat} {v : Value} {n : Nat} {F : Nat → Int} (h : RowI w base e s v n F) {k : Nat} (hk : v.ownBlock = some k) : ∃ cs, w.heap[k]? = some (.cells cs e (0, 0)) := by
  obtain ⟨_, ⟨_, ⟨rfl, _⟩ | ⟨g, cap, cur, rfl, _, hg, _⟩⟩, _⟩ := h
  · simp [Value.ownBlock] at hk
  · simp [Value.ownBlock] at hk
    subst hk
    exact ⟨cur, hg⟩
theorem rowI_lt {w : World} {base : Nat} {e : TypeId} {s : Nat} {v : Value} {n : Nat} {F : Nat → Int} (h : RowI w base e s v n F) {k : Nat} (hk : v.ownBlock = some k) : k < w.heap.size := by
  obtain ⟨c, hc⟩ := rowI_obj h hk
  exact (Array.getElem?_eq_some_iff.1 hc).1
theorem apart_kind {w : World} {base base' : Nat} {e e' : TypeId} {s s' : Nat} {v v' : Value} {n n' : Nat} {F F' : Nat → Int} (h : RowI w base e s v n F) (h' : RowI w base' e' s' v' n' F') (hne : e ≠ e') {k : Nat} (hk : v.ownBlock = some k) : v'.ownBlock ≠ some k := by
  intro h2
  obtain ⟨c1, e1⟩ := rowI_obj h hk
  obtain ⟨c2, e2⟩ := rowI_obj h' h2
  rw [e1] at e2
  injection e2 with e3
  injection e3 with _ e4
  exact hne e4
/-- two rows of times and the row of ends -/
structure TcS (TE TI : TypeId) (B : Nat) (w : World) (n : Nat) (L : Nat → Eff) (t1 t2 v : Value) (K : Nat) (F : Nat → Int) (wr : World) : Prop where
  below : Below B w wr
  low : B ≤ wr.heap.size
  one : RowI wr B TE 3 t1 n (TF L)
  two : RowI wr B TE 3 t2 n (TF L)
  out : RowI wr B TI 1 v K F
  kinds : TE ≠ TI
section
variable {TE TI : TypeId} {B : Nat} {w : World} {n : Nat} {L : Nat → Eff} {t1 t2 v : Value} {K : Nat} {F : Nat → Int} {wr w' : World}
theorem TcS.under (h : TcS TE TI B w n L t1 t2 v K F wr) (hb : Below wr.heap.size wr w') : TcS TE TI B w n L t1 t2 v K F w' :=
  ⟨h.below.trans (hb.mono h.low), Nat.le_trans h.low hb.size, h.one.below hb (Nat.le_refl _), h.two.below hb (Nat.le_refl _), h.out.below hb (Nat.le_refl _), h.kinds⟩
theorem TcS.grown (h : TcS TE TI B w n L t1 t2 v K F wr) {v' : Value} {K' : Nat} {F' : Nat → Int} (hg : wr.grownBy w' v.ownBlock) (hr : RowI w' B TI 1 v' K' F') : TcS TE TI B w n L t1 t2 v' K' F' w' :=
  ⟨Below.grown h.below hg h.low (fun k hk => RowI.ge h.out k hk), Nat.le_trans h.low hg.size, h.one.block (fun k hk => hg.block k (rowI_lt h.one hk) (fun e => apart_kind h.one h.out h.kinds hk e.symm)), h.two.block (fun k hk => hg.block k (rowI_lt h.two hk) (fun e => apart_kind h.two h.out h.kinds hk e.symm)), hr, h.kinds⟩
theorem TcS.set {g cap : Nat} (h : TcS TE TI B w n L t1 t2 (.slice (some ⟨g, 0, none⟩) K cap) K F wr) {c : Nat} (hc : c < K) (x : Int) : TcS TE TI B w n L t1 t2 (.slice (some ⟨g, 0, none⟩) K cap) K (upd F c x) (wr.setCell ⟨g, c, none⟩ (.int .i64 x)) := by
  have hB : B ≤ g := RowI.ge h.out g (by simp [Value.ownBlock])
  refine ⟨h.below.setCell hB _, by simpa [World.setCell] using h.low, h.one.other (fun e => ?_) _, h.two.other (fun e => ?_) _, h.out.set c (by omega) x, h.kinds⟩
  · exact apart_kind h.one h.out h.kinds e (by simp [Value.ownBlock])
  · exact apart_kind h.two h.out h.kinds e (by simp [Value.ownBlock])
/-- a block of times is not the row of ends -/
theorem TcS.box (h : TcS TE TI B w n L t1 t2 v K F wr) {q : Nat} {cs : Array Value} (hq : Blk wr q cs TE) (hg : wr.grownBy w' v.ownBlock) : Blk w' q cs TE := by
  refine hq.block (hg.block q hq.lt (fun e => ?_))
  obtain ⟨c2, e2⟩ := rowI_obj h.out e.symm
  unfold Blk at hq
  rw [hq] at e2
  injection e2 with e3
  injection e3 with _ e4
  exact h.kinds e4
end
theorem push_zero {w : World} {base : Nat} {e : TypeId} {v : Value} {K : Nat} {F : Nat → Int} {xs : List Value} (h : w.ownsRow base e 1 v (K + 1) (xs ++ [.int .i64 0])) (hl : xs.length = K * 1) (hx : ∀ i, i < K * 1 → xs[i]? = some (.int .i64 (F i))) (h0 : F K = 0) : RowI w base e 1 v (K + 1) F :=
  RowI.push h hl hx (fun j hj => by
    obtain rfl : j = 0 := by omega
    show some _ = _
    rw [Nat.mul_one, Nat.add_zero, h0]) (fun _ _ => rfl)
end Go.Law.Tl
