

/-
  chart's maker: zero, bar.
-/
import Derived.Test.YtnigebnibikolaaCbMaker
import Derived.Maps.AppendAt
namespace Go.Proofs.Ytnigebnibikolaa.CB
open Go.RowKit Go.Law Go.Law.Cb Ref CH
set_option linter.unusedVariables false
set_option linter.unusedSimpArgs false
set_option maxRecDepth 100000
theorem zero_any (g : Nat) (kind : Int) (a1 a2 : Option Addr) (p cp s cs : Nat) (lo hi st height : Int) (out : Value) (w : World) (hM : MkAt w g kind a1 a2 p cp s cs lo hi st height out) (hz : lo ≤ 0 ∧ 0 ≤ hi) :
    Calls Try.prog 73 #[.pointer (some ⟨g, 0, none⟩)] w fun e w' => e = .returned (.int .i64 0) ∧ ∃ k, w' = w.drewN k := by
  have hmax : ∀ x y : Int, (if x < y then y else x) = max x y := fun x y => by omega
  have hmin : ∀ x y : Int, (if y < x then y else x) = min x y := fun x y => by omega
  have hm1 : max 0 lo = 0 := by omega
  have hm2 : min 0 hi = 0 := by omega
  have c0 : w.cell? ⟨g, 0, none⟩ = some (.int .i64 kind) := Blk.cell hM (i := 0) rfl
  have c1 : w.cell? ⟨g, 1, none⟩ = some (.slice a1 p cp) := Blk.cell hM (i := 1) rfl
  have c2 : w.cell? ⟨g, 2, none⟩ = some (.slice a2 s cs) := Blk.cell hM (i := 2) rfl
  have c3 : w.cell? ⟨g, 3, none⟩ = some (.int .i64 lo) := Blk.cell hM (i := 3) rfl
  have c4 : w.cell? ⟨g, 4, none⟩ = some (.int .i64 hi) := Blk.cell hM (i := 4) rfl
  have c5 : w.cell? ⟨g, 5, none⟩ = some (.int .i64 st) := Blk.cell hM (i := 5) rfl
  have c6 : w.cell? ⟨g, 6, none⟩ = some (.int .i64 height) := Blk.cell hM (i := 6) rfl
  have c7 : w.cell? ⟨g, 7, none⟩ = some out := Blk.cell hM (i := 7) rfl
  clear hM
  go_enter Try.func73, Try.ntmps73
  go_wp2_with fail
  go_quiet (fail)
  go_wp2_with fail
  go_ret
  exact ⟨rfl, _, rfl⟩
/-- what bar leaves -/
def BarPost (g base : Nat) (kind : Int) (a1 a2 : Option Addr) (p cp s cs : Nat) (lo hi st height : Int) (out : Value) (n : Nat) (xs : List Int) (six : List Int) (w : World) (e : Ending) (w' : World) : Prop :=
  ∃ out', e = .returned (.tuple #[]) ∧ MkAt w' g kind a1 a2 p cp s cs lo hi st height out' ∧ RowL w' base 42 6 out' (n + 1) ((xs ++ six).map (Value.int .i64)) ∧ Aside g out w w' ∧ (∀ k, out'.ownBlock = some k → out.ownBlock = some k ∨ w.heap.size ≤ k)
set_option maxHeartbeats 8000000 in
theorem bar_any (g base : Nat) (kind : Int) (a1 a2 : Option Addr) (p cp s cs : Nat) (lo hi st height : Int) (out : Value) (n : Nat) (xs : List Int) (sr vl fr to x wd : Int) (w : World)
    (hM : MkAt w g kind a1 a2 p cp s cs lo hi st height out) (hR : RowL w base 42 6 out n (xs.map (Value.int .i64))) (hb : base ≤ w.heap.size) (hgb : g < base) (hn : n ≤ 100000)
    (hc : SP.chk lo hi st = 0) (hf : lo ≤ fr ∧ fr ≤ hi) (ht : lo ≤ to ∧ to ≤ hi) (hh : 1 ≤ height ∧ height ≤ 100000) :
    Calls Try.prog 72 #[.pointer (some ⟨g, 0, none⟩), .int .i64 sr, .int .i64 vl, .int .i64 fr, .int .i64 to, .int .i64 x, .int .i64 wd] w
      (BarPost g base kind a1 a2 p cp s cs lo hi st height out n xs [sr, vl, x, min (yF lo hi height fr) (yF lo hi height to), wd, max (yF lo hi height fr) (yF lo hi height to) - min (yF lo hi height fr) (yF lo hi height to)] w) := by
  obtain ⟨ii, hii, hz0, hz1, hz2⟩ := info_parts (show (Try.prog.info? 42).map (fun i => (i.zero, i.size, i.bytes)) = some (some (.agg #[.int .i64 0, .int .i64 0, .int .i64 0, .int .i64 0, .int .i64 0, .int .i64 0]), 6, 48) by kernel_rfl)
  have hmax : ∀ x y : Int, (if x < y then y else x) = max x y := fun x y => by omega
  have hmin : ∀ x y : Int, (if y < x then y else x) = min x y := fun x y => by omega
  have HY := Lib.hid (fun v (hv : lo ≤ v ∧ v ≤ hi) w1 (h : MkAt w1 g kind a1 a2 p cp s cs lo hi st height out) => y_any g kind a1 a2 p cp s cs lo hi st height out v w1 h hc hv hh)
  have HYB := Lib.hid (fun v (hv : lo ≤ v ∧ v ≤ hi) => y_bd (height := height) hc hv hh)
  have HF := Lib.hid hf
  have HT := Lib.hid ht
  have hgl := Blk.lt hM
  clear hc hf ht hh
  go_enter Try.func72, Try.ntmps72
  go_wp2_with fail
  refine (HY.out fr HF.out _ hM).mono ?_
  rintro e w1 ⟨rfl, hb1⟩
  have hM1 : MkAt w1 g kind a1 a2 p cp s cs lo hi st height out := Blk.below hM hb1 hgl
  have hR1 := hR.below hb1 (Nat.le_refl _)
  have hs1 := hb1.size
  have ho1 : Aside g out w w1 := ⟨hb1.os, hb1.tape, hb1.output, hb1.size, fun k hk _ _ => hb1.block k hk⟩
  clear hM hR hb1
  go_wp2_with fail
  refine (HY.out to HT.out _ hM1).mono ?_
  rintro e w2 ⟨rfl, hb2⟩
  have hM2 : MkAt w2 g kind a1 a2 p cp s cs lo hi st height out := Blk.below hM1 hb2 (by omega)
  have hR2 := hR1.below hb2 (Nat.le_refl _)
  have hs2 := hb2.size
  have ho2 : Aside g out w w2 := ho1.trans ⟨hb2.os, hb2.tape, hb2.output, hb2.size, fun k hk _ _ => hb2.block k hk⟩
  have hy1 := HYB.out fr HF.out
  have hy2 := HYB.out to HT.out
  obtain ⟨A, hA⟩ : ∃ A, A = yF lo hi height fr := ⟨_, rfl⟩
  obtain ⟨B, hB⟩ : ∃ B, B = yF lo hi height to := ⟨_, rfl⟩
  rw [← hA] at hy1 ⊢
  rw [← hB] at hy2 ⊢
  have c7 : w2.cell? ⟨g, 7, none⟩ = some out := Blk.cell hM2 (i := 7) rfl
  have HAA := Lib.hid hA
  have HBB := Lib.hid hB
  clear hM1 hR1 hb2 hA hB HY HYB HF HT ho1
  have hbd : -100000 ≤ max A B - min A B ∧ max A B - min A B ≤ 100000 := by omega
  go_wp2_with (at_builtin; go_loud (refine Go.wpList_append_own_at _ rfl _ _ 32 rfl base 42 ii (.agg #[.int .i64 0, .int .i64 0, .int .i64 0, .int .i64 0, .int .i64 0, .int .i64 0]) 6 48 Try.underlying32 hii hz0 hz1 hz2 rfl (by decide) _ _ _ rfl (hR2.alloc _) ⟨w2.heap.size, 0, none⟩ 1 1 [.int .i64 sr, .int .i64 vl, .int .i64 x, .int .i64 (min A B), .int .i64 wd, .int .i64 (max A B - min A B)] rfl rfl ?c1 ?c2 ?c3 ?c4 ?c5 ?_))
  case c1 =>
    intro j u hj
    match j, hj with
    | 0, hj => simp at hj; subst hj; simp [Addr.add]
    | 1, hj => simp at hj; subst hj; simp [Addr.add]
    | 2, hj => simp at hj; subst hj; simp [Addr.add]
    | 3, hj => simp at hj; subst hj; simp [Addr.add]
    | 4, hj => simp at hj; subst hj; simp [Addr.add]
    | 5, hj => simp at hj; subst hj; simp [Addr.add]
  case c2 => first | exact ⟨rfl, rfl, rfl, rfl, rfl, rfl⟩ | (intro u hu; simp at hu; rcases hu with rfl | rfl | rfl | rfl | rfl | rfl <;> rfl)
  case c3 => unfold maxLen; omega
  case c4 => omega
  case c5 => simp; omega
  intro v' w3 hown hgrow _ hblk
  have hgo : some g ≠ out.ownBlock := fun h => by have := RowL.ge hR2 _ h.symm; omega
  have hM3 : MkAt w3 g kind a1 a2 p cp s cs lo hi st height out := (Blk.alloc hM2 _).block (hgrow.block g (by have := Blk.lt hM2; simp; omega) hgo)
  have ho3 : Aside g out w w3 := (ho2.alloc _).grown hgrow
  have hgv : v'.ownBlock ≠ some g := fun h => by have := RowL.ge hown _ h; omega
  have hvv : ∀ k, v'.ownBlock = some k → out.ownBlock = some k ∨ w.heap.size ≤ k := by
    intro k hk
    rcases hblk with h | h
    · exact .inl (by rw [← h]; exact hk)
    · right
      rw [h] at hk
      have := Option.some.inj hk
      omega
  obtain ⟨av, cv, rfl, hv1, hv2⟩ := RowL.slice hown
  have d7 : w3.cell? ⟨g, 7, none⟩ = some out := Blk.cell hM3 (i := 7) rfl
  have f7 := Blk.frozen hM3 7
  have HO := Lib.hid hown
  have HM := Lib.hid hM3
  have HA := Lib.hid ho3
  have HV := Lib.hid hvv
  clear hown hgrow hblk hgo hM3 ho3 hM2 hR2 ho2 c7 hvv
  go_wp2_with fail
  first | go_end0 | (simp only [Exit.inBlock, Exit.then]; refine bodyPost_ret (results_none rfl _ _ _) rfl ?_) | refine bodyPost_ret (results_none rfl _ _ _) rfl ?_
  refine ⟨_, rfl, ?_, ?_, HA.out.setR _ _, HV.out⟩
  · exact (HM.out.set 7 _)
  · have := RowL.other HO.out (a := ⟨g, 7, none⟩) hgv (.slice av (n + 1) cv)
    rw [← HAA.out, ← HBB.out]
    simpa using this
end Go.Proofs.Ytnigebnibikolaa.CB
