

/-
  local and inside.
-/
import Derived.Test.YtnigebnibikolaaDoorShHitPlain
import Derived.Test.YtnigebnibikolaaDoorShTop
namespace Go.Proofs.YtnigebnibikolaaDoor.ShT
open Go.RowKit Go.Law Go.Law.Sh
set_option linter.unusedVariables false
set_option linter.unusedSimpArgs false
set_option maxRecDepth 100000
set_option maxHeartbeats 2000000 in
theorem local_any (n : Nat) (E : Nat → Nat → Int) (N : Nat → Nat → ByteArray) (p : Int × Int) (a : Option Addr) (c : Nat) (hn : n ≤ 1000) (hall : ∀ j, j < n → Right E j) :
    ∀ (f k : Nat) (w : World), ShF w a n E N → k < n → meas n E (E k 1) ≤ f → Arr w 3 →
    Calls Tryd.prog 55 #[.slice a n c, .agg #[.int .i64 (E k 0), .int .i64 (E k 1), .int .i64 (E k 2), .int .i64 (E k 3), .int .i64 (E k 4), .int .i64 (E k 5), .int .i64 (E k 6), .int .i64 (E k 7), .int .i64 (E k 8), .int .i64 (E k 9), .string (N k 0), .string (N k 1)], .int .i64 p.1, .int .i64 p.2] w
      fun e w' => e = .returned (.tuple #[.int .i64 (turnBk (E k) (inG n E p f (E k 1))).1, .int .i64 (turnBk (E k) (inG n E p f (E k 1))).2]) ∧ Below w.heap.size w w' := by
  have HALL := Lib.hid hall
  clear hall
  intro f
  induction f with
  | zero =>
    intro k w ha hk hm ht
    have hg := meas_zero (Nat.le_zero.1 hm)
    have htt : 0 ≤ E k 7 ∧ E k 7 ≤ 3599 := (HALL.out k hk).2.2.1.2.2.2.2
    obtain ⟨R, hR⟩ : ∃ R, R = turnBk (E k) (inG n E p 0 (E k 1)) := ⟨_, rfl⟩
    rw [← hR]
    rw [hg, inG_zero] at hR
    have HT := Lib.hid ht
    have HR := Lib.hid hR
    have HG := Lib.hid hg
    clear hm ht ha hR hg
    obtain ⟨e0, he0⟩ : ∃ e, e = E k 0 := ⟨_, rfl⟩
    obtain ⟨e1, he1⟩ : ∃ e, e = E k 1 := ⟨_, rfl⟩
    obtain ⟨e2, he2⟩ : ∃ e, e = E k 2 := ⟨_, rfl⟩
    obtain ⟨e3, he3⟩ : ∃ e, e = E k 3 := ⟨_, rfl⟩
    obtain ⟨e4, he4⟩ : ∃ e, e = E k 4 := ⟨_, rfl⟩
    obtain ⟨e5, he5⟩ : ∃ e, e = E k 5 := ⟨_, rfl⟩
    obtain ⟨e6, he6⟩ : ∃ e, e = E k 6 := ⟨_, rfl⟩
    obtain ⟨e7, he7⟩ : ∃ e, e = E k 7 := ⟨_, rfl⟩
    obtain ⟨e8, he8⟩ : ∃ e, e = E k 8 := ⟨_, rfl⟩
    obtain ⟨e9, he9⟩ : ∃ e, e = E k 9 := ⟨_, rfl⟩
    obtain ⟨n0, hn0⟩ : ∃ e, e = N k 0 := ⟨_, rfl⟩
    obtain ⟨n1, hn1⟩ : ∃ e, e = N k 1 := ⟨_, rfl⟩
    rw [← he0, ← he1, ← he2, ← he3, ← he4, ← he5, ← he6, ← he7, ← he8, ← he9, ← hn0, ← hn1]
    have HE0 := Lib.hid he0
    have HE1 := Lib.hid he1
    have HE2 := Lib.hid he2
    have HE3 := Lib.hid he3
    have HE4 := Lib.hid he4
    have HE5 := Lib.hid he5
    have HE6 := Lib.hid he6
    have HE7 := Lib.hid he7
    have HE8 := Lib.hid he8
    have HE9 := Lib.hid he9
    clear he0 he1 he2 he3 he4 he5 he6 he7 he8 he9 hn0 hn1
    rw [← HE7.out] at htt
    rw [← HE1.out] at HG
    have hg0 := HG.out
    clear HG
    subst hg0
    go_enter Tryd.func55, Tryd.ntmps55
    go_wp2_with fail
    refine (turned_any _ _ _ _ _ _ (by omega) (HT.out.below (Nat.le_refl _) ((Below.refl _ _).alloc (Nat.le_refl _) _))).mono ?_
    rintro e w2 ⟨rfl, hb2⟩
    simp only [IntWalk.i64_left]
    go_wp2_with fail
    go_ret2
    refine ⟨?_, ((Below.refl _ _).alloc (Nat.le_refl _) _).trans (hb2.mono (by simp))⟩
    rw [HR.out]
    unfold turnBk
    rw [← HE3.out, ← HE4.out, ← HE5.out, ← HE6.out, ← HE7.out]
    rfl
  | succ f ih =>
    intro k w ha hk hm ht
    have IH := Lib.hid ih
    clear ih
    have htt : 0 ≤ E k 7 ∧ E k 7 ≤ 3599 := (HALL.out k hk).2.2.1.2.2.2.2
    obtain ⟨R, hR⟩ : ∃ R, R = turnBk (E k) (inG n E p (f + 1) (E k 1)) := ⟨_, rfl⟩
    rw [← hR]
    have hnx := Par.next HALL.out hk
    have HT := Lib.hid ht
    by_cases hg : E k 1 = 0
    · rw [hg, inG_zero] at hR
      have HR := Lib.hid hR
      have HG := Lib.hid hg
      clear hm ht ha hR hg hnx
      obtain ⟨e0, he0⟩ : ∃ e, e = E k 0 := ⟨_, rfl⟩
      obtain ⟨e1, he1⟩ : ∃ e, e = E k 1 := ⟨_, rfl⟩
      obtain ⟨e2, he2⟩ : ∃ e, e = E k 2 := ⟨_, rfl⟩
      obtain ⟨e3, he3⟩ : ∃ e, e = E k 3 := ⟨_, rfl⟩
      obtain ⟨e4, he4⟩ : ∃ e, e = E k 4 := ⟨_, rfl⟩
      obtain ⟨e5, he5⟩ : ∃ e, e = E k 5 := ⟨_, rfl⟩
      obtain ⟨e6, he6⟩ : ∃ e, e = E k 6 := ⟨_, rfl⟩
      obtain ⟨e7, he7⟩ : ∃ e, e = E k 7 := ⟨_, rfl⟩
      obtain ⟨e8, he8⟩ : ∃ e, e = E k 8 := ⟨_, rfl⟩
      obtain ⟨e9, he9⟩ : ∃ e, e = E k 9 := ⟨_, rfl⟩
      obtain ⟨n0, hn0⟩ : ∃ e, e = N k 0 := ⟨_, rfl⟩
      obtain ⟨n1, hn1⟩ : ∃ e, e = N k 1 := ⟨_, rfl⟩
      rw [← he0, ← he1, ← he2, ← he3, ← he4, ← he5, ← he6, ← he7, ← he8, ← he9, ← hn0, ← hn1]
      have HE0 := Lib.hid he0
      have HE1 := Lib.hid he1
      have HE2 := Lib.hid he2
      have HE3 := Lib.hid he3
      have HE4 := Lib.hid he4
      have HE5 := Lib.hid he5
      have HE6 := Lib.hid he6
      have HE7 := Lib.hid he7
      have HE8 := Lib.hid he8
      have HE9 := Lib.hid he9
      clear he0 he1 he2 he3 he4 he5 he6 he7 he8 he9 hn0 hn1
      rw [← HE7.out] at htt
      rw [← HE1.out] at HG
      have hg0 := HG.out
      clear HG
      subst hg0
      go_enter Tryd.func55, Tryd.ntmps55
      go_wp2_with fail
      refine (turned_any _ _ _ _ _ _ (by omega) (HT.out.below (Nat.le_refl _) ((Below.refl _ _).alloc (Nat.le_refl _) _))).mono ?_
      rintro e w2 ⟨rfl, hb2⟩
      simp only [IntWalk.i64_left]
      go_wp2_with fail
      go_ret2
      refine ⟨?_, ((Below.refl _ _).alloc (Nat.le_refl _) _).trans (hb2.mono (by simp))⟩
      rw [HR.out]
      unfold turnBk
      rw [← HE3.out, ← HE4.out, ← HE5.out, ← HE6.out, ← HE7.out]
      rfl
    · obtain ⟨u, huk, hfu, h5⟩ : ∃ u, u < k ∧ findV n E (E k 1) = u ∧ E u 2 = 5 := ((HALL.out k hk).up hk).resolve_left hg
      clear h5
      have hmu : meas n E (E u 1) ≤ f := by
        have h1 := (Par.next HALL.out (show u < n by omega)).2
        unfold meas at hm
        rw [if_neg hg, hfu] at hm
        omega
      rw [inG_step hg hfu] at hR
      have HR := Lib.hid hR
      have HG := Lib.hid hg
      have HF := Lib.hid hfu
      have hun : u < n := by omega
      have hsh := ha
      have HA := Lib.hid ha
      clear hm ht ha hR hg hnx hfu
      obtain ⟨b, off, rfl, hcellG⟩ := hsh (by omega)
      obtain ⟨hci, hc10, hc11⟩ := hcellG u hun
      clear hcellG
      have d0 := hci 0 (by omega)
      rw [Nat.add_zero] at d0
      have d1 := hci 1 (by omega)
      have d2 := hci 2 (by omega)
      have d3 := hci 3 (by omega)
      have d4 := hci 4 (by omega)
      have d5 := hci 5 (by omega)
      have d6 := hci 6 (by omega)
      have d7 := hci 7 (by omega)
      have d8 := hci 8 (by omega)
      have d9 := hci 9 (by omega)
      have zb := lt_of_cell d0
      simp only at zb
      clear hci
      obtain ⟨e0, he0⟩ : ∃ e, e = E k 0 := ⟨_, rfl⟩
      obtain ⟨e1, he1⟩ : ∃ e, e = E k 1 := ⟨_, rfl⟩
      obtain ⟨e2, he2⟩ : ∃ e, e = E k 2 := ⟨_, rfl⟩
      obtain ⟨e3, he3⟩ : ∃ e, e = E k 3 := ⟨_, rfl⟩
      obtain ⟨e4, he4⟩ : ∃ e, e = E k 4 := ⟨_, rfl⟩
      obtain ⟨e5, he5⟩ : ∃ e, e = E k 5 := ⟨_, rfl⟩
      obtain ⟨e6, he6⟩ : ∃ e, e = E k 6 := ⟨_, rfl⟩
      obtain ⟨e7, he7⟩ : ∃ e, e = E k 7 := ⟨_, rfl⟩
      obtain ⟨e8, he8⟩ : ∃ e, e = E k 8 := ⟨_, rfl⟩
      obtain ⟨e9, he9⟩ : ∃ e, e = E k 9 := ⟨_, rfl⟩
      obtain ⟨n0, hn0⟩ : ∃ e, e = N k 0 := ⟨_, rfl⟩
      obtain ⟨n1, hn1⟩ : ∃ e, e = N k 1 := ⟨_, rfl⟩
      rw [← he0, ← he1, ← he2, ← he3, ← he4, ← he5, ← he6, ← he7, ← he8, ← he9, ← hn0, ← hn1]
      have HE0 := Lib.hid he0
      have HE1 := Lib.hid he1
      have HE2 := Lib.hid he2
      have HE3 := Lib.hid he3
      have HE4 := Lib.hid he4
      have HE5 := Lib.hid he5
      have HE6 := Lib.hid he6
      have HE7 := Lib.hid he7
      have HE8 := Lib.hid he8
      have HE9 := Lib.hid he9
      clear he0 he1 he2 he3 he4 he5 he6 he7 he8 he9 hn0 hn1
      rw [← HE7.out] at htt
      rw [← HE1.out] at HG HF
      have g0 : (e1 != 0) = true := by simpa using HG.out
      clear HG
      go_enter Tryd.func55, Tryd.ntmps55
      go_wp2_with fail
      obtain ⟨w0, hw0⟩ : ∃ w0, w0 = w.alloc (Obj.cells #[.int .i64 e0, .int .i64 e1, .int .i64 e2, .int .i64 e3, .int .i64 e4, .int .i64 e5, .int .i64 e6, .int .i64 e7, .int .i64 e8, .int .i64 e9, .string n0, .string n1] 82) := ⟨_, rfl⟩
      have b0 : Blk w0 w.heap.size #[.int .i64 e0, .int .i64 e1, .int .i64 e2, .int .i64 e3, .int .i64 e4, .int .i64 e5, .int .i64 e6, .int .i64 e7, .int .i64 e8, .int .i64 e9, .string n0, .string n1] 82 := by rw [hw0]; exact Blk.new _ _ _
      have hbw : Below w.heap.size w w0 := by rw [hw0]; exact (Below.refl _ _).alloc (Nat.le_refl _) _
      rw [← hw0]
      clear hw0
      have B0 := Lib.hid b0
      clear b0
      refine (find_any n E N e1 _ c w0 (HA.out.below (Nat.le_refl _) hbw) (by omega)).mono ?_
      rintro e w1 ⟨rfl, hb1⟩
      rw [HF.out]
      have hle := hbw.size
      have hbel1 := hbw.trans (hb1.mono hle)
      have b1 := B0.out.below hb1 B0.out.lt
      have x1 : w1.cell? ⟨w.heap.size, 1, none⟩ = some (.int .i64 e1) := b1.cell (i := 1) rfl
      have zx := b1.lt
      have B1 := Lib.hid b1
      have hle1 := hbel1.size
      have hcg := fun o => hbel1.cell (p := ⟨b, o, none⟩) zb
      have dd0 := (hcg _).trans d0
      have dd1 := (hcg _).trans d1
      have dd2 := (hcg _).trans d2
      have dd3 := (hcg _).trans d3
      have dd4 := (hcg _).trans d4
      have dd5 := (hcg _).trans d5
      have dd6 := (hcg _).trans d6
      have dd7 := (hcg _).trans d7
      have dd8 := (hcg _).trans d8
      have dd9 := (hcg _).trans d9
      have dd10 := (hcg _).trans hc10
      have dd11 := (hcg _).trans hc11
      have zb1 : b < w1.heap.size := by omega
      clear d0 d1 d2 d3 d4 d5 d6 d7 d8 d9 hc10 hc11 hcg hb1 b1 B0 hbw
      go_wp2_with fail
      obtain ⟨w2, hw2⟩ : ∃ w2, w2 = w1.alloc (Obj.cells #[.int .i64 (E u 0), .int .i64 (E u 1), .int .i64 (E u 2), .int .i64 (E u 3), .int .i64 (E u 4), .int .i64 (E u 5), .int .i64 (E u 6), .int .i64 (E u 7), .int .i64 (E u 8), .int .i64 (E u 9), .string (N u 0), .string (N u 1)] 82) := ⟨_, rfl⟩
      have b2 : Blk w2 w1.heap.size #[.int .i64 (E u 0), .int .i64 (E u 1), .int .i64 (E u 2), .int .i64 (E u 3), .int .i64 (E u 4), .int .i64 (E u 5), .int .i64 (E u 6), .int .i64 (E u 7), .int .i64 (E u 8), .int .i64 (E u 9), .string (N u 0), .string (N u 1)] 82 := by rw [hw2]; exact Blk.new _ _ _
      have c2 : Blk w2 w.heap.size #[.int .i64 e0, .int .i64 e1, .int .i64 e2, .int .i64 e3, .int .i64 e4, .int .i64 e5, .int .i64 e6, .int .i64 e7, .int .i64 e8, .int .i64 e9, .string n0, .string n1] 82 := by rw [hw2]; exact B1.out.alloc _
      have hbel2 : Below w.heap.size w w2 := by rw [hw2]; exact hbel1.alloc hle1 _
      rw [← hw2]
      obtain ⟨q, hq⟩ : ∃ q, q = w1.heap.size := ⟨_, rfl⟩
      rw [← hq] at b2 ⊢
      have hqw : w.heap.size < q := by rw [hq]; exact zx
      clear hw2 hq
      clear dd0 dd1 dd2 dd3 dd4 dd5 dd6 dd7 dd8 dd9 dd10 dd11 zb zb1 x1 zx B1 hle1 hbel1
      refine (IH.out u w2 (HA.out.below (Nat.le_refl _) hbel2) hun hmu (HT.out.below (Nat.le_refl _) hbel2)).mono ?_
      rintro e w3 ⟨rfl, hb3⟩
      have hbel3 := hbel2.trans (hb3.mono hbel2.size)
      have b3 := b2.below hb3 b2.lt
      have c3 := c2.below hb3 c2.lt
      obtain ⟨X, hX⟩ : ∃ X, X = (turnBk (E u) (inG n E p f (E u 1))).1 := ⟨_, rfl⟩
      obtain ⟨Y, hY⟩ : ∃ Y, Y = (turnBk (E u) (inG n E p f (E u 1))).2 := ⟨_, rfl⟩
      rw [← hX, ← hY]
      obtain ⟨u3, hu3⟩ : ∃ z, z = E u 3 := ⟨_, rfl⟩
      obtain ⟨u4, hu4⟩ : ∃ z, z = E u 4 := ⟨_, rfl⟩
      have HR2 := Lib.hid (show R = turnBk (E k) (wrap64 (X - u3), wrap64 (Y - u4)) by rw [HR.out, hX, hY, hu3, hu4]; rfl)
      have x3 : w3.cell? ⟨q, 3, none⟩ = some (.int .i64 u3) := by rw [hu3]; exact b3.cell (i := 3) rfl
      have x4 : w3.cell? ⟨q, 4, none⟩ = some (.int .i64 u4) := by rw [hu4]; exact b3.cell (i := 4) rfl
      have zq := b3.lt
      have C3 := Lib.hid c3
      clear hX hY hu3 hu4 b2 c2 hb3 hbel2 b3 c3 HR
      go_wp2_with fail
      go_quiet (fail)
      obtain ⟨w4, hw4⟩ : ∃ w4, w4 = w3.drewN nq := ⟨_, rfl⟩
      rw [← hw4]
      have c4 := C3.out.drewN nq
      rw [← hw4] at c4
      have hbel4 : Below w.heap.size w w4 := by rw [hw4]; exact below_drewN hbel3 _
      have y3 : w4.cell? ⟨w.heap.size, 3, none⟩ = some (.int .i64 e3) := c4.cell (i := 3) rfl
      have y4 : w4.cell? ⟨w.heap.size, 4, none⟩ = some (.int .i64 e4) := c4.cell (i := 4) rfl
      have y5 : w4.cell? ⟨w.heap.size, 5, none⟩ = some (.int .i64 e5) := c4.cell (i := 5) rfl
      have y6 : w4.cell? ⟨w.heap.size, 6, none⟩ = some (.int .i64 e6) := c4.cell (i := 6) rfl
      have y7 : w4.cell? ⟨w.heap.size, 7, none⟩ = some (.int .i64 e7) := c4.cell (i := 7) rfl
      have zz := c4.lt
      clear hw4 C3 c4 x3 x4 zq hbel3
      go_wp2_with fail
      refine (turned_any _ _ _ _ _ _ (by omega) (HT.out.below (Nat.le_refl _) hbel4)).mono ?_
      rintro e w5 ⟨rfl, hb5⟩
      simp only [IntWalk.i64_left]
      clear y3 y4 y5 y6 y7
      go_wp2_with fail
      go_ret2
      refine ⟨?_, hbel4.trans (hb5.mono hbel4.size)⟩
      rw [HR2.out]
      unfold turnBk
      rw [← HE3.out, ← HE4.out, ← HE5.out, ← HE6.out, ← HE7.out]
      rfl
end Go.Proofs.YtnigebnibikolaaDoor.ShT
