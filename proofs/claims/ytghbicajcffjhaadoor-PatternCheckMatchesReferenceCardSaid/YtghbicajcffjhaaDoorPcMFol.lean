
/-
  The matcher at the pattern of a digit: follow.
-/
import Derived.Test.YtghbicajcffjhaaDoorPcMCmp
import Derived.Maps.AppendAt
namespace Go.Proofs.YtghbicajcffjhaaDoor.PC
open Go.RowKit Go.Law Go.Law.Pn
set_option linter.unusedVariables false
set_option linter.unusedSimpArgs false
set_option maxRecDepth 100000
set_option maxHeartbeats 8000000 in
theorem follow0_any {base R C SN Pb S T cc n : Nat} {s0 s1 k : Int} {xs : List Value} {v : Value} {sa : Option Addr} {w : World} (HM : Hid (Mr w base R C SN Pb S T cc s0 s1)) (HR : Hid (RowL w base 200 2 v n xs)) (hb : base ≤ w.heap.size) (hn : n ≤ 100) (hk0 : 0 ≤ k) (hk1 : k ≤ 10) (hne : (s0 == k + 1) = false) :
    Calls Tryd.prog 115 #[.pointer (some ⟨R, 0, none⟩), v, .int .i64 0, .int .i64 k, .slice sa 2 2] w fun e w' => ∃ g cap, e = .returned (.slice (some ⟨g, 0, none⟩) (n + 1) cap) ∧ RowL w' base 200 2 (.slice (some ⟨g, 0, none⟩) (n + 1) cap) (n + 1) (xs ++ [.int .i64 0, .slice sa 2 2]) ∧
      Mr w' base R C SN Pb S T cc (k + 1) s1 ∧ Go.Law.Aside SN v w w' ∧ (v.ownBlock = some g ∨ w.heap.size ≤ g) := by
    obtain ⟨ii, hii, hz0, hz1, hz2⟩ := info_parts (show (Tryd.prog.info? 200).map (fun i => (i.zero, i.size, i.bytes)) = some (some (.agg #[.int .i64 0, .slice none 0 0]), 2, 32) by kernel_rfl)
    obtain ⟨va, vc, rfl, hvc1, hvc2⟩ := HR.out.slice
    have r0 : w.cell? ⟨R, 0, none⟩ = some (.slice (some ⟨C, 0, none⟩) 2 cc) := HM.out.r.cell (i := 0) rfl
    have r2 : w.cell? ⟨R, 2, none⟩ = some (.slice (some ⟨SN, 0, none⟩) 2 2) := HM.out.r.cell (i := 2) rfl
    have q0 : w.cell? ⟨SN, 0, none⟩ = some (.int .i64 s0) := HM.out.s.cell (i := 0) rfl
    have q1 : w.cell? ⟨SN, 1, none⟩ = some (.int .i64 s1) := HM.out.s.cell (i := 1) rfl
    have qf := HM.out.s.frozen
    have hRl := HM.out.r.lt
    have hSl := HM.out.s.lt
    obtain ⟨n1, n2, n3, n4, n5⟩ := HM.out.ne
    obtain ⟨l1, l2, l3, l4, l5, l6⟩ := HM.out.lt
    have hCl := lt_of_cell (HM.out.c 0 _ rfl)
    simp only at hCl
    have e1 : IntKind.i64.wrap (k + 1) = k + 1 := IntWalk.i64_in _ ⟨by omega, by omega⟩
    obtain ⟨w1, hw1⟩ : ∃ x : World, x = w.setCell ⟨SN, 0, none⟩ (.int .i64 (k + 1)) := ⟨_, rfl⟩
    have HM1 := Lib.hid (show Mr w1 base R C SN Pb S T cc (k + 1) s1 from HM.out.move (fun j _ hj => by rw [hw1]; exact Below.heap_setCell _ _ _ _ hj) (by rw [hw1]; exact HM.out.s.set 0 _))
    have HR1 := Lib.hid (show RowL w1 base 200 2 (.slice va n vc) n xs by rw [hw1]; exact RowL.other HR.out (by intro h; have := RowL.ge HR.out _ h; simp at this; omega) _)
    have HA1 := Lib.hid (show Go.Law.Aside SN (.slice va n vc) w w1 by rw [hw1]; exact (Go.Law.Aside.refl _ _ _).setR _ _)
    have HW1 := Lib.hid hw1
    have hs1 := HA1.out.size
    clear hw1 HM HR
    go_enter Tryd.func115, Tryd.ntmps115
    go_upto_region 4 with fail
    rw [← HW1.out]
    clear r0 r2 q0 q1 qf
    have r0 : w1.cell? ⟨R, 0, none⟩ = some (.slice (some ⟨C, 0, none⟩) 2 cc) := HM1.out.r.cell (i := 0) rfl
    have c0 : w1.cell? ⟨C, 4 * 0, none⟩ = some (.int .i64 0) := HM1.out.c (4 * 0) _ rfl
    have c1 : w1.cell? ⟨C, 4 * 0 + 1, none⟩ = some (.int .i64 0) := HM1.out.c (4 * 0 + 1) _ rfl
    have c2 : w1.cell? ⟨C, 4 * 0 + 2, none⟩ = some (.int .i64 0) := HM1.out.c (4 * 0 + 2) _ rfl
    have c3 : w1.cell? ⟨C, 4 * 0 + 3, none⟩ = some (.pointer (some ⟨Pb, 0, none⟩)) := HM1.out.c (4 * 0 + 3) _ rfl
    have hCl1 := lt_of_cell c0
    simp only at hCl1
    simp only [Nat.mul_zero, Nat.zero_add, Nat.mul_one, Nat.reduceAdd] at c0 c1 c2 c3
    go_upto_region 26 with fail
    obtain ⟨w2, hw2⟩ : ∃ x : World, x = w1.alloc (.cells #[.int .i64 0, .int .i64 0, .int .i64 0, .pointer (some ⟨Pb, 0, none⟩)] 169) := ⟨_, rfl⟩
    have HB2 := Lib.hid (show Below w1.heap.size w1 w2 by rw [hw2]; exact (Below.refl _ _).alloc (Nat.le_refl _) _)
    have HM2 := Lib.hid (HM1.out.below HB2.out (by omega))
    have HR2 := Lib.hid (HR1.out.below HB2.out (Nat.le_refl _))
    have HA2 := Lib.hid (show Go.Law.Aside SN (.slice va n vc) w w2 by rw [hw2]; exact HA1.out.alloc _)
    have hs2 := HB2.out.size
    rw [← hw2]
    clear hw2 r0 c0 c1 c2 c3 HM1 HR1 HA1 HW1
    go_wp2_with (at_builtin; go_loud (refine Go.wpList_append_own_at _ rfl _ _ 197 rfl base 200 ii (.agg #[.int .i64 0, .slice none 0 0]) 2 32 Tryd.underlying197 hii hz0 hz1 hz2 rfl (by decide) _ _ _ rfl (RowL.alloc HR2.out _) ⟨w2.heap.size, 0, none⟩ 1 1 [.int .i64 0, .slice sa 2 2] rfl rfl ?c1 ?c2 ?c3 ?c4 ?c5 ?_))
    case c1 =>
      intro j u hj
      match j, hj with
      | 0, hj => simp at hj; subst hj; simp [Addr.add]
      | 1, hj => simp at hj; subst hj; simp [Addr.add]
    try (case c2 => first | exact ⟨rfl, rfl⟩ | (intro u hu; simp at hu; rcases hu with rfl | rfl <;> rfl))
    try (case c3 => unfold maxLen; (try simp); (try omega))
    try (case c4 => (try simp); (try omega))
    try (case c5 => (try simp); (try omega))
    intro v' w3 hown hgrow _ hblk
    obtain ⟨g, cap, hv', hgb, hgl, _⟩ := RowL.at hown (by omega)
    subst hv'
    have HO := Lib.hid hown
    have HA3 := Lib.hid (show Go.Law.Aside SN (.slice va n vc) w w3 from (HA2.out.alloc _).grown hgrow)
    have HM3 := Lib.hid (show Mr w3 base R C SN Pb S T cc (k + 1) s1 from HM2.out.move (fun j hj _ => by
      rw [hgrow.block j (by simp; omega) (fun h => by have := RowL.ge HR2.out j h.symm; omega)]
      exact Below.heap_alloc _ _ _ (by omega)) (by
      refine HM2.out.s.block ?_
      rw [hgrow.block SN (by simp; omega) (fun h => by have := RowL.ge HR2.out SN h.symm; omega)]
      exact Below.heap_alloc _ _ _ (by omega)))
    have hgg : (Value.slice va n vc).ownBlock = some g ∨ w.heap.size ≤ g := by
      rcases hblk with h | h
      · exact .inl h.symm
      · right
        have := Option.some.inj h
        simp at this
        omega
    clear hown hgrow hblk
    go_wp2_with fail
    go_ret
    exact ⟨g, cap, rfl, HO.out, HM3.out, HA3.out, hgg⟩
set_option maxHeartbeats 8000000 in
theorem follow1_any {base R C SN Pb S T cc n : Nat} {s0 s1 k : Int} {xs : List Value} {v : Value} {sa : Option Addr} {w : World} (HM : Hid (Mr w base R C SN Pb S T cc s0 s1)) (HR : Hid (RowL w base 200 2 v n xs)) (hb : base ≤ w.heap.size) (hn : n ≤ 100) (hk0 : 0 ≤ k) (hk1 : k ≤ 10) (hne : (s1 == k + 1) = false) :
    Calls Tryd.prog 115 #[.pointer (some ⟨R, 0, none⟩), v, .int .i64 1, .int .i64 k, .slice sa 2 2] w fun e w' => ∃ g cap, e = .returned (.slice (some ⟨g, 0, none⟩) (n + 1) cap) ∧ RowL w' base 200 2 (.slice (some ⟨g, 0, none⟩) (n + 1) cap) (n + 1) (xs ++ [.int .i64 1, .slice sa 2 2]) ∧
      Mr w' base R C SN Pb S T cc s0 (k + 1) ∧ Go.Law.Aside SN v w w' ∧ (v.ownBlock = some g ∨ w.heap.size ≤ g) := by
    obtain ⟨ii, hii, hz0, hz1, hz2⟩ := info_parts (show (Tryd.prog.info? 200).map (fun i => (i.zero, i.size, i.bytes)) = some (some (.agg #[.int .i64 0, .slice none 0 0]), 2, 32) by kernel_rfl)
    obtain ⟨va, vc, rfl, hvc1, hvc2⟩ := HR.out.slice
    have r0 : w.cell? ⟨R, 0, none⟩ = some (.slice (some ⟨C, 0, none⟩) 2 cc) := HM.out.r.cell (i := 0) rfl
    have r2 : w.cell? ⟨R, 2, none⟩ = some (.slice (some ⟨SN, 0, none⟩) 2 2) := HM.out.r.cell (i := 2) rfl
    have q0 : w.cell? ⟨SN, 0, none⟩ = some (.int .i64 s0) := HM.out.s.cell (i := 0) rfl
    have q1 : w.cell? ⟨SN, 1, none⟩ = some (.int .i64 s1) := HM.out.s.cell (i := 1) rfl
    have qf := HM.out.s.frozen
    have hRl := HM.out.r.lt
    have hSl := HM.out.s.lt
    obtain ⟨n1, n2, n3, n4, n5⟩ := HM.out.ne
    obtain ⟨l1, l2, l3, l4, l5, l6⟩ := HM.out.lt
    have hCl := lt_of_cell (HM.out.c 0 _ rfl)
    simp only at hCl
    have e1 : IntKind.i64.wrap (k + 1) = k + 1 := IntWalk.i64_in _ ⟨by omega, by omega⟩
    obtain ⟨w1, hw1⟩ : ∃ x : World, x = w.setCell ⟨SN, 1, none⟩ (.int .i64 (k + 1)) := ⟨_, rfl⟩
    have HM1 := Lib.hid (show Mr w1 base R C SN Pb S T cc s0 (k + 1) from HM.out.move (fun j _ hj => by rw [hw1]; exact Below.heap_setCell _ _ _ _ hj) (by rw [hw1]; exact HM.out.s.set 1 _))
    have HR1 := Lib.hid (show RowL w1 base 200 2 (.slice va n vc) n xs by rw [hw1]; exact RowL.other HR.out (by intro h; have := RowL.ge HR.out _ h; simp at this; omega) _)
    have HA1 := Lib.hid (show Go.Law.Aside SN (.slice va n vc) w w1 by rw [hw1]; exact (Go.Law.Aside.refl _ _ _).setR _ _)
    have HW1 := Lib.hid hw1
    have hs1 := HA1.out.size
    clear hw1 HM HR
    go_enter Tryd.func115, Tryd.ntmps115
    go_upto_region 4 with fail
    rw [← HW1.out]
    clear r0 r2 q0 q1 qf
    have r0 : w1.cell? ⟨R, 0, none⟩ = some (.slice (some ⟨C, 0, none⟩) 2 cc) := HM1.out.r.cell (i := 0) rfl
    have c0 : w1.cell? ⟨C, 4 * 1, none⟩ = some (.int .i64 7) := HM1.out.c (4 * 1) _ rfl
    have c1 : w1.cell? ⟨C, 4 * 1 + 1, none⟩ = some (.int .i64 0) := HM1.out.c (4 * 1 + 1) _ rfl
    have c2 : w1.cell? ⟨C, 4 * 1 + 2, none⟩ = some (.int .i64 0) := HM1.out.c (4 * 1 + 2) _ rfl
    have c3 : w1.cell? ⟨C, 4 * 1 + 3, none⟩ = some (.pointer none) := HM1.out.c (4 * 1 + 3) _ rfl
    have hCl1 := lt_of_cell c0
    simp only at hCl1
    simp only [Nat.mul_zero, Nat.zero_add, Nat.mul_one, Nat.reduceAdd] at c0 c1 c2 c3
    go_upto_region 26 with fail
    obtain ⟨w2, hw2⟩ : ∃ x : World, x = w1.alloc (.cells #[.int .i64 7, .int .i64 0, .int .i64 0, .pointer none] 169) := ⟨_, rfl⟩
    have HB2 := Lib.hid (show Below w1.heap.size w1 w2 by rw [hw2]; exact (Below.refl _ _).alloc (Nat.le_refl _) _)
    have HM2 := Lib.hid (HM1.out.below HB2.out (by omega))
    have HR2 := Lib.hid (HR1.out.below HB2.out (Nat.le_refl _))
    have HA2 := Lib.hid (show Go.Law.Aside SN (.slice va n vc) w w2 by rw [hw2]; exact HA1.out.alloc _)
    have hs2 := HB2.out.size
    rw [← hw2]
    clear hw2 r0 c0 c1 c2 c3 HM1 HR1 HA1 HW1
    go_wp2_with (at_builtin; go_loud (refine Go.wpList_append_own_at _ rfl _ _ 197 rfl base 200 ii (.agg #[.int .i64 0, .slice none 0 0]) 2 32 Tryd.underlying197 hii hz0 hz1 hz2 rfl (by decide) _ _ _ rfl (RowL.alloc HR2.out _) ⟨w2.heap.size, 0, none⟩ 1 1 [.int .i64 1, .slice sa 2 2] rfl rfl ?c1 ?c2 ?c3 ?c4 ?c5 ?_))
    case c1 =>
      intro j u hj
      match j, hj with
      | 0, hj => simp at hj; subst hj; simp [Addr.add]
      | 1, hj => simp at hj; subst hj; simp [Addr.add]
    try (case c2 => first | exact ⟨rfl, rfl⟩ | (intro u hu; simp at hu; rcases hu with rfl | rfl <;> rfl))
    try (case c3 => unfold maxLen; (try simp); (try omega))
    try (case c4 => (try simp); (try omega))
    try (case c5 => (try simp); (try omega))
    intro v' w3 hown hgrow _ hblk
    obtain ⟨g, cap, hv', hgb, hgl, _⟩ := RowL.at hown (by omega)
    subst hv'
    have HO := Lib.hid hown
    have HA3 := Lib.hid (show Go.Law.Aside SN (.slice va n vc) w w3 from (HA2.out.alloc _).grown hgrow)
    have HM3 := Lib.hid (show Mr w3 base R C SN Pb S T cc s0 (k + 1) from HM2.out.move (fun j hj _ => by
      rw [hgrow.block j (by simp; omega) (fun h => by have := RowL.ge HR2.out j h.symm; omega)]
      exact Below.heap_alloc _ _ _ (by omega)) (by
      refine HM2.out.s.block ?_
      rw [hgrow.block SN (by simp; omega) (fun h => by have := RowL.ge HR2.out SN h.symm; omega)]
      exact Below.heap_alloc _ _ _ (by omega)))
    have hgg : (Value.slice va n vc).ownBlock = some g ∨ w.heap.size ≤ g := by
      rcases hblk with h | h
      · exact .inl h.symm
      · right
        have := Option.some.inj h
        simp at this
        omega
    clear hown hgrow hblk
    go_wp2_with fail
    go_ret
    exact ⟨g, cap, rfl, HO.out, HM3.out, HA3.out, hgg⟩
end Go.Proofs.YtghbicajcffjhaaDoor.PC
