
/-
  The matcher at the pattern of a digit: the small functions.
-/
import Derived.Test.YtghbicajcffjhaaDoorPcSet
import Derived.Test.YtghbicajcffjhaaDoorTakes
import Derived.Test.YtghbicajcffjhaaDoorUntil
import Derived.Deep.AppendLies
namespace Go.Proofs.YtghbicajcffjhaaDoor.PC
open Go.RowKit Go.Law Go.Law.Pn
set_option linter.unusedVariables false
set_option linter.unusedSimpArgs false
set_option maxRecDepth 100000
set_option maxHeartbeats 8000000 in
theorem add_any (base M n : Nat) (xs : List Value) (v gr : Value) (o ix iy : Int) (nd : Option Addr) (w : World) (HM : Hid (Blk w M #[v, gr] 164)) (HR : Hid (RowL w base 169 4 v n xs)) (hb : base ≤ w.heap.size) (hMb : M < base) (hn : n ≤ 1000) :
    Calls Tryd.prog 82 #[.pointer (some ⟨M, 0, none⟩), .agg #[.int .i64 o, .int .i64 ix, .int .i64 iy, .pointer nd]] w fun e w' => e = .returned (.int .i64 n) ∧ ∃ g cap, RowL w' base 169 4 (.slice (some ⟨g, 0, none⟩) (n + 1) cap) (n + 1) (xs ++ [.int .i64 o, .int .i64 ix, .int .i64 iy, .pointer nd]) ∧
      Blk w' M #[.slice (some ⟨g, 0, none⟩) (n + 1) cap, gr] 164 ∧ Go.Law.Aside M v w w' := by
  obtain ⟨ii, hii, hz0, hz1, hz2⟩ := info_parts (show (Tryd.prog.info? 169).map (fun i => (i.zero, i.size, i.bytes)) = some (some (.agg #[.int .i64 0, .int .i64 0, .int .i64 0, .pointer none]), 4, 32) by kernel_rfl)
  obtain ⟨va, vc, rfl, hvc1, hvc2⟩ := HR.out.slice
  obtain ⟨w1, hw1⟩ : ∃ x, x = w.alloc (.cells #[.int .i64 o, .int .i64 ix, .int .i64 iy, .pointer nd] 169) := ⟨_, rfl⟩
  obtain ⟨B, hB⟩ : ∃ x, x = w.heap.size := ⟨_, rfl⟩
  have HB1 := Lib.hid (show Below w.heap.size w w1 by rw [hw1]; exact (Below.refl _ _).alloc (Nat.le_refl _) _)
  have HX1 := Lib.hid (show Blk w1 B #[.int .i64 o, .int .i64 ix, .int .i64 iy, .pointer nd] 169 by rw [hw1, hB]; exact Blk.new _ _ _)
  have HM1 := Lib.hid (HM.out.below HB1.out HM.out.lt)
  have HR1 := Lib.hid (HR.out.below HB1.out (Nat.le_refl _))
  have HO1 := Lib.hid (show Go.Law.Aside M (.slice va n vc) w w1 by rw [hw1]; exact (Go.Law.Aside.refl _ _ _).alloc _)
  have HW1 := Lib.hid hw1
  have HBE := Lib.hid hB
  have hs1 := HB1.out.size
  have hMl := HM1.out.lt
  have hXl := HX1.out.lt
  have hvB : ∀ k, (Value.slice va n vc).ownBlock = some k → k < B := fun k hk => by rw [hB]; exact HR.out.blk_lt k hk
  have HVB := Lib.hid hvB
  clear hw1 hB HM HR hvB
  go_enter Tryd.func82, Tryd.ntmps82
  go_upto_region 1 with fail
  rw [← HW1.out, ← HBE.out]
  have m0 : w1.cell? ⟨M, 0, none⟩ = some (.slice va n vc) := HM1.out.cell (i := 0) rfl
  have b0 : w1.cell? ⟨B, 0, none⟩ = some (.int .i64 o) := HX1.out.cell (i := 0) rfl
  have b1 : w1.cell? ⟨B, 1, none⟩ = some (.int .i64 ix) := HX1.out.cell (i := 1) rfl
  have b2 : w1.cell? ⟨B, 2, none⟩ = some (.int .i64 iy) := HX1.out.cell (i := 2) rfl
  have b3 : w1.cell? ⟨B, 3, none⟩ = some (.pointer nd) := HX1.out.cell (i := 3) rfl
  refine wp_region_until 10 (fun w' => w'.cell? ⟨M, 0, none⟩ = some (.slice va n vc) ∧ w'.cell? ⟨B, 0, none⟩ = some (.int .i64 o) ∧ w'.cell? ⟨B, 1, none⟩ = some (.int .i64 ix) ∧ w'.cell? ⟨B, 2, none⟩ = some (.int .i64 iy) ∧ w'.cell? ⟨B, 3, none⟩ = some (.pointer nd)) (by kernel_rfl) (by exact ⟨by rw [World.cell?_drew]; exact m0, by rw [World.cell?_drew]; exact b0, by rw [World.cell?_drew]; exact b1, by rw [World.cell?_drew]; exact b2, by rw [World.cell?_drew]; exact b3⟩) ?_
  intro hHeld
  refine moveU (i := 0) (oi := { dst := some 5, op := _, type := _, pos := _, after := _, guard := _ }) (d := some 5) (v := ?vva5) rfl rfl (by kernel_rfl) (by kernel_rfl) (by kernel_rfl) (by rfl) ?dda5 (by rfl) ?yya5 hHeld ?rra5
  case dda5 => first | exact fun _ _ _ h => h | exact fun _ _ _ h => HQ.out _ _ _ _ (by rfl) h
  case yya5 => (intro wx; go_simp; try (with_reducible rfl))
  clear hHeld; intro hHeld
  try simp (maxSteps := 1000000) only [Act.put, List.setIfInBounds_toArray, List.set_cons_zero, List.set_cons_succ]
  refine moveU (i := 1) (oi := { dst := some 6, op := _, type := _, pos := _, after := _, guard := _ }) (d := some 6) (v := ?vva6) rfl rfl (by kernel_rfl) (by kernel_rfl) (by kernel_rfl) (by rfl) ?dda6 (by rfl) ?yya6 hHeld ?rra6
  case dda6 => first | exact fun _ _ _ h => h | exact fun _ _ _ h => HQ.out _ _ _ _ (by rfl) h
  case yya6 => (intro wx; go_simp; try (with_reducible rfl))
  clear hHeld; intro hHeld
  try simp (maxSteps := 1000000) only [Act.put, List.setIfInBounds_toArray, List.set_cons_zero, List.set_cons_succ]
  refine moveU (i := 2) (oi := { dst := some 7, op := _, type := _, pos := _, after := _, guard := _ }) (d := some 7) (v := ?vva7) rfl rfl (by kernel_rfl) (by kernel_rfl) (by kernel_rfl) (by rfl) ?dda7 (by rfl) ?yya7 hHeld ?rra7
  case dda7 => first | exact fun _ _ _ h => h | exact fun _ _ _ h => HQ.out _ _ _ _ (by rfl) h
  case yya7 => (intro wx; go_simp; try (with_reducible rfl))
  clear hHeld; intro hHeld
  try simp (maxSteps := 1000000) only [Act.put, List.setIfInBounds_toArray, List.set_cons_zero, List.set_cons_succ]
  refine moveU (i := 3) (oi := { dst := some 8, op := _, type := _, pos := _, after := _, guard := _ }) (d := some 8) (v := ?vva8) rfl rfl (by kernel_rfl) (by kernel_rfl) (by kernel_rfl) (by rfl) ?dda8 (by rfl) ?yya8 hHeld ?rra8
  case dda8 => first | exact fun _ _ _ h => h | exact fun _ _ _ h => HQ.out _ _ _ _ (by rfl) h
  case yya8 => (intro wx; go_simp; try (with_reducible rfl))
  clear hHeld; intro hHeld
  try simp (maxSteps := 1000000) only [Act.put, List.setIfInBounds_toArray, List.set_cons_zero, List.set_cons_succ]
  refine takeU [7,10] (i := 4) (oi := { dst := some 9, op := _, type := _, pos := _, after := _, guard := _ }) (d := some 9) (v := ?vva9) rfl rfl (by kernel_rfl) (by kernel_rfl) (by kernel_rfl) (by kernel_rfl) ?dda9 (by rfl) ?yya9 hHeld ?rra9
  case dda9 => first | exact fun _ _ _ h => h | exact fun _ _ _ h => HQ.out _ _ _ _ (by rfl) h
  case yya9 => (intro wx hSw; obtain ⟨y0, y1, y2, y3, y4⟩ := hSw; go_simp; try (with_reducible rfl))
  clear hHeld; intro hHeld
  try simp (maxSteps := 1000000) only [Act.put, List.setIfInBounds_toArray, List.set_cons_zero, List.set_cons_succ]
  refine takeU [6,7,10] (i := 5) (oi := { dst := some 10, op := _, type := _, pos := _, after := _, guard := _ }) (d := some 10) (v := ?vva10) rfl rfl (by kernel_rfl) (by kernel_rfl) (by kernel_rfl) (by kernel_rfl) ?dda10 (by rfl) ?yya10 hHeld ?rra10
  case dda10 => first | exact fun _ _ _ h => h | exact fun _ _ _ h => HQ.out _ _ _ _ (by rfl) h
  case yya10 => (intro wx hSw; obtain ⟨y0, y1, y2, y3, y4⟩ := hSw; go_simp; try (with_reducible rfl))
  clear hHeld; intro hHeld
  try simp (maxSteps := 1000000) only [Act.put, List.setIfInBounds_toArray, List.set_cons_zero, List.set_cons_succ]
  refine wpAnyU_ready (rs := [6]) (by kernel_rfl) (by simp) ?_
  refine AllReadyU.cons (o := { dst := some 11, op := _, type := _, pos := _, after := _, guard := _ }) rfl (fun K hK => ?_) AllReadyU.nil
  obtain ⟨wq, hwq⟩ : ∃ x : World, x = w1.drew := ⟨_, rfl⟩
  have HMQ := Lib.hid (show Blk wq M #[.slice va n vc, gr] 164 by rw [hwq]; exact HM1.out.drew)
  have HXQ := Lib.hid (show Blk wq B #[.int .i64 o, .int .i64 ix, .int .i64 iy, .pointer nd] 169 by rw [hwq]; exact HX1.out.drew)
  have HRQ := Lib.hid (show RowL wq base 169 4 (.slice va n vc) n xs by rw [hwq]; exact HR1.out.drew)
  have HOQ := Lib.hid (show Go.Law.Aside M (.slice va n vc) w wq by rw [hwq]; exact Go.Law.Aside.drew HO1.out)
  have hbq : base ≤ wq.heap.size := by rw [hwq]; simp; omega
  have hMq := HMQ.out.lt
  have hXq := HXQ.out.lt
  rw [← hwq]
  clear hwq HM1 HX1 HR1 HO1 m0 b0 b1 b2 b3 hHeld
  go_simp
  obtain ⟨w2, hw2⟩ : ∃ x : World, x = wq.alloc (.cells #[.int .i64 o, .int .i64 ix, .int .i64 iy, .pointer nd] 169) := ⟨_, rfl⟩
  obtain ⟨B2, hB2⟩ : ∃ x, x = wq.heap.size := ⟨_, rfl⟩
  have HN2 := Lib.hid (show Blk w2 B2 #[.int .i64 o, .int .i64 ix, .int .i64 iy, .pointer nd] 169 by rw [hw2, hB2]; exact Blk.new _ _ _)
  have HM2 := Lib.hid (show Blk w2 M #[.slice va n vc, gr] 164 by rw [hw2]; exact HMQ.out.alloc _)
  have HX2 := Lib.hid (show Blk w2 B #[.int .i64 o, .int .i64 ix, .int .i64 iy, .pointer nd] 169 by rw [hw2]; exact HXQ.out.alloc _)
  have HR2 := Lib.hid (show RowL w2 base 169 4 (.slice va n vc) n xs by rw [hw2]; exact HRQ.out.alloc _)
  have HO2 := Lib.hid (show Go.Law.Aside M (.slice va n vc) w w2 by rw [hw2]; exact HOQ.out.alloc _)
  have hb2 : base ≤ w2.heap.size := by rw [hw2]; simp; omega
  rw [← hw2, ← hB2]
  clear hw2 hB2 HMQ HXQ HRQ HOQ
  refine hK.out _ _ (fun _ => by exact ⟨HM2.out.cell (i := 0) rfl, HX2.out.cell (i := 0) rfl, HX2.out.cell (i := 1) rfl, HX2.out.cell (i := 2) rfl, HX2.out.cell (i := 3) rfl⟩) (fun hHeld2 => ?_)
  clear hK K
  try simp only [Act.put, List.setIfInBounds_toArray, List.set_cons_zero, List.set_cons_succ]
  refine wpAnyU_ready (rs := [7]) (by kernel_rfl) (by simp) ?_
  refine AllReadyU.cons (o := { dst := some 12, op := _, type := _, pos := _, after := _, guard := _ }) rfl (fun K hK => ?_) AllReadyU.nil
  refine step_append_lies _ (by rfl) _ _ _ (by rfl) base 169 ii (.agg #[.int .i64 0, .int .i64 0, .int .i64 0, .pointer none]) 4 32 Tryd.underlying157 hii hz0 hz1 hz2 (by rfl) (by decide) (.slice va n vc) n _ (by rfl) HR2.out ⟨B2, 0, none⟩ 1 1 [.int .i64 o, .int .i64 ix, .int .i64 iy, .pointer nd] (by rfl) (by rfl) ?c1 ?c2 (by omega) (by unfold maxLen; omega) (by omega) hb2 w2.heap.size rfl ?_
  case c1 =>
    intro j u hj
    have e : Addr.add ⟨B2, 0, none⟩ j = ⟨B2, j, none⟩ := by simp [Addr.add] <;> omega
    rw [e]
    exact HN2.out.cell (by simpa using hj)
  case c2 => first | exact ⟨rfl, rfl, rfl, rfl⟩ | (intro u hu; simp at hu; rcases hu with rfl | rfl | rfl | rfl <;> rfl)
  intro g7 cap7 w7 hown hgrow hblk hg7
  have hMo : some M ≠ (Value.slice va n vc).ownBlock := fun h => by have := RowL.ge HR2.out _ h.symm; omega
  have hM7 : Blk w7 M #[.slice va n vc, gr] 164 := HM2.out.block (hgrow.block M HM2.out.lt hMo)
  have HO7 := Lib.hid (show Go.Law.Aside M (.slice va n vc) w w7 from HO2.out.grown hgrow)
  have HR7 := Lib.hid hown
  have HM7 := Lib.hid hM7
  have hgv : g7 ≠ M := fun h => by have := RowL.ge hown g7 rfl; omega
  have hXo : some B ≠ (Value.slice va n vc).ownBlock := fun h => by have := HVB.out _ h.symm; omega
  have HX7 := Lib.hid (show Blk w7 B #[.int .i64 o, .int .i64 ix, .int .i64 iy, .pointer nd] 169 from HX2.out.block (hgrow.block B HX2.out.lt hXo))
  have f7 := HM7.out.frozen
  have c7 : w7.cell? ⟨M, 0, none⟩ = some (.slice va n vc) := HM7.out.cell (i := 0) rfl
  refine hK.out _ _ (fun _ => by exact ⟨HM7.out.cell (i := 0) rfl, HX7.out.cell (i := 0) rfl, HX7.out.cell (i := 1) rfl, HX7.out.cell (i := 2) rfl, HX7.out.cell (i := 3) rfl⟩) (fun hHeld3 => ?_)
  clear hK K hHeld2 hown hgrow hMo hM7 hXo HM2 HX2 HR2 HO2 HN2
  try simp only [Act.put, List.setIfInBounds_toArray, List.set_cons_zero, List.set_cons_succ]
  refine moveU (i := 8) (oi := { dst := some 13, op := _, type := _, pos := _, after := _, guard := _ }) (d := some 13) (v := ?vvb13) rfl rfl (by kernel_rfl) (by kernel_rfl) (by kernel_rfl) (by rfl) ?ddb13 (by rfl) ?yyb13 hHeld3 ?rrb13
  case ddb13 => first | exact fun _ _ _ h => h | exact fun _ _ _ h => HQ.out _ _ _ _ (by rfl) h
  case yyb13 => (intro wx; go_simp; try (with_reducible rfl))
  clear hHeld3; intro hHeld3
  try simp (maxSteps := 1000000) only [Act.put, List.setIfInBounds_toArray, List.set_cons_zero, List.set_cons_succ]
  refine moveU (i := 9) (oi := { dst := some 14, op := _, type := _, pos := _, after := _, guard := _ }) (d := some 14) (v := ?vvb14) rfl rfl (by kernel_rfl) (by kernel_rfl) (by kernel_rfl) (by rfl) ?ddb14 (by rfl) ?yyb14 hHeld3 ?rrb14
  case ddb14 => first | exact fun _ _ _ h => h | exact fun _ _ _ h => HQ.out _ _ _ _ (by rfl) h
  case yyb14 => (intro wx; go_simp; try (with_reducible rfl))
  clear hHeld3; intro hHeld3
  try simp (maxSteps := 1000000) only [Act.put, List.setIfInBounds_toArray, List.set_cons_zero, List.set_cons_succ]
  refine wpAnyU_ready (rs := [10]) (by kernel_rfl) (by simp) ?_
  refine AllReadyU.cons (o := { dst := none, op := _, type := _, pos := _, after := _, guard := _ }) rfl (fun K hK => ?_) AllReadyU.nil
  go_simp
  obtain ⟨w8, hw8⟩ : ∃ x : World, x = w7.setCell ⟨M, 0, none⟩ (.slice (some ⟨g7, 0, none⟩) (n + 1) cap7) := ⟨_, rfl⟩
  have HM8 := Lib.hid (show Blk w8 M #[.slice (some ⟨g7, 0, none⟩) (n + 1) cap7, gr] 164 by rw [hw8]; exact HM7.out.set 0 _)
  have HR8 := Lib.hid (show RowL w8 base 169 4 (.slice (some ⟨g7, 0, none⟩) (n + 1) cap7) (n + 1) (xs ++ [.int .i64 o, .int .i64 ix, .int .i64 iy, .pointer nd]) by rw [hw8]; exact RowL.other HR7.out (by simpa [Value.ownBlock] using hgv) _)
  have HO8 := Lib.hid (show Go.Law.Aside M (.slice va n vc) w w8 by rw [hw8]; exact HO7.out.setR _ _)
  rw [← hw8]
  refine hK.out _ _ (fun h => absurd h (by decide)) (fun hHeld => ?_)
  clear hK K hHeld3 hHeld hw8 HM7 HR7 HO7 HX7 f7 c7
  try simp only [Act.put, List.setIfInBounds_toArray, List.set_cons_zero, List.set_cons_succ]
  refine wpAnyU_done (by kernel_rfl) ?_ _
  have m0 : w8.cell? ⟨M, 0, none⟩ = some (.slice (some ⟨g7, 0, none⟩) (n + 1) cap7) := HM8.out.cell (i := 0) rfl
  have e1 : IntKind.i64.wrap (((n + 1 : Nat) : Int) - 1) = (n : Int) := by rw [show ((n + 1 : Nat) : Int) - 1 = (n : Int) by omega]; exact IntWalk.i64_in _ ⟨by omega, by omega⟩
  go_wp2_with fail
  go_ret
  exact ⟨by first | rfl | (congr 2; go_num), g7, cap7, HR8.out, HM8.out, HO8.out⟩
end Go.Proofs.YtghbicajcffjhaaDoor.PC
