
/-
  The reference's ordered builds the order anew and compares.
-/
import Derived.Test.YtpbnkkeplhgepaaPrOrder
import Derived.Test.YtpbnkkeplhgepaaSameInts
import Derived.Laws.AppendOwnNone
namespace Go.Proofs.Ytpbnkkeplhgepaa.PO
open Go.RowKit Go.Law Ref
set_option linter.unusedVariables false
set_option linter.unusedSimpArgs false
set_option maxRecDepth 100000
theorem ordered_range (n : Nat) (a ax : Option Addr) (c cx : Nat) (copies : Int) (co ba : Bool) (w : World) (hc : ¬ (1 ≤ copies ∧ copies ≤ 999)) :
    Calls Try.prog 27 #[.slice a n c, .int .i64 copies, .bool co, .bool ba, .slice ax 0 cx, .int .i64 2] w fun e w' => e = .returned (.bool true) ∧ w = w' := by
  have i1 := inB_false.2 hc
  clear hc
  go_enter Try.func27, Try.ntmps27
  go_wp2_with (go_at_call 14; refine (in_any _ _ _ _).mono ?_; rw [i1]; rintro e w9 ⟨rfl, rfl⟩)
  go_ret
  exact ⟨rfl, rfl⟩
theorem ordered_over (n cp N : Nat) (a ax : Option Addr) (c cx : Nat) (co ba : Bool) (w : World) (hc : 1 ≤ cp ∧ cp ≤ 999) (hn : n ≤ 10000) (hN : (n : Int) * (cp : Int) = (N : Int)) (ho : 10000 < N) :
    Calls Try.prog 27 #[.slice a n c, .int .i64 (cp : Int), .bool co, .bool ba, .slice ax 0 cx, .int .i64 19] w fun e w' => e = .returned (.bool true) ∧ w = w' := by
  have hNb : (N : Int) ≤ 9990000 := by rw [← hN]; exact Int.le_trans (Int.mul_le_mul (show (n : Int) ≤ 10000 by omega) (show (cp : Int) ≤ 999 by omega) (by omega) (by omega)) (by omega)
  have i1 := inB_true.2 (show (1 : Int) ≤ (cp : Int) ∧ (cp : Int) ≤ 999 by omega)
  go_enter Try.func27, Try.ntmps27
  go_wp2_with (go_at_call 14; refine (in_any _ _ _ _).mono ?_; rw [i1]; rintro e w9 ⟨rfl, rfl⟩)
  go_ret
  exact ⟨rfl, rfl⟩
theorem range_mod (n : Nat) (f : Nat → Int) (k : Nat) : (List.range ((k + 1) * n)).map (fun j => Value.int .i64 (f (j % n))) = (List.range (k * n)).map (fun j => Value.int .i64 (f (j % n))) ++ (List.range n).map (fun j => Value.int .i64 (f j)) := by
  apply List.ext_getElem?
  intro i
  rw [Nat.succ_mul]
  rcases Nat.lt_or_ge i (k * n) with h | h
  · rw [List.getElem?_append_left (by simpa using h)]
    simp [h, show i < k * n + n by omega]
  · rw [List.getElem?_append_right (by simpa using h)]
    rcases Nat.lt_or_ge i (k * n + n) with h2 | h2
    · have e : i % n = i - k * n := by
        have h3 : i = (i - k * n) + n * k := by rw [Nat.mul_comm n k]; omega
        have h4 : ((i - k * n) + n * k) % n = (i - k * n) := by rw [Nat.add_mul_mod_self_left]; exact Nat.mod_eq_of_lt (by omega)
        rw [← h3] at h4
        exact h4
      simp [h2, show i - k * n < n by omega, e]
    · simp [show ¬ i < k * n + n by omega, show ¬ i - k * n < n by omega]
theorem range_div (cp : Nat) (f : Nat → Int) (k c : Nat) (hc : c < cp) : (List.range (k * cp + (c + 1))).map (fun j => Value.int .i64 (f (j / cp))) = (List.range (k * cp + c)).map (fun j => Value.int .i64 (f (j / cp))) ++ [Value.int .i64 (f k)] := by
  rw [← Nat.add_assoc, List.range_succ, List.map_append]
  have : (k * cp + c) / cp = k := by rw [Nat.mul_comm, Nat.mul_add_div (by omega), Nat.div_eq_of_lt hc]; rfl
  simp [this]
theorem ownsRow_zero {w : World} {base e size : Nat} {v : Value} {xs : List Value} (h : w.ownsRow base e size v 0 xs) : ∃ a cap, v = .slice a 0 cap := by
  obtain ⟨_, ⟨h, _⟩ | ⟨g, cap, cur, h, _⟩⟩ := h
  · exact ⟨_, _, h⟩
  · exact ⟨_, _, h⟩
set_option maxHeartbeats 8000000 in
theorem ordered_some (n cp N : Nat) (f : Nat → Int) (a ax : Option Addr) (c cx : Nat) (co ba : Bool) (w : World) (h0n : 0 < n) (ha : IntsF w a n f) (hx : IntsF w ax N (ordF n cp co ba f)) (hc : 1 ≤ cp ∧ cp ≤ 999) (hn : n ≤ 10000) (hN : (n : Int) * (cp : Int) = (N : Int)) (ho : N ≤ 10000) :
    Calls Try.prog 27 #[.slice a n c, .int .i64 (cp : Int), .bool co, .bool ba, .slice ax N cx, .int .i64 0] w fun e w' => e = .returned (.bool true) ∧ Below w.heap.size w w' := by
  have i1 := inB_true.2 (show (1 : Int) ≤ (cp : Int) ∧ (cp : Int) ≤ 999 by omega)
  have HNN := Lib.hid (show n * cp = N by exact_mod_cast hN)
  obtain ⟨i0, hi0, hz0, hz1, hz2⟩ := info_parts (show (Try.prog.info? 3).map (fun i => (i.zero, i.size, i.bytes)) = some (some (.int .i64 0), 1, 8) by kernel_rfl)
  cases co
  · go_enter Try.func27, Try.ntmps27
    go_wp2_with (go_at_call 14; refine (in_any _ _ _ _).mono ?_; rw [i1]; rintro e w9 ⟨rfl, rfl⟩)
    go_loopw [13, 50] (fun v ix wr => ∃ k : Nat, ix = .int .i64 k ∧ k ≤ n ∧ wr.ownsRow w.heap.size 3 1 v (k * cp) ((List.range (k * cp)).map fun j => Value.int .i64 (f (j / cp))) ∧ Below w.heap.size w wr) (fun _ ix _ => n - (intOf ix).toNat)
    case atStart => exact ⟨0, rfl, by omega, by rw [Nat.zero_mul]; exact World.ownsRow_nil _ _ _ _, Below.refl _ _⟩
    case round =>
      obtain ⟨k, rfl, hk, hown, hbel⟩ := hrel
      by_cases hkn : k < n
      · obtain ⟨b, off, rfl, hcell⟩ := ha (by omega)
        have d1 := (hbel.cell (lt_of_cell (hcell k hkn))).trans (hcell k hkn)
        have hkc : k * cp + cp ≤ N := by rw [← HNN.out, ← Nat.succ_mul]; exact Nat.mul_le_mul_right cp hkn
        obtain ⟨wq, rfl⟩ : ∃ wq : World, wq = wr := ⟨_, rfl⟩
        clear hcell
        go_wp2_with fail
        go_loopw [13, 55] (fun v ix wr => ∃ q : Nat, ix = .int .i64 q ∧ q ≤ cp ∧ wr.ownsRow w.heap.size 3 1 v (k * cp + q) ((List.range (k * cp + q)).map fun j => Value.int .i64 (f (j / cp))) ∧ Below w.heap.size w wr) (fun _ ix _ => cp - (intOf ix).toNat)
        case atStart => exact ⟨0, rfl, by omega, hown, hbel⟩
        case round =>
          obtain ⟨q, rfl, hq, hown2, hbel2⟩ := hrel
          clear hown hbel
          have hsz := hbel2.size
          by_cases hqc : q < cp
          · go_wp2_with (at_builtin; refine wpList_append_own _ rfl _ _ 34 rfl (w.heap.size) 3 i0 (.int .i64 0) 1 8 Try.underlying34 hi0 hz0 hz1 hz2 rfl (by decide) _ _ _ rfl ((hown2).alloc _) ⟨wr.heap.size, 0, none⟩ 1 1 [.int .i64 (f k)] rfl rfl ?c1 ?c2 ?c3 ?c4 ?c5 ?_)
            case c1 =>
              intro j u hj
              match j, hj with
              | 0, hj => simp at hj; subst hj; simp [Addr.add]
            case c2 => intro u hu; simp at hu; subst hu; rfl
            case c3 => unfold maxLen; omega
            case c4 => omega
            case c5 => simp; omega
            intro v' w1 hown' hgrow _
            have hb3 := below_grown hbel2 hsz hown2 hgrow
            clear hown2 hgrow
            go_wp2_with fail
            go_roundw
            case rel => exact ⟨q + 1, by go_num, by omega, by rw [range_div cp f k q hqc]; exact hown', hb3⟩
            case measure => simp [intOf]; omega
          · obtain rfl : q = cp := by omega
            go_wp2_with fail
            go_roundw
            case rel => exact ⟨k + 1, by go_num, by omega, by rw [Nat.succ_mul]; exact hown2, hbel2⟩
            case measure => simp [intOf]; omega
      · obtain rfl : n = k := by omega
        rw [HNN.out] at hown
        rcases Nat.eq_zero_or_pos N with hN0 | hN0
        · rw [hN0] at hown
          obtain ⟨av, cv, rfl⟩ := ownsRow_zero hown
          have HC := Lib.hid (show ∀ i, i < N → ordF n cp false ba f i = (fun _ => 0 : Nat → Int) i from fun i hi => by omega)
          clear hown
          subst hN0
          cases ba
          · go_wp2_with fail
            have hsb := hbel.size
            refine (same_any 0 0 (ordF n cp false false f) (fun _ => 0) _ _ _ _ _ (hx.below (Nat.le_refl _) hbel) (IntsF.zero _ _ _) (by omega) (by omega)).mono ?_
            rintro e w5 ⟨rfl, hb5⟩
            rw [sameB_true.2 ⟨rfl, HC.out⟩]
            go_wp2
            go_ret
            exact ⟨rfl, hbel.trans (hb5.mono hsb)⟩
          · go_wp2_with fail
            refine wp_loop_rounds 1 ?_
            rw [rounds_succ]
            go_wp2_with fail
            have hsb := hbel.size
            refine (same_any 0 0 (ordF n cp false true f) (fun _ => 0) _ _ _ _ _ (hx.below (Nat.le_refl _) hbel) (IntsF.zero _ _ _) (by omega) (by omega)).mono ?_
            rintro e w5 ⟨rfl, hb5⟩
            rw [sameB_true.2 ⟨rfl, HC.out⟩]
            go_wp2
            go_ret
            exact ⟨rfl, hbel.trans (hb5.mono hsb)⟩
        · obtain ⟨g, cap, rfl, hg, hnc, hcm, hown0⟩ := OwnF.of_row (f := (fun j => f (j / cp))) hown (fun i hi => by simp [hi]) hN0
          clear hown
          cases ba
          · have HC := Lib.hid (show ∀ i, i < N → ordF n cp false false f i = (fun j => f (j / cp)) i from fun i hi => rfl)
            go_wp2_with fail
            have hsb := hbel.size
            refine (same_any N N (ordF n cp false false f) ((fun j => f (j / cp))) _ _ _ _ _ (hx.below (Nat.le_refl _) hbel) hown0.ints (by omega) (by omega)).mono ?_
            rintro e w5 ⟨rfl, hb5⟩
            rw [sameB_true.2 ⟨rfl, HC.out⟩]
            go_wp2
            go_ret
            exact ⟨rfl, hbel.trans (hb5.mono hsb)⟩
          · have HC := Lib.hid (show ∀ i, i < N → ordF n cp false true f i = (fun j => f (j / cp)) (N - 1 - i) from fun i hi => by unfold ordF srcO; rw [← HNN.out]; rfl)
            obtain ⟨wq, rfl⟩ : ∃ wq : World, wq = wr := ⟨_, rfl⟩
            go_wp2_with fail
            go_loopw [16, 17] (fun ax bx wr => ∃ s : Nat, ax = .int .i64 (s : Int) ∧ bx = .int .i64 ((N : Int) - 1 - s) ∧ 2 * s ≤ N + 1 ∧ OwnF wr 3 g N (mid ((fun j => f (j / cp))) 0 N s) ∧ Below w.heap.size w wr) (fun ax _ _ => N - (intOf ax).toNat)
            case atStart => exact ⟨0, rfl, by go_num, by omega, hown0.congr fun j hj => (mid_zero ((fun j => f (j / cp))) 0 N j).symm, hbel⟩
            case round =>
              obtain ⟨s, rfl, rfl, hs, hown2, hbel2⟩ := hrel
              clear hbel
              by_cases hsw : 2 * s + 1 < N
              · obtain ⟨y, hy⟩ : ∃ y : Nat, y + s + 1 = N := ⟨N - 1 - s, by omega⟩
                have e1 : (N : Int) - 1 - s = (y : Int) := by omega
                rw [e1]
                have hxy : s < y := by omega
                have hyk : y < N := by omega
                have c1 := hown2.cell (i := s) (by omega)
                have c2 := hown2.cell (i := y) (by omega)
                rw [mid_at _ (l := 0) (show s = 0 + s by omega) (by omega)] at c1
                rw [mid_at' _ hy (by omega)] at c2
                have f1 := hown2.frozen s
                have f2 := hown2.frozen y
                have HY := Lib.hid hy
                have HO := Lib.hid hown2
                obtain ⟨u1, hu1⟩ : ∃ u, u = ((fun j => f (j / cp))) s := ⟨_, rfl⟩
                obtain ⟨u2, hu2⟩ : ∃ u, u = ((fun j => f (j / cp))) y := ⟨_, rfl⟩
                have HU1 := Lib.hid hu1
                have HU2 := Lib.hid hu2
                have c1' : wr.cell? ⟨g, s, none⟩ = some (.int .i64 u1) := by rw [hu1]; exact c1
                have c2' : wr.cell? ⟨g, y, none⟩ = some (.int .i64 u2) := by rw [hu2]; exact c2
                clear hy e1 hown2 c1 c2 hu1 hu2
                go_wp2_with fail
                go_region
                go_wp2_with fail
                go_roundw
                case rel => exact ⟨s + 1, by go_num, vint (by have := HY.out; omega), by omega, ((HO.out.set s u2).set y u1).drew.congr (fun j _ => by rw [HU1.out, HU2.out]; exact mid_step ((fun j => f (j / cp))) (l := 0) (by omega) HY.out j), ((hbel2.setCell hg _).setCell hg _).drew⟩
                case measure => simp [intOf]; omega
              · have HF := Lib.hid (show ∀ i, i < N → ordF n cp false true f i = mid ((fun j => f (j / cp))) 0 N s i from fun i hi => by
                  rw [HC.out i hi, mid_end ((fun j => f (j / cp))) (by omega) (by omega) i, if_pos ⟨Nat.zero_le _, hi⟩, Nat.zero_add])
                go_wp2_with fail
                have hsb := hbel2.size
                refine (same_any N N (ordF n cp false true f) (mid ((fun j => f (j / cp))) 0 N s) _ _ _ _ _ (hx.below (Nat.le_refl _) hbel2) hown2.ints (by omega) (by omega)).mono ?_
                rintro e w5 ⟨rfl, hb5⟩
                rw [sameB_true.2 ⟨rfl, HF.out⟩]
                go_wp2
                go_ret
                exact ⟨rfl, hbel2.trans (hb5.mono hsb)⟩
  · go_enter Try.func27, Try.ntmps27
    go_wp2_with (go_at_call 14; refine (in_any _ _ _ _).mono ?_; rw [i1]; rintro e w9 ⟨rfl, rfl⟩)
    go_loopw [13, 42] (fun v ix wr => ∃ k : Nat, ix = .int .i64 k ∧ k ≤ cp ∧ wr.ownsRow w.heap.size 3 1 v (k * n) ((List.range (k * n)).map fun j => Value.int .i64 (f (j % n))) ∧ Below w.heap.size w wr) (fun _ ix _ => cp - (intOf ix).toNat)
    case atStart => exact ⟨0, rfl, by omega, by rw [Nat.zero_mul]; exact World.ownsRow_nil _ _ _ _, Below.refl _ _⟩
    case round =>
      obtain ⟨k, rfl, hk, hown, hbel⟩ := hrel
      have hsz := hbel.size
      by_cases hkc : k < cp
      · have hkn : k * n + n ≤ N := by rw [← HNN.out, ← Nat.succ_mul, Nat.mul_comm n cp]; exact Nat.mul_le_mul_right n hkc
        obtain ⟨b, off, rfl, hcell⟩ := ha h0n
        obtain ⟨ad, hade⟩ : ∃ ad : Addr, ad = ⟨b, off, none⟩ := ⟨_, rfl⟩
        have had : ∀ j, j < n → wr.cell? (ad.add j) = some (.int .i64 (f j)) := by
          intro j hj
          have := (hbel.cell (lt_of_cell (hcell j hj))).trans (hcell j hj)
          rw [← this, hade]
          congr 1
          unfold Addr.add
          split <;> simp_all
        rw [← hade]
        have HAD := Lib.hid had
        clear had hade hcell
        go_wp2_with (at_builtin; refine wpList_append_own _ rfl _ _ 34 rfl w.heap.size 3 i0 (.int .i64 0) 1 8 Try.underlying34 hi0 hz0 hz1 hz2 rfl (by decide) _ _ _ rfl hown ad n c ((List.range n).map fun j => Value.int .i64 (f j)) rfl ?c1 ?c2 ?c3 ?c4 ?c5 ?c6 ?_)
        case c1 => simp
        case c2 =>
          intro j u hj
          rcases Nat.lt_or_ge j n with h | h
          · simp [h] at hj
            rw [HAD.out j h, hj]
          · simp [show ¬ j < n by omega] at hj
        case c3 =>
          intro u hu
          simp at hu
          obtain ⟨j, _, rfl⟩ := hu
          rfl
        case c4 => unfold maxLen; omega
        case c5 => omega
        case c6 => omega
        intro v' w1 hown' hgrow _
        have hb3 := hbel.grown hgrow hsz (ownBlock_ge hown)
        clear hown hgrow
        go_wp2_with fail
        go_roundw
        case rel => exact ⟨k + 1, by go_num, by omega, by rw [range_mod n f k, Nat.succ_mul]; exact hown', hb3⟩
        case measure => simp [intOf]; omega
      · obtain rfl : cp = k := by omega
        rw [show cp * n = N by rw [Nat.mul_comm]; exact HNN.out] at hown
        rcases Nat.eq_zero_or_pos N with hN0 | hN0
        · rw [hN0] at hown
          obtain ⟨av, cv, rfl⟩ := ownsRow_zero hown
          have HC := Lib.hid (show ∀ i, i < N → ordF n cp true ba f i = (fun _ => 0 : Nat → Int) i from fun i hi => by omega)
          clear hown
          subst hN0
          cases ba
          · go_wp2_with fail
            have hsb := hbel.size
            refine (same_any 0 0 (ordF n cp true false f) (fun _ => 0) _ _ _ _ _ (hx.below (Nat.le_refl _) hbel) (IntsF.zero _ _ _) (by omega) (by omega)).mono ?_
            rintro e w5 ⟨rfl, hb5⟩
            rw [sameB_true.2 ⟨rfl, HC.out⟩]
            go_wp2
            go_ret
            exact ⟨rfl, hbel.trans (hb5.mono hsb)⟩
          · go_wp2_with fail
            refine wp_loop_rounds 1 ?_
            rw [rounds_succ]
            go_wp2_with fail
            have hsb := hbel.size
            refine (same_any 0 0 (ordF n cp true true f) (fun _ => 0) _ _ _ _ _ (hx.below (Nat.le_refl _) hbel) (IntsF.zero _ _ _) (by omega) (by omega)).mono ?_
            rintro e w5 ⟨rfl, hb5⟩
            rw [sameB_true.2 ⟨rfl, HC.out⟩]
            go_wp2
            go_ret
            exact ⟨rfl, hbel.trans (hb5.mono hsb)⟩
        · obtain ⟨g, cap, rfl, hg, hnc, hcm, hown0⟩ := OwnF.of_row (f := (fun j => f (j % n))) hown (fun i hi => by simp [hi]) hN0
          clear hown
          cases ba
          · have HC := Lib.hid (show ∀ i, i < N → ordF n cp true false f i = (fun j => f (j % n)) i from fun i hi => rfl)
            go_wp2_with fail
            have hsb := hbel.size
            refine (same_any N N (ordF n cp true false f) ((fun j => f (j % n))) _ _ _ _ _ (hx.below (Nat.le_refl _) hbel) hown0.ints (by omega) (by omega)).mono ?_
            rintro e w5 ⟨rfl, hb5⟩
            rw [sameB_true.2 ⟨rfl, HC.out⟩]
            go_wp2
            go_ret
            exact ⟨rfl, hbel.trans (hb5.mono hsb)⟩
          · have HC := Lib.hid (show ∀ i, i < N → ordF n cp true true f i = (fun j => f (j % n)) (N - 1 - i) from fun i hi => by unfold ordF srcO; rw [← HNN.out]; rfl)
            obtain ⟨wq, rfl⟩ : ∃ wq : World, wq = wr := ⟨_, rfl⟩
            go_wp2_with fail
            go_loopw [16, 17] (fun ax bx wr => ∃ s : Nat, ax = .int .i64 (s : Int) ∧ bx = .int .i64 ((N : Int) - 1 - s) ∧ 2 * s ≤ N + 1 ∧ OwnF wr 3 g N (mid ((fun j => f (j % n))) 0 N s) ∧ Below w.heap.size w wr) (fun ax _ _ => N - (intOf ax).toNat)
            case atStart => exact ⟨0, rfl, by go_num, by omega, hown0.congr fun j hj => (mid_zero ((fun j => f (j % n))) 0 N j).symm, hbel⟩
            case round =>
              obtain ⟨s, rfl, rfl, hs, hown2, hbel2⟩ := hrel
              clear hbel
              by_cases hsw : 2 * s + 1 < N
              · obtain ⟨y, hy⟩ : ∃ y : Nat, y + s + 1 = N := ⟨N - 1 - s, by omega⟩
                have e1 : (N : Int) - 1 - s = (y : Int) := by omega
                rw [e1]
                have hxy : s < y := by omega
                have hyk : y < N := by omega
                have c1 := hown2.cell (i := s) (by omega)
                have c2 := hown2.cell (i := y) (by omega)
                rw [mid_at _ (l := 0) (show s = 0 + s by omega) (by omega)] at c1
                rw [mid_at' _ hy (by omega)] at c2
                have f1 := hown2.frozen s
                have f2 := hown2.frozen y
                have HY := Lib.hid hy
                have HO := Lib.hid hown2
                obtain ⟨u1, hu1⟩ : ∃ u, u = ((fun j => f (j % n))) s := ⟨_, rfl⟩
                obtain ⟨u2, hu2⟩ : ∃ u, u = ((fun j => f (j % n))) y := ⟨_, rfl⟩
                have HU1 := Lib.hid hu1
                have HU2 := Lib.hid hu2
                have c1' : wr.cell? ⟨g, s, none⟩ = some (.int .i64 u1) := by rw [hu1]; exact c1
                have c2' : wr.cell? ⟨g, y, none⟩ = some (.int .i64 u2) := by rw [hu2]; exact c2
                clear hy e1 hown2 c1 c2 hu1 hu2
                go_wp2_with fail
                go_region
                go_wp2_with fail
                go_roundw
                case rel => exact ⟨s + 1, by go_num, vint (by have := HY.out; omega), by omega, ((HO.out.set s u2).set y u1).drew.congr (fun j _ => by rw [HU1.out, HU2.out]; exact mid_step ((fun j => f (j % n))) (l := 0) (by omega) HY.out j), ((hbel2.setCell hg _).setCell hg _).drew⟩
                case measure => simp [intOf]; omega
              · have HF := Lib.hid (show ∀ i, i < N → ordF n cp true true f i = mid ((fun j => f (j % n))) 0 N s i from fun i hi => by
                  rw [HC.out i hi, mid_end ((fun j => f (j % n))) (by omega) (by omega) i, if_pos ⟨Nat.zero_le _, hi⟩, Nat.zero_add])
                go_wp2_with fail
                have hsb := hbel2.size
                refine (same_any N N (ordF n cp true true f) (mid ((fun j => f (j % n))) 0 N s) _ _ _ _ _ (hx.below (Nat.le_refl _) hbel2) hown2.ints (by omega) (by omega)).mono ?_
                rintro e w5 ⟨rfl, hb5⟩
                rw [sameB_true.2 ⟨rfl, HF.out⟩]
                go_wp2
                go_ret
                exact ⟨rfl, hbel2.trans (hb5.mono hsb)⟩
set_option maxHeartbeats 2000000 in
theorem ordered_zero (cp : Nat) (f : Nat → Int) (a ax : Option Addr) (c cx : Nat) (co ba : Bool) (w : World) (ha0 : a = none → c = 0) (hc : 1 ≤ cp ∧ cp ≤ 999) :
    Calls Try.prog 27 #[.slice a 0 c, .int .i64 (cp : Int), .bool co, .bool ba, .slice ax 0 cx, .int .i64 0] w fun e w' => e = .returned (.bool true) ∧ Below w.heap.size w w' := by
  have i1 := inB_true.2 (show (1 : Int) ≤ (cp : Int) ∧ (cp : Int) ≤ 999 by omega)
  have HA0 := Lib.hid ha0
  clear ha0
  obtain ⟨i0, hi0, hz0, hz1, hz2⟩ := info_parts (show (Try.prog.info? 3).map (fun i => (i.zero, i.size, i.bytes)) = some (some (.int .i64 0), 1, 8) by kernel_rfl)
  cases co
  · go_enter Try.func27, Try.ntmps27
    go_wp2_with (go_at_call 14; refine (in_any _ _ _ _).mono ?_; rw [i1]; rintro e w9 ⟨rfl, rfl⟩)
    refine wp_loop_rounds 1 ?_
    rw [rounds_succ]
    obtain ⟨v, hv⟩ : ∃ v : Value, v = .slice none 0 0 := ⟨_, rfl⟩
    have hbel := Below.refl w.heap.size w
    clear hv
    cases ba
    · go_wp2_with fail
      have hsb := hbel.size
      refine (same_any 0 0 (fun _ => 0) (fun _ => 0) _ _ _ _ _ (IntsF.zero _ _ _) (IntsF.zero _ _ _) (by omega) (by omega)).mono ?_
      rintro e w5 ⟨rfl, hb5⟩
      rw [sameB_true.2 ⟨rfl, fun _ _ => rfl⟩]
      go_wp2
      go_ret
      exact ⟨rfl, hbel.trans (hb5.mono hsb)⟩
    · go_wp2_with fail
      refine wp_loop_rounds 1 ?_
      rw [rounds_succ]
      go_wp2_with fail
      have hsb := hbel.size
      refine (same_any 0 0 (fun _ => 0) (fun _ => 0) _ _ _ _ _ (IntsF.zero _ _ _) (IntsF.zero _ _ _) (by omega) (by omega)).mono ?_
      rintro e w5 ⟨rfl, hb5⟩
      rw [sameB_true.2 ⟨rfl, fun _ _ => rfl⟩]
      go_wp2
      go_ret
      exact ⟨rfl, hbel.trans (hb5.mono hsb)⟩
  · go_enter Try.func27, Try.ntmps27
    go_wp2_with (go_at_call 14; refine (in_any _ _ _ _).mono ?_; rw [i1]; rintro e w9 ⟨rfl, rfl⟩)
    go_loopw [13, 42] (fun v ix wr => ∃ k : Nat, ix = .int .i64 k ∧ k ≤ cp ∧ wr.ownsRow w.heap.size 3 1 v 0 [] ∧ Below w.heap.size w wr) (fun _ ix _ => cp - (intOf ix).toNat)
    case atStart => exact ⟨0, rfl, by omega, World.ownsRow_nil _ _ _ _, Below.refl _ _⟩
    case round =>
      obtain ⟨k, rfl, hk, hown, hbel⟩ := hrel
      have hsz := hbel.size
      by_cases hkc : k < cp
      · cases a with
        | none =>
          obtain rfl := HA0.out rfl
          go_wp2_with (at_builtin; refine wpList_append_own_none rfl _ _ 34 rfl w.heap.size 3 i0 1 Try.underlying34 hi0 _ _ _ rfl hown rfl ?_)
          go_roundw
          case rel => exact ⟨k + 1, by go_num, by omega, hown, hbel⟩
          case measure => simp [intOf]; omega
        | some ad =>
          go_wp2_with (at_builtin; refine wpList_append_own _ rfl _ _ 34 rfl w.heap.size 3 i0 (.int .i64 0) 1 8 Try.underlying34 hi0 hz0 hz1 hz2 rfl (by decide) _ _ _ rfl hown ad 0 c [] rfl rfl ?c2 ?c3 ?c4 ?c5 ?c6 ?_)
          case c2 => intro j u hj; simp at hj
          case c3 => intro u hu; simp at hu
          case c4 => unfold maxLen; omega
          case c5 => omega
          case c6 => omega
          intro v' w1 hown' hgrow _
          have hb3 := hbel.grown hgrow hsz (ownBlock_ge hown)
          clear hown hgrow
          go_wp2_with fail
          go_roundw
          case rel => exact ⟨k + 1, by go_num, by omega, hown', hb3⟩
          case measure => simp [intOf]; omega
      · obtain ⟨av, cv, rfl⟩ := ownsRow_zero hown
        clear hown
        cases ba
        · go_wp2_with fail
          have hsb := hbel.size
          refine (same_any 0 0 (fun _ => 0) (fun _ => 0) _ _ _ _ _ (IntsF.zero _ _ _) (IntsF.zero _ _ _) (by omega) (by omega)).mono ?_
          rintro e w5 ⟨rfl, hb5⟩
          rw [sameB_true.2 ⟨rfl, fun _ _ => rfl⟩]
          go_wp2
          go_ret
          exact ⟨rfl, hbel.trans (hb5.mono hsb)⟩
        · go_wp2_with fail
          refine wp_loop_rounds 1 ?_
          rw [rounds_succ]
          go_wp2_with fail
          have hsb := hbel.size
          refine (same_any 0 0 (fun _ => 0) (fun _ => 0) _ _ _ _ _ (IntsF.zero _ _ _) (IntsF.zero _ _ _) (by omega) (by omega)).mono ?_
          rintro e w5 ⟨rfl, hb5⟩
          rw [sameB_true.2 ⟨rfl, fun _ _ => rfl⟩]
          go_wp2
          go_ret
          exact ⟨rfl, hbel.trans (hb5.mono hsb)⟩
end Go.Proofs.Ytpbnkkeplhgepaa.PO
