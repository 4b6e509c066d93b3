
/-
  The reference's Shown turns the stretches round by what stands there.
-/
import Derived.Test.YtpbnkkeplhgepaaBidiOrder
namespace Go.Proofs.Ytpbnkkeplhgepaa.BO
open Go.RowKit Go.Law Go.Law.Bidi
set_option linter.unusedVariables false
set_option linter.unusedSimpArgs false
set_option maxRecDepth 100000

def ShownPost (n : Nat) (L : Nat → Int) (w : World) (e : Ending) (w' : World) : Prop :=
  Below w.heap.size w w' ∧ ∃ a cap F, e = .returned (.slice a n cap) ∧ IntsF w' a n F ∧ Passes (byWhat L) n (mostL L n).toNat (mostL L n).toNat F
set_option maxHeartbeats 1000000 in
theorem shown_none (L : Nat → Int) (a : Option Addr) (c : Nat) (w : World) : Calls Try.prog 19 #[.slice a 0 c] w (ShownPost 0 L w) := by
  go_enter Try.func19, Try.ntmps19
  go_wp2
  refine wp_loop_rounds 1 ?_
  rw [rounds_succ]
  go_wp2
  refine wp_loop_rounds 1 ?_
  rw [rounds_succ]
  go_wp2
  refine wp_loop_rounds 1 ?_
  rw [rounds_succ]
  go_wp2
  go_ret
  exact ⟨Below.refl _ _, none, 0, fun i => i, rfl, IntsF.zero _ _ _, fun i hi => by omega⟩
theorem PassTo.past {p : Nat → Prop} {n : Nat} {f f' : Nat → Int} (h : PassTo p n f f' n) : PassTo p n f f' (n + 1) := by
  intro j hj
  obtain ⟨h1, h2⟩ := (h j hj).2 hj
  exact ⟨fun hij => by omega, fun _ => ⟨h1, fun l k hr a b => ⟨by have := (h2 l k hr a b).1; omega, (h2 l k hr a b).2⟩⟩⟩
set_option maxHeartbeats 4000000 in
theorem shown_some (n : Nat) (L : Nat → Int) (b off c : Nat) (w : World) (hc : ∀ i, i < n → w.cell? ⟨b, off + i, none⟩ = some (.int .i64 (L i))) (h0 : 0 < n) (hn : n ≤ 100000) (hL : ∀ i, i < n → 0 ≤ L i ∧ L i ≤ 126) :
    Calls Try.prog 19 #[.slice (some ⟨b, off, none⟩) n c] w (ShownPost n L w) := by
  have hmax : ∀ x y : Int, (if x < y then y else x) = max x y := fun x y => by omega
  have HL := Lib.hid hL
  have HC := Lib.hid hc
  clear hL hc
  obtain ⟨i0, hi0, hz0, hz1, hz2⟩ := info_parts (show (Try.prog.info? 3).map (fun i => (i.zero, i.size, i.bytes)) = some (some (.int .i64 0), 1, 8) by kernel_rfl)
  go_enter Try.func19, Try.ntmps19
  go_wp2
  go_loopw [3, 15] (fun v ix wr => ∃ k : Nat, ix = .int .i64 k ∧ k ≤ n ∧ wr.ownsRow w.heap.size 3 1 v k ((List.range k).map fun (i : Nat) => Value.int .i64 (i : Int)) ∧ Below w.heap.size w wr) (fun _ ix _ => n - (intOf ix).toNat)
  case atStart => exact ⟨0, rfl, by omega, World.ownsRow_nil _ _ _ _, Below.refl _ _⟩
  case round =>
    obtain ⟨k, rfl, hk, hown, hbel⟩ := hrel
    by_cases hkn : k < n
    · have hsz := hbel.size
      go_wp2_with (at_builtin; refine wpList_append_own _ rfl _ _ 34 rfl (w.heap.size) 3 i0 (.int .i64 0) 1 8 Try.underlying34 hi0 hz0 hz1 hz2 rfl (by decide) _ _ _ rfl ((hown).alloc _) ⟨wr.heap.size, 0, none⟩ 1 1 [.int .i64 k] rfl rfl ?c1 ?c2 ?c3 ?c4 ?c5 ?_)
      case c1 =>
        intro j u hj
        match j, hj with
        | 0, hj => simp at hj; subst hj; simp [Addr.add]
      case c2 => intro u hu; simp at hu; subst hu; rfl
      case c3 => unfold maxLen; omega
      case c4 => omega
      case c5 => simp; omega
      intro v' w1 hown' hgrow _
      go_wp2
      go_roundw
      case rel =>
        exact ⟨k + 1, by go_num, by omega, by rw [List.range_succ, List.map_append]; exact hown', below_grown hbel hsz hown hgrow⟩
      case measure => simp [intOf]; omega
    · obtain rfl : k = n := by omega
      obtain ⟨g, cap, rfl, hg, hnc, hcm, hown0⟩ := OwnF.of_row (f := fun i => (i : Int)) hown (fun i hi => by simp [hi]) h0
      clear hown
      obtain ⟨w0, rfl⟩ : ∃ w0 : World, w0 = wr := ⟨_, rfl⟩
      have hL : ∀ j, j < k → w0.cell? ⟨b, off + j, none⟩ = some (.int .i64 (L j)) := fun j hj => by rw [hbel.cell (lt_of_cell (HC.out j hj))]; exact HC.out j hj
      have HK := Lib.hid hL
      clear hL
      go_wp2
      go_loop [5, 25] (fun mo ix => ∃ q : Nat, ix = .int .i64 q ∧ q ≤ k ∧ mo = .int .i64 (mostL L q)) (fun _ ix => k - (intOf ix).toNat)
      case atStart => exact ⟨0, rfl, by omega, rfl⟩
      case round =>
        obtain ⟨q, rfl, hq, rfl⟩ := hrel
        by_cases hqk : q < k
        · have d1 := HK.out q hqk
          go_wp2
          go_round
          case rel => exact ⟨q + 1, by go_num, by omega, rfl⟩
          case measure => simp [intOf]; omega
        · obtain rfl : q = k := by omega
          have hm0 := mostL_nonneg L q
          have hm1 := mostL_le L q (fun i hi => (HL.out i hi).2) q (Nat.le_refl _)
          obtain ⟨t, ht⟩ : ∃ t : Nat, mostL L q = t := ⟨(mostL L q).toNat, by omega⟩
          rw [ht] at hm0 hm1 ⊢
          have HT := Lib.hid ht
          clear ht
          go_wp2
          go_loopw [8] (fun mo wr => ∃ s : Nat, s ≤ t ∧ mo = .int .i64 ((t - s : Nat) : Int) ∧ ∃ F, Passes (byWhat L) q t s F ∧ OwnF wr 3 g q F ∧ Below w.heap.size w wr) (fun mo _ => (intOf mo).toNat)
          case atStart => exact ⟨0, by omega, by simp, fun j => (j : Int), fun i _ => rfl, hown0, hbel⟩
          case round =>
            obtain ⟨s, hs, rfl, F, hreach, hown, hbel1⟩ := hrel
            obtain ⟨m, hm⟩ : ∃ m, m = t - s := ⟨_, rfl⟩
            rw [← hm]
            have HQ := Lib.hid hm
            have hmb : m ≤ t := by omega
            clear hown0 hbel hm HK
            by_cases hm1 : 0 < m
            · obtain ⟨w1, rfl⟩ : ∃ w1 : World, w1 = wr := ⟨_, rfl⟩
              have hkept := (what_place hs hreach).2
              have HKp := Lib.hid hkept
              clear hkept
              have hm2 : decide ((1 : Int) ≤ (m : Int)) = true := by simp; omega
              go_wp2
              go_loopw [9, 10] (fun fx ix wr => ∃ l i : Nat, fx = .int .i64 l ∧ ix = .int .i64 i ∧ l ≤ i ∧ i ≤ q + 1 ∧ (i = q + 1 → l = i) ∧ (l = 0 ∨ q < l ∨ ¬ byWhat L m F (l - 1)) ∧ (∀ j, l ≤ j → j < i → byWhat L m F j) ∧ ∃ F', PassTo (byWhat L m F) q F F' l ∧ OwnF wr 3 g q F' ∧ Below w.heap.size w wr) (fun _ ix _ => q + 1 - (intOf ix).toNat)
              case atStart => exact ⟨0, 0, rfl, rfl, by omega, by omega, fun _ => rfl, .inl rfl, fun j h1 h2 => by omega, F, PassTo.zero _ _ _, hown, hbel1⟩
              case round =>
                obtain ⟨l, i, rfl, rfl, hli, hi, hlast, hedge, hall, F', hpass, hown', hbel⟩ := hrel
                clear hown hbel1
                have HE := Lib.hid hedge
                have HP := Lib.hid hpass
                have HA := Lib.hid hall
                have HZ := Lib.hid hlast
                clear hedge hpass hall hlast
                by_cases hiq : i < q
                · have hF : F' i = F i := (HP.out i hiq).1 hli
                  obtain ⟨k0, k1, _⟩ := HKp.out i hiq
                  obtain ⟨x, hx⟩ : ∃ x : Nat, F i = x := ⟨(F i).toNat, by omega⟩
                  have d1 := hown'.cell hiq
                  rw [hF, hx] at d1
                  have hxq : x < q := by omega
                  have d2 : wr.cell? ⟨b, off + x, none⟩ = some (.int .i64 (L x)) := by rw [hbel.cell (lt_of_cell (HC.out x hxq))]; exact HC.out x hxq
                  have HW := Lib.hid (show byWhat L m F i ↔ (m : Int) ≤ L x by unfold byWhat; rw [hx]; rfl)
                  clear hF hx k0 k1
                  by_cases hp : (m : Int) ≤ L x
                  · go_wp2
                    go_roundw
                    case rel => exact ⟨l, i + 1, rfl, by go_num, by omega, by omega, fun h => by omega, HE.out, fun j h1 h2 => by rcases Nat.lt_or_ge j i with hj | hj; exact HA.out j h1 hj; rw [show j = i by omega]; exact HW.out.2 hp, F', HP.out, hown', hbel⟩
                    case measure => simp [intOf]; omega
                  · have HN := Lib.hid (show i = q ∨ ¬ byWhat L m F i from .inr fun hh => hp (HW.out.1 hh))
                    obtain ⟨w2, rfl⟩ : ∃ w2 : World, w2 = wr := ⟨_, rfl⟩
                    go_wp2
                    go_loopw [11, 12] (fun ax bx wr => ∃ s : Nat, ax = .int .i64 ((l + s : Nat) : Int) ∧ bx = .int .i64 ((i : Int) - 1 - s) ∧ 2 * s ≤ i - l + 1 ∧ OwnF wr 3 g q (mid F' l i s) ∧ Below w.heap.size w wr) (fun ax _ _ => i - (intOf ax).toNat)
                    case atStart => exact ⟨0, by go_num, by go_num, by omega, hown'.congr fun j hj => (mid_zero _ _ _ _).symm, hbel⟩
                    case round =>
                      obtain ⟨s, rfl, rfl, hs, hown2, hbel2⟩ := hrel
                      by_cases hsw : 2 * s + 1 < i - l
                      · obtain ⟨x, hx⟩ : ∃ x : Nat, x = l + s := ⟨_, rfl⟩
                        obtain ⟨y, hy⟩ : ∃ y : Nat, y + s + 1 = i := ⟨i - 1 - s, by omega⟩
                        have e1 : (i : Int) - 1 - s = (y : Int) := by omega
                        rw [← hx, e1]
                        have hxy : x < y := by omega
                        have hyk : y < q := by omega
                        have c1 := hown2.cell (i := x) (by omega)
                        have c2 := hown2.cell (i := y) (by omega)
                        rw [mid_at _ hx hsw] at c1
                        rw [mid_at' _ hy hsw] at c2
                        have f1 := hown2.frozen x
                        have f2 := hown2.frozen y
                        have HX := Lib.hid hx
                        have HY := Lib.hid hy
                        have HO := Lib.hid hown2
                        clear hx hy e1 hown2
                        go_wp2
                        go_region
                        go_wp2
                        go_roundw
                        case rel => exact ⟨s + 1, vint (by have := HX.out; omega), vint (by have := HY.out; omega), by omega, ((HO.out.set x (F' y)).set y (F' x)).drew.congr (fun j _ => mid_step F' HX.out HY.out j), ((hbel2.setCell hg _).setCell hg _).drew⟩
                        case measure => simp [intOf]; have := HX.out; omega
                      · go_wp2
                        go_roundw
                        case rel =>
                          refine ⟨i + 1, i + 1, by go_num, by go_num, by omega, by omega, fun _ => rfl, ?_, fun j h1 h2 => by omega, mid F' l i s, ?_, hown2, hbel2⟩
                          · rcases HN.out with h1 | h1
                            · exact .inr (.inl (by omega))
                            · exact .inr (.inr (by simpa using h1))
                          · by_cases hr : l < i
                            · exact HP.out.turn ⟨hr, by omega, HA.out, by rcases HE.out with h1 | h1 | h1; exact .inl h1; omega; exact .inr h1, HN.out⟩ (fun j hj => mid_end _ (by omega) hs j)
                            · have hl : l = i := by omega
                              have e : ∀ j, j < q → mid F' l i s j = F' j := fun j hj => by rw [mid_end _ (by omega) hs j, if_neg (by omega)]
                              have hp := HP.out
                              rw [hl] at hp
                              rcases HN.out with h1 | h1
                              · have hpl : PassTo (byWhat L m F) q F F' q := by rw [h1] at hp; exact hp
                                rw [show i + 1 = q + 1 by omega]
                                exact (PassTo.past hpl).congr e
                              · exact (hp.skip h1).congr e
                        case measure => simp [intOf]; omega
                · by_cases hiq' : i = q
                  · have HN := Lib.hid (show i = q ∨ ¬ byWhat L m F i from .inl hiq')
                    have hiq1 : i ≤ q := by omega
                    clear hiq'
                    obtain ⟨w2, rfl⟩ : ∃ w2 : World, w2 = wr := ⟨_, rfl⟩
                    go_wp2
                    go_loopw [11, 12] (fun ax bx wr => ∃ s : Nat, ax = .int .i64 ((l + s : Nat) : Int) ∧ bx = .int .i64 ((i : Int) - 1 - s) ∧ 2 * s ≤ i - l + 1 ∧ OwnF wr 3 g q (mid F' l i s) ∧ Below w.heap.size w wr) (fun ax _ _ => i - (intOf ax).toNat)
                    case atStart => exact ⟨0, by go_num, by go_num, by omega, hown'.congr fun j hj => (mid_zero _ _ _ _).symm, hbel⟩
                    case round =>
                      obtain ⟨s, rfl, rfl, hs, hown2, hbel2⟩ := hrel
                      by_cases hsw : 2 * s + 1 < i - l
                      · obtain ⟨x, hx⟩ : ∃ x : Nat, x = l + s := ⟨_, rfl⟩
                        obtain ⟨y, hy⟩ : ∃ y : Nat, y + s + 1 = i := ⟨i - 1 - s, by omega⟩
                        have e1 : (i : Int) - 1 - s = (y : Int) := by omega
                        rw [← hx, e1]
                        have hxy : x < y := by omega
                        have hyk : y < q := by omega
                        have c1 := hown2.cell (i := x) (by omega)
                        have c2 := hown2.cell (i := y) (by omega)
                        rw [mid_at _ hx hsw] at c1
                        rw [mid_at' _ hy hsw] at c2
                        have f1 := hown2.frozen x
                        have f2 := hown2.frozen y
                        have HX := Lib.hid hx
                        have HY := Lib.hid hy
                        have HO := Lib.hid hown2
                        clear hx hy e1 hown2
                        go_wp2
                        go_region
                        go_wp2
                        go_roundw
                        case rel => exact ⟨s + 1, vint (by have := HX.out; omega), vint (by have := HY.out; omega), by omega, ((HO.out.set x (F' y)).set y (F' x)).drew.congr (fun j _ => mid_step F' HX.out HY.out j), ((hbel2.setCell hg _).setCell hg _).drew⟩
                        case measure => simp [intOf]; have := HX.out; omega
                      · go_wp2
                        go_roundw
                        case rel =>
                          refine ⟨i + 1, i + 1, by go_num, by go_num, by omega, by omega, fun _ => rfl, ?_, fun j h1 h2 => by omega, mid F' l i s, ?_, hown2, hbel2⟩
                          · rcases HN.out with h1 | h1
                            · exact .inr (.inl (by omega))
                            · exact .inr (.inr (by simpa using h1))
                          · by_cases hr : l < i
                            · exact HP.out.turn ⟨hr, by omega, HA.out, by rcases HE.out with h1 | h1 | h1; exact .inl h1; omega; exact .inr h1, HN.out⟩ (fun j hj => mid_end _ (by omega) hs j)
                            · have hl : l = i := by omega
                              have e : ∀ j, j < q → mid F' l i s j = F' j := fun j hj => by rw [mid_end _ (by omega) hs j, if_neg (by omega)]
                              have hp := HP.out
                              rw [hl] at hp
                              rcases HN.out with h1 | h1
                              · have hpl : PassTo (byWhat L m F) q F F' q := by rw [h1] at hp; exact hp
                                rw [show i + 1 = q + 1 by omega]
                                exact (PassTo.past hpl).congr e
                              · exact (hp.skip h1).congr e
                        case measure => simp [intOf]; omega
                  · have hl := HZ.out (by omega)
                    go_wp2
                    go_roundw
                    case rel => exact ⟨s + 1, by have := HQ.out; omega, by have := HQ.out; rw [show t - (s + 1) = m - 1 by omega]; go_num, F', ⟨F, hreach, by rw [← HQ.out]; exact HP.out.done (by omega)⟩, hown', hbel⟩
                    case measure => simp [intOf]; omega
            · obtain rfl : m = 0 := by omega
              go_wp2
              go_ret
              refine ⟨hbel1, _, _, F, rfl, hown.ints, ?_⟩
              have hq' := HQ.out
              have ht : (mostL L q).toNat = t := by rw [HT.out]; rfl
              rw [ht]
              have : s = t := by omega
              rw [this] at hreach
              exact hreach
end Go.Proofs.Ytpbnkkeplhgepaa.BO
