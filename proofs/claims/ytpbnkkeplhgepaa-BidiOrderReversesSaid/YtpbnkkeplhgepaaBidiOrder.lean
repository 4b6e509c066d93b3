
/-
  bidi.Order turns the stretches of each level round, from the greatest level down.
-/
import Derived.Test.YtpbnkkeplhgepaaProg
import Derived.Test.YtpbnkkeplhgepaaBidiPlain
import Derived.Test.YtpbnkkeplhgepaaCommon
import Derived.WalkLawsBesides
import Derived.Lib.Hide
import Derived.Deep.QuietTactic
import Derived.BigQuiet
import Derived.BigRegion
namespace Go.Proofs.Ytpbnkkeplhgepaa.BO
open Go.RowKit Go.Law Go.Law.Bidi
set_option linter.unusedVariables false
set_option linter.unusedSimpArgs false
set_option maxRecDepth 100000

/-- the greatest level -/
def mostL (L : Nat → Int) : Nat → Int
  | 0 => 0
  | k + 1 => max (mostL L k) (L k)
theorem mostL_nonneg (L : Nat → Int) : ∀ k, 0 ≤ mostL L k
  | 0 => Int.le_refl _
  | k + 1 => by have := mostL_nonneg L k; unfold mostL; omega
theorem mostL_le (L : Nat → Int) (n : Nat) (h : ∀ i, i < n → L i ≤ 126) : ∀ k, k ≤ n → mostL L k ≤ 126
  | 0, _ => by unfold mostL; omega
  | k + 1, hk => by have := mostL_le L n h k (by omega); have := h k (by omega); unfold mostL; omega
def OrderPost (n : Nat) (L : Nat → Int) (w : World) (e : Ending) (w' : World) : Prop :=
  Below w.heap.size w w' ∧
  ((∀ i, i < n → 0 ≤ L i ∧ L i ≤ 126) → ∃ g F, e = .returned (.tuple #[.slice (some ⟨g, 0, none⟩) n n, .int .i64 0]) ∧ w.heap.size ≤ g ∧ OwnF w' 3 g n F ∧ Passes (byPlace L) n (mostL L n).toNat (mostL L n).toNat F) ∧
  (¬ (∀ i, i < n → 0 ≤ L i ∧ L i ≤ 126) → e = .returned (.tuple #[.slice none 0 0, .int .i64 2]))
theorem make_ints (n : Nat) (hn : n ≤ 100000) (w : World) : (Instr.makeSlice 34 (.int .i64 (n : Int)) (.int .i64 (n : Int))).run Try.prog w = .ok (.slice (some ⟨w.heap.size, 0, none⟩) n n) (w.alloc (.cells (madeCells #[.int .i64 0] n) 3)) := by
  obtain ⟨i0, hi, hz0, hz1, hz2⟩ := info_parts (show (Try.prog.info? 3).map (fun i => (i.zero, i.size, i.bytes)) = some (some (.int .i64 0), 1, 8) by kernel_rfl)
  have := run_make (P := Try.prog) w 34 3 i0 (.int .i64 0) Try.underlying34 hi hz0 .i64 .i64 (n : Int) (n : Int) (by omega) (by omega) (by rw [hz2]; omega) (by omega)
  rw [hz1] at this
  simpa [Value.cells] using this
set_option maxHeartbeats 1000000 in
theorem order_large (n : Nat) (a : Option Addr) (c : Nat) (w : World) (hn : 100000 < n) :
    Calls Try.prog 17 #[.slice a n c] w fun e w' => e = .returned (.tuple #[.slice none 0 0, .int .i64 3]) ∧ Below w.heap.size w w' := by
  go_enter Try.func17, Try.ntmps17
  go_wp2
  go_ret2
  exact ⟨rfl, Below.refl _ _⟩
set_option maxHeartbeats 4000000 in
theorem order_any (n : Nat) (L : Nat → Int) (a : Option Addr) (c : Nat) (w : World) (ha : IntsF w a n L) (hn : n ≤ 100000) :
    Calls Try.prog 17 #[.slice a n c] w (OrderPost n L w) := by
  have hmk := make_ints n hn
  have hmax : ∀ x y : Int, (if x < y then y else x) = max x y := fun x y => by omega
  go_enter Try.func17, Try.ntmps17
  go_wp2
  go_loopw [20, 4] (fun ix mo wr => ∃ k : Nat, ix = .int .i64 k ∧ k ≤ n ∧ mo = .int .i64 (mostL L k) ∧ (∀ j, j < k → 0 ≤ L j ∧ L j ≤ 126) ∧ OwnF wr 3 w.heap.size n (fun j => if j < k then (j : Int) else 0) ∧ Below w.heap.size w wr) (fun ix _ _ => n - (intOf ix).toNat)
  case atStart => exact ⟨0, rfl, by omega, rfl, fun j hj => by omega, (OwnF.make 3 n).congr fun i hi => by simp, (Below.refl _ _).alloc (Nat.le_refl _) _⟩
  case round =>
    obtain ⟨k, rfl, hk, rfl, hall, hown, hbel⟩ := hrel
    by_cases hkn : k < n
    · obtain ⟨b, off, rfl, hc⟩ := ha (by omega)
      have d1 : wr.cell? ⟨b, off + k, none⟩ = some (.int .i64 (L k)) := by rw [hbel.cell (lt_of_cell (hc k hkn))]; exact hc k hkn
      have d2 := hown.cell hkn
      have d3 := hown.frozen k
      rw [if_neg (Nat.lt_irrefl k)] at d2
      have HA := Lib.hid hall
      clear hall hc
      by_cases hr : 0 ≤ L k ∧ L k ≤ 126
      · go_wp2
        go_roundw
        case rel => 
          refine ⟨k + 1, by go_num, by omega, rfl, fun j hj => by rcases Nat.lt_or_ge j k with h | h; exact HA.out j h; rw [show j = k by omega]; exact hr, ?_, hbel.setCell (Nat.le_refl _) _⟩
          refine (hown.set k (k : Int)).congr fun i hi => ?_
          unfold upd
          by_cases h : i = k
          · subst h; rw [if_pos rfl, if_pos (by omega)]
          · rw [if_neg h]; by_cases h' : i < k
            · simp only [if_pos h', if_pos (show i < k + 1 by omega)]
            · simp only [if_neg h', if_neg (show ¬ i < k + 1 by omega)]
        case measure => simp [intOf]; omega
      · have HR := Lib.hid hr
        clear hr
        go_wp2
        all_goals first | (exfalso; have := HR.out; omega) | skip
        all_goals
          go_ret2
          exact ⟨hbel, fun h => absurd (h k hkn) HR.out, fun _ => rfl⟩
    · obtain rfl : k = n := by omega
      have hm0 := mostL_nonneg L k
      have hm1 := mostL_le L k (fun i hi => (hall i hi).2) k (Nat.le_refl _)
      obtain ⟨t, ht⟩ : ∃ t : Nat, mostL L k = t := ⟨(mostL L k).toNat, by omega⟩
      rw [ht] at hm0 hm1 ⊢
      have HT := Lib.hid ht
      have HA := Lib.hid hall
      have hown0 := hown.congr (f' := fun j => (j : Int)) (fun i hi => by rw [if_pos hi])
      clear hall ht hown
      obtain ⟨w0, rfl⟩ : ∃ w0 : World, w0 = wr := ⟨_, rfl⟩
      go_wp2
      go_loopw [4] (fun mo wr => ∃ q : Nat, q ≤ t ∧ mo = .int .i64 ((t - q : Nat) : Int) ∧ ∃ F, Passes (byPlace L) k t q F ∧ OwnF wr 3 w.heap.size k F ∧ Below w.heap.size w wr) (fun mo _ => (intOf mo).toNat)
      case atStart => exact ⟨0, by omega, by simp, fun j => (j : Int), fun i _ => rfl, hown0, hbel⟩
      case round =>
        obtain ⟨q, hq, rfl, F, hreach, hown, hbel1⟩ := hrel
        obtain ⟨m, hm⟩ : ∃ m, m = t - q := ⟨_, rfl⟩
        rw [← hm]
        have HQ := Lib.hid hm
        have hmb : m ≤ t := by omega
        clear hown0 hbel hm
        by_cases hm1 : 0 < m
        · obtain ⟨w1, rfl⟩ : ∃ w1 : World, w1 = wr := ⟨_, rfl⟩
          go_wp2
          go_loopw [8] (fun ix wr => ∃ i : Nat, ix = .int .i64 i ∧ i ≤ k + 1 ∧ (i = 0 ∨ k < i ∨ ¬ byPlace L m F (i - 1)) ∧ ∃ F', PassTo (byPlace L m F) k F F' i ∧ OwnF wr 3 w.heap.size k F' ∧ Below w.heap.size w wr) (fun ix _ => k + 1 - (intOf ix).toNat)
          case atStart => exact ⟨0, rfl, by omega, .inl rfl, F, PassTo.zero _ _ _, hown, hbel1⟩
          case round =>
            obtain ⟨i, rfl, hi, hedge, F', hpass, hown', hbel⟩ := hrel
            clear hown hbel1
            have HE := Lib.hid hedge
            have HP := Lib.hid hpass
            clear hedge hpass
            by_cases hik : i < k
            · obtain ⟨b, off, rfl, hc⟩ := ha (by omega)
              have hL : ∀ j, j < k → wr.cell? ⟨b, off + j, none⟩ = some (.int .i64 (L j)) := fun j hj => by rw [hbel.cell (lt_of_cell (hc j hj))]; exact hc j hj
              have HL := Lib.hid hL
              have d1 := hL i hik
              clear hc hL
              by_cases hp : (m : Int) ≤ L i
              · obtain ⟨w2, rfl⟩ : ∃ w2 : World, w2 = wr := ⟨_, rfl⟩
                go_wp2
                go_loop [9] (fun tx => ∃ h : Nat, tx = .int .i64 h ∧ i ≤ h ∧ h ≤ k ∧ ∀ j, i ≤ j → j < h → byPlace L m F j) (fun tx => k - (intOf tx).toNat)
                case atStart => exact ⟨i, rfl, by omega, by omega, fun j h1 h2 => by omega⟩
                case round =>
                  obtain ⟨h, rfl, hih, hhk, hall⟩ := hrel
                  have HH := Lib.hid hall
                  clear hall
                  by_cases hn : h < k
                  · have d2 := HL.out h hn
                    by_cases hp2 : (m : Int) ≤ L h
                    · go_wp2
                      go_round
                      case rel => exact ⟨h + 1, by go_num, by omega, by omega, fun j h1 h2 => by rcases Nat.lt_or_ge j h with hj | hj; exact HH.out j h1 hj; rw [show j = h by omega]; exact hp2⟩
                      case measure => simp [intOf]; omega
                    · have HR := Lib.hid (show Run (byPlace L m F) k i h by
                        refine ⟨?_, by omega, HH.out, ?_, .inr hp2⟩
                        · rcases Nat.lt_or_ge i h with hj | hj
                          · exact hj
                          · exact absurd (show (m : Int) ≤ L h by rw [show h = i by omega]; exact hp) hp2
                        · rcases HE.out with h1 | h1 | h1
                          · exact .inl h1
                          · omega
                          · exact .inr h1)
                      go_wp2
                      have hr1 := HR.out.1
                      have hr2 := HR.out.2.1
                      go_loopw [10, 11] (fun ax bx wr => ∃ s : Nat, ax = .int .i64 ((i + s : Nat) : Int) ∧ bx = .int .i64 ((h : Int) - 1 - s) ∧ 2 * s ≤ h - i + 1 ∧ OwnF wr 3 w.heap.size k (mid F' i h s) ∧ Below w.heap.size w wr) (fun ax _ _ => h - (intOf ax).toNat)
                      case atStart => exact ⟨0, by go_num, by go_num, by omega, hown'.congr fun j hj => (mid_zero _ _ _ _).symm, hbel⟩
                      case round =>
                        obtain ⟨s, rfl, rfl, hs, hown2, hbel2⟩ := hrel
                        by_cases hsw : 2 * s + 1 < h - i
                        · obtain ⟨x, hx⟩ : ∃ x : Nat, x = i + s := ⟨_, rfl⟩
                          obtain ⟨y, hy⟩ : ∃ y : Nat, y + s + 1 = h := ⟨h - 1 - s, by omega⟩
                          have e1 : (h : Int) - 1 - s = (y : Int) := by omega
                          rw [← hx, e1]
                          have hxy : x < y := by omega
                          have hyk : y < k := by omega
                          have c1 := hown2.cell (i := x) (by omega)
                          have c2 := hown2.cell (i := y) (by omega)
                          rw [mid_at _ hx hsw] at c1
                          rw [mid_at' _ hy hsw] at c2
                          have f1 := hown2.frozen x
                          have f2 := hown2.frozen y
                          have HX := Lib.hid hx
                          have HY := Lib.hid hy
                          have HO := Lib.hid hown2
                          clear hx hy e1 hown2
                          go_wp2
                          go_region
                          go_wp2
                          go_roundw
                          case rel => exact ⟨s + 1, vint (by have := HX.out; omega), vint (by have := HY.out; omega), by omega, ((HO.out.set x (F' y)).set y (F' x)).drew.congr (fun j _ => mid_step F' HX.out HY.out j), ((hbel2.setCell (Nat.le_refl _) _).setCell (Nat.le_refl _) _).drew⟩
                          case measure => simp [intOf]; have := HX.out; omega
                        · go_wp2
                          go_roundw
                          case rel => exact ⟨h + 1, by go_num, by omega, by rcases HR.out.2.2.2.2 with h1 | h1; exact .inr (.inl (by omega)); exact .inr (.inr (by simpa using h1)), mid F' i h s, HP.out.turn HR.out (fun j hj => mid_end _ (by omega) hs j), hown2, hbel2⟩
                          case measure => simp [intOf]; omega
                  · have HR := Lib.hid (show Run (byPlace L m F) k i h by
                      refine ⟨by omega, by omega, HH.out, ?_, .inl (by omega)⟩
                      rcases HE.out with h1 | h1 | h1
                      · exact .inl h1
                      · omega
                      · exact .inr h1)
                    go_wp2
                    have hr1 := HR.out.1
                    have hr2 := HR.out.2.1
                    go_loopw [10, 11] (fun ax bx wr => ∃ s : Nat, ax = .int .i64 ((i + s : Nat) : Int) ∧ bx = .int .i64 ((h : Int) - 1 - s) ∧ 2 * s ≤ h - i + 1 ∧ OwnF wr 3 w.heap.size k (mid F' i h s) ∧ Below w.heap.size w wr) (fun ax _ _ => h - (intOf ax).toNat)
                    case atStart => exact ⟨0, by go_num, by go_num, by omega, hown'.congr fun j hj => (mid_zero _ _ _ _).symm, hbel⟩
                    case round =>
                      obtain ⟨s, rfl, rfl, hs, hown2, hbel2⟩ := hrel
                      by_cases hsw : 2 * s + 1 < h - i
                      · obtain ⟨x, hx⟩ : ∃ x : Nat, x = i + s := ⟨_, rfl⟩
                        obtain ⟨y, hy⟩ : ∃ y : Nat, y + s + 1 = h := ⟨h - 1 - s, by omega⟩
                        have e1 : (h : Int) - 1 - s = (y : Int) := by omega
                        rw [← hx, e1]
                        have hxy : x < y := by omega
                        have hyk : y < k := by omega
                        have c1 := hown2.cell (i := x) (by omega)
                        have c2 := hown2.cell (i := y) (by omega)
                        rw [mid_at _ hx hsw] at c1
                        rw [mid_at' _ hy hsw] at c2
                        have f1 := hown2.frozen x
                        have f2 := hown2.frozen y
                        have HX := Lib.hid hx
                        have HY := Lib.hid hy
                        have HO := Lib.hid hown2
                        clear hx hy e1 hown2
                        go_wp2
                        go_region
                        go_wp2
                        go_roundw
                        case rel => exact ⟨s + 1, vint (by have := HX.out; omega), vint (by have := HY.out; omega), by omega, ((HO.out.set x (F' y)).set y (F' x)).drew.congr (fun j _ => mid_step F' HX.out HY.out j), ((hbel2.setCell (Nat.le_refl _) _).setCell (Nat.le_refl _) _).drew⟩
                        case measure => simp [intOf]; have := HX.out; omega
                      · go_wp2
                        go_roundw
                        case rel => exact ⟨h + 1, by go_num, by omega, by rcases HR.out.2.2.2.2 with h1 | h1; exact .inr (.inl (by omega)); exact .inr (.inr (by simpa using h1)), mid F' i h s, HP.out.turn HR.out (fun j hj => mid_end _ (by omega) hs j), hown2, hbel2⟩
                        case measure => simp [intOf]; omega
              · go_wp2
                go_roundw
                case rel => exact ⟨i + 1, by go_num, by omega, .inr (.inr (by simpa [byPlace] using hp)), F', HP.out.skip (by simpa [byPlace] using hp), hown', hbel⟩
                case measure => simp [intOf]; omega
            · go_wp2
              go_roundw
              case rel => exact ⟨q + 1, by have := HQ.out; omega, by have := HQ.out; rw [show t - (q + 1) = m - 1 by omega]; go_num, F', ⟨F, hreach, by rw [← HQ.out]; exact HP.out.done (by omega)⟩, hown', hbel⟩
              case measure => simp [intOf]; omega
        · obtain rfl : m = 0 := by omega
          go_wp2
          go_ret2
          refine ⟨hbel1, fun _ => ⟨_, F, rfl, Nat.le_refl _, hown, ?_⟩, fun h => absurd HA.out h⟩
          have hq' := HQ.out
          have ht : (mostL L k).toNat = t := by rw [HT.out]; rfl
          rw [ht]
          have : q = t := by omega
          rw [this] at hreach
          exact hreach
end Go.Proofs.Ytpbnkkeplhgepaa.BO
