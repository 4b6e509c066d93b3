
/-
  chart.Range.
-/
import Derived.Test.YtnigebnibikolaaCbPlain
import Derived.Test.YtnigebnibikolaaBlk
import Derived.BigQuiet
namespace Go.Proofs.Ytnigebnibikolaa.CB
open Go.RowKit Go.Law Go.Law.Cb Ref CH
set_option linter.unusedVariables false
set_option linter.unusedSimpArgs false
set_option maxRecDepth 100000
/-- a chart's cells in a block of the call's own -/
def ChartAt (w : World) (g : Nat) (kind : Int) (a1 a2 : Option Addr) (p cp s cs : Nat) : Prop :=
  w.cell? ⟨g, 0, none⟩ = some (.int .i64 kind) ∧ w.cell? ⟨g, 1, none⟩ = some (.slice a1 p cp) ∧ w.cell? ⟨g, 2, none⟩ = some (.slice a2 s cs)
theorem ChartAt.below {w w' : World} {g B : Nat} {kind : Int} {a1 a2 : Option Addr} {p cp s cs : Nat} (h : ChartAt w g kind a1 a2 p cp s cs) (hb : Below B w w') (hg : g < B) : ChartAt w' g kind a1 a2 p cp s cs :=
  ⟨(hb.cell hg).trans h.1, (hb.cell hg).trans h.2.1, (hb.cell hg).trans h.2.2⟩
theorem ChartAt.start (w : World) (kind : Int) (a1 a2 : Option Addr) (p cp s cs : Nat) (t : TypeId) : ChartAt (w.alloc (.cells #[.int .i64 kind, .slice a1 p cp, .slice a2 s cs] t)) w.heap.size kind a1 a2 p cp s cs := by
  refine ⟨?_, ?_, ?_⟩ <;> (rw [World.cell?_alloc_new]; rfl)
/-- in a later world of a call that has boxed a chart first -/
structure Ch (w : World) (kind : Int) (a1 a2 : Option Addr) (p cp s cs : Nat) (wr : World) : Prop where
  bel : Below w.heap.size w wr
  lt : w.heap.size < wr.heap.size
  cel : ChartAt wr w.heap.size kind a1 a2 p cp s cs
theorem Ch.start (w : World) (kind : Int) (a1 a2 : Option Addr) (p cp s cs : Nat) (t : TypeId) : Ch w kind a1 a2 p cp s cs (w.alloc (.cells #[.int .i64 kind, .slice a1 p cp, .slice a2 s cs] t)) :=
  ⟨(Below.refl _ _).alloc (Nat.le_refl _) _, by simp, ChartAt.start ..⟩
theorem Ch.more {w : World} {kind : Int} {a1 a2 : Option Addr} {p cp s cs : Nat} {wr w' : World} (h : Ch w kind a1 a2 p cp s cs wr) (hb : Below wr.heap.size wr w') : Ch w kind a1 a2 p cp s cs w' :=
  ⟨h.bel.trans (hb.mono h.bel.size), Nat.lt_of_lt_of_le h.lt hb.size, h.cel.below hb h.lt⟩
theorem Ch.drewN {w : World} {kind : Int} {a1 a2 : Option Addr} {p cp s cs : Nat} {wr : World} (h : Ch w kind a1 a2 p cp s cs wr) (k : Nat) : Ch w kind a1 a2 p cp s cs (wr.drewN k) :=
  h.more (below_drewN (Below.refl _ _) k)
def RangeOk (kind : Int) (v : Nat → Nat → Int) (p s : Nat) : Value := .tuple #[.int .i64 (lowL (x0 kind v) (extL kind v s p)), .int .i64 (highL (x0 kind v) (extL kind v s p)), .int .i64 0]
/-- the rows' values, each within its bounds -/
def OkV (kind : Int) (v : Nat → Nat → Int) (p s : Nat) : Prop := ∀ q, q < s → ∀ i, i < p → lowK kind ≤ v q i ∧ v q i ≤ 83333333333
theorem okV_of {kind : Int} {p s : Nat} {sn : Nat → Nat} {sf : Nat → Nat → Int} (he : chErr kind p s sn sf = 0) : OkV kind sf p s := by
  obtain ⟨_, _, _, _, _, _, hrow⟩ := chErr_zero he
  intro q hq i hi
  obtain ⟨h1, h2⟩ := hrow q hq
  exact h2 i (by rw [h1]; exact hi)
theorem lowK_ge (kind : Int) : -83333333333 ≤ lowK kind := by unfold lowK; split <;> omega
theorem sumQ_bd {kind : Int} {v : Nat → Nat → Int} {p s : Nat} (h : OkV kind v p s) {i : Nat} (hi : i < p) : ∀ q, q ≤ s → -83333333333 * (q : Int) ≤ sumQ v i q ∧ sumQ v i q ≤ 83333333333 * (q : Int)
  | 0, _ => by simp [sumQ]
  | q + 1, hq => by
    have ih := sumQ_bd h hi q (by omega)
    have h1 := h q (by omega) i hi
    have h2 := lowK_ge kind
    simp only [sumQ]
    omega
theorem sumQ_nn {v : Nat → Nat → Int} {p s : Nat} (h : OkV 1 v p s) {i : Nat} (hi : i < p) : ∀ q, q ≤ s → 0 ≤ sumQ v i q
  | 0, _ => by simp [sumQ]
  | q + 1, hq => by
    have ih := sumQ_nn h hi q (by omega)
    have h1 := h q (by omega) i hi
    have h2 : lowK 1 = 0 := rfl
    simp only [sumQ]
    omega
theorem ext_low1 {v : Nat → Nat → Int} {p s : Nat} (h : OkV 1 v p s) : ∀ i, i ≤ p → lowL 0 (extL 1 v s i) = 0
  | 0, _ => rfl
  | i + 1, hi => by
    have ih := ext_low1 h i (by omega)
    have hr : ∀ q, rowP 1 v i q = [] := by intro q; induction q with | zero => rfl | succ q ih => simp only [rowP, if_true]; exact ih
    have hs := sumQ_nn h (show i < p by omega) s (Nat.le_refl _)
    simp only [extL, if_true]
    rw [hr, List.append_nil, lowL_snoc, ih]
    omega
theorem range_bad (kind : Int) (a1 a2 : Option Addr) (p cp s cs : Nat) (sa : Nat → Option Addr) (sn sc : Nat → Nat) (sf : Nat → Nat → Int) (w : World) (hrows : RowsF w a2 s sa sn sc sf) (he : chErr kind p s sn sf ≠ 0) :
    Calls Try.prog 10 #[.agg #[.int .i64 kind, .slice a1 p cp, .slice a2 s cs]] w fun e w' => e = .returned (.tuple #[.int .i64 0, .int .i64 0, .int .i64 (chErr kind p s sn sf)]) ∧ Below w.heap.size w w' := by
  have hck := fun w1 (hb : Below w.heap.size w w1) => check_any kind a1 a2 p cp s cs sa sn sc sf w1 (hrows.below (Nat.le_refl _) hb)
  obtain ⟨V, hV⟩ : ∃ V, V = chErr kind p s sn sf := ⟨_, rfl⟩
  rw [← hV] at hck he ⊢
  have v2 : (V != 0) = true := by simpa using he
  have HC := Lib.hid hck
  have hC0 := Ch.start w kind a1 a2 p cp s cs 25
  clear hV hck he hrows
  go_enter Try.func10, Try.ntmps10
  go_wp2_with fail
  refine (HC.out _ hC0.bel).mono ?_
  rintro e w1 ⟨rfl, hb1⟩
  have hC1 := hC0.more hb1
  go_wp2_with fail
  go_ret3
  exact ⟨rfl, hC1.bel⟩
set_option maxHeartbeats 8000000 in
theorem range_03 (kind : Int) (a1 a2 : Option Addr) (p cp s cs : Nat) (sa : Nat → Option Addr) (sn sc : Nat → Nat) (sf : Nat → Nat → Int) (w : World) (hrows : RowsF w a2 s sa sn sc sf) (he : chErr kind p s sn sf = 0) (hk1 : kind ≠ 1) (hk2 : kind ≠ 2) :
    Calls Try.prog 10 #[.agg #[.int .i64 kind, .slice a1 p cp, .slice a2 s cs]] w fun e w' => e = .returned (RangeOk kind sf p s) ∧ Below w.heap.size w w' := by
  have HR := Lib.hid (fun w1 (hb : Below w.heap.size w w1) => hrows.below (Nat.le_refl _) hb)
  have hck := fun w1 (hb : Below w.heap.size w w1) => check_any kind a1 a2 p cp s cs sa sn sc sf w1 (hrows.below (Nat.le_refl _) hb)
  have HO := Lib.hid (okV_of he)
  obtain ⟨_, hp0, hs0, hp2, hs2, _, hrow⟩ := chErr_zero he
  have HN := Lib.hid (fun q hq => (hrow q hq).1)
  rw [he] at hck
  have HC := Lib.hid hck
  have hmax : ∀ x y : Int, (if x < y then y else x) = max x y := fun x y => by omega
  have hmin : ∀ x y : Int, (if y < x then y else x) = min x y := fun x y => by omega
  clear hck he hrows hrow
  have hx0 : x0 kind sf = 0 := if_neg hk2
  unfold RangeOk
  rw [hx0]
  have HRP := Lib.hid (fun i q => (show rowP kind sf i (q + 1) = rowP kind sf i q ++ [sf q i] from if_neg hk1))
  have HEX := Lib.hid (fun i => (show extL kind sf s (i + 1) = extL kind sf s i ++ rowP kind sf i s by show _ ++ _ ++ _ = _; rw [if_neg hk1, List.append_nil]))
  have HE0 := Lib.hid (show extL kind sf s 0 = [0] from if_neg hk2)
  have k2 : (kind == 2) = false := by simpa using hk2
  have k1 : (kind != 1) = true := by simpa using hk1
  have k1' : (kind == 1) = false := by simpa using hk1
  clear hk1 hk2 hx0
  have hC0 := Ch.start w kind a1 a2 p cp s cs 25
  go_enter Try.func10, Try.ntmps10
  go_wp2_with fail
  refine (HC.out _ hC0.bel).mono ?_
  rintro e w1 ⟨rfl, hb1⟩
  have hC1 := hC0.more hb1
  obtain ⟨hbel1, hlt1, p0, p1, p2⟩ := id hC1
  clear hb1 hC0 HC
  go_wp2_with fail
  go_loopw [6, 7, 35] (fun lv hv iv wr => ∃ i : Nat, iv = .int .i64 i ∧ i ≤ p ∧ lv = .int .i64 (lowL 0 (extL kind sf s i)) ∧ hv = .int .i64 (highL 0 (extL kind sf s i)) ∧ Ch w kind a1 a2 p cp s cs wr) (fun _ _ iv _ => p - (intOf iv).toNat)
  case atStart => exact ⟨0, rfl, by omega, by rw [HE0.out]; rfl, by rw [HE0.out]; rfl, hC1⟩
  case round =>
    clear hC1 hbel1 hlt1 p0 p1 p2 HE0
    obtain ⟨i, rfl, hi, rfl, rfl, hC⟩ := hrel
    obtain ⟨hbel, hlt, p0, p1, p2⟩ := id hC
    by_cases hip : i < p
    · go_wp2_with fail
      obtain ⟨wo, rfl⟩ : ∃ wo : World, wo = wr := ⟨_, rfl⟩
      go_loopw [6, 7, 9, 41] (fun lv hv sv qv wr => ∃ q : Nat, qv = .int .i64 q ∧ q ≤ s ∧ lv = .int .i64 (lowL 0 (extL kind sf s i ++ rowP kind sf i q)) ∧ hv = .int .i64 (highL 0 (extL kind sf s i ++ rowP kind sf i q)) ∧ sv = .int .i64 (sumQ sf i q) ∧ Ch w kind a1 a2 p cp s cs wr) (fun _ _ _ qv _ => s - (intOf qv).toNat)
      case atStart => exact ⟨0, rfl, by omega, by rw [show rowP kind sf i 0 = [] from rfl, List.append_nil], by rw [show rowP kind sf i 0 = [] from rfl, List.append_nil], rfl, hC⟩
      case round =>
        clear hC hbel hlt p0 p1 p2
        obtain ⟨q, rfl, hq, rfl, rfl, rfl, hC⟩ := hrel
        obtain ⟨hbel, hlt, p0, p1, p2⟩ := id hC
        by_cases hqs : q < s
        · obtain ⟨b, off, rfl, hqq⟩ := HR.out wr hbel hs0
          obtain ⟨d1, _, hi3⟩ := hqq q hqs
          have hsn := HN.out q hqs
          rw [hsn] at d1 hi3
          obtain ⟨b3, off3, hsa, hc3⟩ := hi3 (by omega)
          have d2 := hc3 i hip
          rw [hsa] at d1
          have hsb := sumQ_bd HO.out hip q hq
          have hvb := HO.out q hqs i hip
          have hlk := lowK_ge kind
          have HL := Lib.hid (show lowL 0 (extL kind sf s i ++ rowP kind sf i (q + 1)) = min (lowL 0 (extL kind sf s i ++ rowP kind sf i q)) (sf q i) by rw [HRP.out, ← List.append_assoc, lowL_snoc])
          have HH := Lib.hid (show highL 0 (extL kind sf s i ++ rowP kind sf i (q + 1)) = max (highL 0 (extL kind sf s i ++ rowP kind sf i q)) (sf q i) by rw [HRP.out, ← List.append_assoc, highL_snoc])
          have HS := Lib.hid (show sumQ sf i (q + 1) = sumQ sf i q + sf q i from rfl)
          obtain ⟨x, hx⟩ : ∃ x, x = sf q i := ⟨_, rfl⟩
          obtain ⟨lo, hlo⟩ : ∃ lo, lo = lowL 0 (extL kind sf s i ++ rowP kind sf i q) := ⟨_, rfl⟩
          obtain ⟨hi', hhi⟩ : ∃ hi', hi' = highL 0 (extL kind sf s i ++ rowP kind sf i q) := ⟨_, rfl⟩
          obtain ⟨S, hS⟩ : ∃ S, S = sumQ sf i q := ⟨_, rfl⟩
          rw [← hx] at d2 hvb HL HH HS
          rw [← hlo] at HL ⊢
          rw [← hhi] at HH ⊢
          rw [← hS] at HS hsb ⊢
          have j1 : (0 : Int) ≤ (i : Int) := by omega
          have j2 : (i : Int) < (p : Int) := by omega
          have HCW := Lib.hid hC
          clear hqq hsn hi3 hc3 hsa hx hlo hhi hS hC hbel
          go_wp2_with fail
          go_quiet (fail)
          go_wp2_with fail
          go_roundw
          case rel => exact ⟨q + 1, by go_num, by omega, by rw [HL.out], by rw [HH.out], by rw [HS.out], HCW.out.drewN _⟩
          case measure => simp [intOf]; omega
        · obtain rfl : s = q := by omega
          have HX := Lib.hid (HEX.out i)
          go_wp2_with fail
          go_roundw
          case rel => exact ⟨i + 1, by go_num, by omega, by rw [HX.out], by rw [HX.out], hC⟩
          case measure => simp [intOf]; omega
    · obtain rfl : p = i := by omega
      go_wp2_with fail
      go_ret3
      exact ⟨rfl, hbel⟩
set_option maxHeartbeats 8000000 in
theorem range_2 (a1 a2 : Option Addr) (p cp s cs : Nat) (sa : Nat → Option Addr) (sn sc : Nat → Nat) (sf : Nat → Nat → Int) (w : World) (hrows : RowsF w a2 s sa sn sc sf) (he : chErr 2 p s sn sf = 0) :
    Calls Try.prog 10 #[.agg #[.int .i64 2, .slice a1 p cp, .slice a2 s cs]] w fun e w' => e = .returned (RangeOk 2 sf p s) ∧ Below w.heap.size w w' := by
  have HR := Lib.hid (fun w1 (hb : Below w.heap.size w w1) => hrows.below (Nat.le_refl _) hb)
  have hck := fun w1 (hb : Below w.heap.size w w1) => check_any 2 a1 a2 p cp s cs sa sn sc sf w1 (hrows.below (Nat.le_refl _) hb)
  have HO := Lib.hid (okV_of he)
  obtain ⟨_, hp0, hs0, hp2, hs2, _, hrow⟩ := chErr_zero he
  have HN := Lib.hid (fun q hq => (hrow q hq).1)
  rw [he] at hck
  have HC := Lib.hid hck
  have hmax : ∀ x y : Int, (if x < y then y else x) = max x y := fun x y => by omega
  have hmin : ∀ x y : Int, (if y < x then y else x) = min x y := fun x y => by omega
  clear hck he hrows hrow
  have hx0 : x0 2 sf = sf 0 0 := if_pos rfl
  unfold RangeOk
  rw [hx0]
  have HRP := Lib.hid (fun i q => (show rowP 2 sf i (q + 1) = rowP 2 sf i q ++ [sf q i] from if_neg (by decide)))
  have HEX := Lib.hid (fun i => (show extL 2 sf s (i + 1) = extL 2 sf s i ++ rowP 2 sf i s by show _ ++ _ ++ _ = _; rw [if_neg (by decide), List.append_nil]))
  have HE0 := Lib.hid (show extL 2 sf s 0 = [] from if_pos rfl)
  obtain ⟨X0, hX0⟩ : ∃ X0, X0 = sf 0 0 := ⟨_, rfl⟩
  rw [← hX0]
  clear hx0
  have hC0 := Ch.start w 2 a1 a2 p cp s cs 25
  go_enter Try.func10, Try.ntmps10
  go_wp2_with fail
  refine (HC.out _ hC0.bel).mono ?_
  rintro e w1 ⟨rfl, hb1⟩
  have hC1 := hC0.more hb1
  obtain ⟨hbel1, hlt1, p0, p1, p2⟩ := id hC1
  clear hb1 hC0 HC
  go_wp2_with fail
  obtain ⟨b0, off0, rfl, hq0⟩ := HR.out w1 hbel1 hs0
  obtain ⟨d1, _, hi3⟩ := hq0 0 hs0
  have hsn0 := HN.out 0 hs0
  rw [hsn0] at d1 hi3
  obtain ⟨b30, off30, hsa0, hc30⟩ := hi3 (by omega)
  have d2 := hc30 0 hp0
  rw [hsa0] at d1
  rw [← hX0] at d2
  have HX0 := Lib.hid hX0
  have HC1 := Lib.hid hC1
  have j3 : (0 : Int) < (p : Int) := by omega
  have j4 : (0 : Int) < (s : Int) := by omega
  rw [Nat.add_zero] at d1 d2
  clear hq0 hi3 hc30 hsa0 hsn0 hX0 hC1 hbel1
  go_quiet (fail)
  go_wp2_with fail
  have hC1 := HC1.out.drewN nq
  clear HC1 d1 d2 hlt1 p0 p1 p2
  go_loopw [6, 7, 35] (fun lv hv iv wr => ∃ i : Nat, iv = .int .i64 i ∧ i ≤ p ∧ lv = .int .i64 (lowL X0 (extL 2 sf s i)) ∧ hv = .int .i64 (highL X0 (extL 2 sf s i)) ∧ Ch w 2 a1 (some ⟨b0, off0, none⟩) p cp s cs wr) (fun _ _ iv _ => p - (intOf iv).toNat)
  case atStart => exact ⟨0, rfl, by omega, by rw [HE0.out]; rfl, by rw [HE0.out]; rfl, hC1⟩
  case round =>
    clear hC1 HE0
    obtain ⟨i, rfl, hi, rfl, rfl, hC⟩ := hrel
    obtain ⟨hbel, hlt, p0, p1, p2⟩ := id hC
    by_cases hip : i < p
    · go_wp2_with fail
      obtain ⟨wo, rfl⟩ : ∃ wo : World, wo = wr := ⟨_, rfl⟩
      go_loopw [6, 7, 9, 41] (fun lv hv sv qv wr => ∃ q : Nat, qv = .int .i64 q ∧ q ≤ s ∧ lv = .int .i64 (lowL X0 (extL 2 sf s i ++ rowP 2 sf i q)) ∧ hv = .int .i64 (highL X0 (extL 2 sf s i ++ rowP 2 sf i q)) ∧ sv = .int .i64 (sumQ sf i q) ∧ Ch w 2 a1 (some ⟨b0, off0, none⟩) p cp s cs wr) (fun _ _ _ qv _ => s - (intOf qv).toNat)
      case atStart => exact ⟨0, rfl, by omega, by rw [show rowP 2 sf i 0 = [] from rfl, List.append_nil], by rw [show rowP 2 sf i 0 = [] from rfl, List.append_nil], rfl, hC⟩
      case round =>
        clear hC hbel hlt p0 p1 p2
        obtain ⟨q, rfl, hq, rfl, rfl, rfl, hC⟩ := hrel
        obtain ⟨hbel, hlt, p0, p1, p2⟩ := id hC
        by_cases hqs : q < s
        · obtain ⟨b, off, hbo, hqq⟩ := HR.out wr hbel hs0
          cases hbo
          obtain ⟨d1, _, hi3⟩ := hqq q hqs
          have hsn := HN.out q hqs
          rw [hsn] at d1 hi3
          obtain ⟨b3, off3, hsa, hc3⟩ := hi3 (by omega)
          have d2 := hc3 i hip
          rw [hsa] at d1
          have hsb := sumQ_bd HO.out hip q hq
          have hvb := HO.out q hqs i hip
          have hlk := lowK_ge 2
          have HL := Lib.hid (show lowL X0 (extL 2 sf s i ++ rowP 2 sf i (q + 1)) = min (lowL X0 (extL 2 sf s i ++ rowP 2 sf i q)) (sf q i) by rw [HRP.out, ← List.append_assoc, lowL_snoc])
          have HH := Lib.hid (show highL X0 (extL 2 sf s i ++ rowP 2 sf i (q + 1)) = max (highL X0 (extL 2 sf s i ++ rowP 2 sf i q)) (sf q i) by rw [HRP.out, ← List.append_assoc, highL_snoc])
          have HS := Lib.hid (show sumQ sf i (q + 1) = sumQ sf i q + sf q i from rfl)
          obtain ⟨x, hx⟩ : ∃ x, x = sf q i := ⟨_, rfl⟩
          obtain ⟨lo, hlo⟩ : ∃ lo, lo = lowL X0 (extL 2 sf s i ++ rowP 2 sf i q) := ⟨_, rfl⟩
          obtain ⟨hi', hhi⟩ : ∃ hi', hi' = highL X0 (extL 2 sf s i ++ rowP 2 sf i q) := ⟨_, rfl⟩
          obtain ⟨S, hS⟩ : ∃ S, S = sumQ sf i q := ⟨_, rfl⟩
          rw [← hx] at d2 hvb HL HH HS
          rw [← hlo] at HL ⊢
          rw [← hhi] at HH ⊢
          rw [← hS] at HS hsb ⊢
          have j1 : (0 : Int) ≤ (i : Int) := by omega
          have j2 : (i : Int) < (p : Int) := by omega
          have HCW := Lib.hid hC
          clear hqq hsn hi3 hc3 hsa hx hlo hhi hS hC hbel
          go_wp2_with fail
          go_quiet (fail)
          go_wp2_with fail
          go_roundw
          case rel => exact ⟨q + 1, by go_num, by omega, by rw [HL.out], by rw [HH.out], by rw [HS.out], HCW.out.drewN _⟩
          case measure => simp [intOf]; omega
        · obtain rfl : s = q := by omega
          have HX := Lib.hid (HEX.out i)
          go_wp2_with fail
          go_roundw
          case rel => exact ⟨i + 1, by go_num, by omega, by rw [HX.out], by rw [HX.out], hC⟩
          case measure => simp [intOf]; omega
    · obtain rfl : p = i := by omega
      go_wp2_with fail
      go_ret3
      exact ⟨rfl, hbel⟩
set_option maxHeartbeats 8000000 in
theorem range_1 (a1 a2 : Option Addr) (p cp s cs : Nat) (sa : Nat → Option Addr) (sn sc : Nat → Nat) (sf : Nat → Nat → Int) (w : World) (hrows : RowsF w a2 s sa sn sc sf) (he : chErr 1 p s sn sf = 0) :
    Calls Try.prog 10 #[.agg #[.int .i64 1, .slice a1 p cp, .slice a2 s cs]] w fun e w' => e = .returned (RangeOk 1 sf p s) ∧ Below w.heap.size w w' := by
  have HR := Lib.hid (fun w1 (hb : Below w.heap.size w w1) => hrows.below (Nat.le_refl _) hb)
  have hck := fun w1 (hb : Below w.heap.size w w1) => check_any 1 a1 a2 p cp s cs sa sn sc sf w1 (hrows.below (Nat.le_refl _) hb)
  have HO := Lib.hid (okV_of he)
  obtain ⟨_, hp0, hs0, hp2, hs2, _, hrow⟩ := chErr_zero he
  have HN := Lib.hid (fun q hq => (hrow q hq).1)
  rw [he] at hck
  have HC := Lib.hid hck
  have hmax : ∀ x y : Int, (if x < y then y else x) = max x y := fun x y => by omega
  have hmin : ∀ x y : Int, (if y < x then y else x) = min x y := fun x y => by omega
  clear hck he hrows hrow
  have hx0 : x0 1 sf = 0 := if_neg (by decide)
  have hlow := ext_low1 HO.out p (Nat.le_refl p)
  unfold RangeOk
  rw [hx0, hlow]
  have HEX := Lib.hid (fun i => (show extL 1 sf s (i + 1) = extL 1 sf s i ++ [sumQ sf i s] by
    have hr : ∀ q, rowP 1 sf i q = [] := by intro q; induction q with | zero => rfl | succ q ih => simp only [rowP, if_true]; exact ih
    simp only [extL, if_true]
    rw [hr, List.append_nil]))
  have HE0 := Lib.hid (show extL 1 sf s 0 = [0] from if_neg (by decide))
  clear hx0 hlow
  have hC0 := Ch.start w 1 a1 a2 p cp s cs 25
  go_enter Try.func10, Try.ntmps10
  go_wp2_with fail
  refine (HC.out _ hC0.bel).mono ?_
  rintro e w1 ⟨rfl, hb1⟩
  have hC1 := hC0.more hb1
  obtain ⟨hbel1, hlt1, p0, p1, p2⟩ := id hC1
  clear hb1 hC0 HC
  go_wp2_with fail
  go_loopw [6, 7, 35] (fun lv hv iv wr => ∃ i : Nat, iv = .int .i64 i ∧ i ≤ p ∧ lv = .int .i64 0 ∧ hv = .int .i64 (highL 0 (extL 1 sf s i)) ∧ Ch w 1 a1 a2 p cp s cs wr) (fun _ _ iv _ => p - (intOf iv).toNat)
  case atStart => exact ⟨0, rfl, by omega, rfl, by rw [HE0.out]; rfl, hC1⟩
  case round =>
    clear hC1 hbel1 hlt1 p0 p1 p2 HE0
    obtain ⟨i, rfl, hi, rfl, rfl, hC⟩ := hrel
    obtain ⟨hbel, hlt, p0, p1, p2⟩ := id hC
    by_cases hip : i < p
    · go_wp2_with fail
      obtain ⟨wo, rfl⟩ : ∃ wo : World, wo = wr := ⟨_, rfl⟩
      go_loopw [6, 7, 9, 41] (fun lv hv sv qv wr => ∃ q : Nat, qv = .int .i64 q ∧ q ≤ s ∧ lv = .int .i64 0 ∧ hv = .int .i64 (highL 0 (extL 1 sf s i)) ∧ sv = .int .i64 (sumQ sf i q) ∧ Ch w 1 a1 a2 p cp s cs wr) (fun _ _ _ qv _ => s - (intOf qv).toNat)
      case atStart => exact ⟨0, rfl, by omega, rfl, rfl, rfl, hC⟩
      case round =>
        clear hC hbel hlt p0 p1 p2
        obtain ⟨q, rfl, hq, rfl, rfl, rfl, hC⟩ := hrel
        obtain ⟨hbel, hlt, p0, p1, p2⟩ := id hC
        by_cases hqs : q < s
        · obtain ⟨b, off, rfl, hqq⟩ := HR.out wr hbel hs0
          obtain ⟨d1, _, hi3⟩ := hqq q hqs
          have hsn := HN.out q hqs
          rw [hsn] at d1 hi3
          obtain ⟨b3, off3, hsa, hc3⟩ := hi3 (by omega)
          have d2 := hc3 i hip
          rw [hsa] at d1
          have hsb := sumQ_bd HO.out hip q hq
          have hvb := HO.out q hqs i hip
          have hlk := lowK_ge 1
          have HS := Lib.hid (show sumQ sf i (q + 1) = sumQ sf i q + sf q i from rfl)
          obtain ⟨x, hx⟩ : ∃ x, x = sf q i := ⟨_, rfl⟩
          obtain ⟨S, hS⟩ : ∃ S, S = sumQ sf i q := ⟨_, rfl⟩
          rw [← hx] at d2 hvb HS
          rw [← hS] at HS hsb ⊢
          have j1 : (0 : Int) ≤ (i : Int) := by omega
          have j2 : (i : Int) < (p : Int) := by omega
          clear hqq hsn hi3 hc3 hsa hx hS hbel
          go_wp2_with fail
          go_roundw
          case rel => exact ⟨q + 1, by go_num, by omega, rfl, rfl, by rw [HS.out], hC⟩
          case measure => simp [intOf]; omega
        · obtain rfl : s = q := by omega
          have HX := Lib.hid (show highL 0 (extL 1 sf s (i + 1)) = max (highL 0 (extL 1 sf s i)) (sumQ sf i s) by rw [HEX.out, highL_snoc])
          obtain ⟨H0, hH0⟩ : ∃ H0, H0 = highL 0 (extL 1 sf s i) := ⟨_, rfl⟩
          obtain ⟨S, hS⟩ : ∃ S, S = sumQ sf i s := ⟨_, rfl⟩
          rw [← hH0, ← hS] at HX ⊢
          clear hH0 hS
          go_wp2_with fail
          go_roundw
          case rel => exact ⟨i + 1, by go_num, by omega, rfl, by rw [HX.out], hC⟩
          case measure => simp [intOf]; omega
    · obtain rfl : p = i := by omega
      go_wp2_with fail
      go_ret3
      exact ⟨rfl, hbel⟩
theorem range_ok (kind : Int) (a1 a2 : Option Addr) (p cp s cs : Nat) (sa : Nat → Option Addr) (sn sc : Nat → Nat) (sf : Nat → Nat → Int) (w : World) (hrows : RowsF w a2 s sa sn sc sf) (he : chErr kind p s sn sf = 0) :
    Calls Try.prog 10 #[.agg #[.int .i64 kind, .slice a1 p cp, .slice a2 s cs]] w fun e w' => e = .returned (RangeOk kind sf p s) ∧ Below w.heap.size w w' := by
  by_cases h1 : kind = 1
  · subst h1; exact range_1 a1 a2 p cp s cs sa sn sc sf w hrows he
  · by_cases h2 : kind = 2
    · subst h2; exact range_2 a1 a2 p cp s cs sa sn sc sf w hrows he
    · exact range_03 kind a1 a2 p cp s cs sa sn sc sf w hrows he h1 h2
end Go.Proofs.Ytnigebnibikolaa.CB
