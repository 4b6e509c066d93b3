
/-
  clock.Report.
-/
import Derived.Test.YtpbnkkeplhgepaaClShow
import Derived.Test.YtpbnkkeplhgepaaClClone
import Derived.Test.YtpbnkkeplhgepaaClCheck
import Derived.Laws.ResultCell
namespace Go.Proofs.Ytpbnkkeplhgepaa.CL
open Go.RowKit Go.Law Go.Law.Cl
set_option linter.unusedVariables false
set_option linter.unusedSimpArgs false
set_option maxRecDepth 100000
theorem _root_.Go.Law.RowI.lt {w : World} {base : Nat} {e : TypeId} {s : Nat} {v : Value} {n : Nat} {F : Nat → Int} (h : RowI w base e s v n F) : ∀ k, v.ownBlock = some k → k < w.heap.size := by
  intro k hk
  obtain ⟨xs, ⟨hl, h⟩, h2⟩ := h
  rcases h with ⟨h, _⟩ | ⟨g, cap, cur, hv, hg, hh, r⟩
  · rw [h] at hk; cases hk
  · rw [hv] at hk
    simp [Value.ownBlock] at hk
    subst hk
    exact (Array.getElem?_eq_some_iff.1 hh).1
/-- the events with one more behind them, which is none -/
def ext (n : Nat) (E : Nat → Nat → Int) (T : Int) : Nat → Nat → Int := fun i j => if i < n then E i j else if j = 0 then -1 else if j = 1 then T else 0
theorem ext_lt {n : Nat} {E : Nat → Nat → Int} {T : Int} {i : Nat} (h : i < n) (j : Nat) : ext n E T i j = E i j := by unfold ext; rw [if_pos h]
theorem lastA_ext {n : Nat} {E : Nat → Nat → Int} {T : Int} : ∀ k, k ≤ n → lastA (ext n E T) k = lastA E k := by
  intro k hk
  cases k with
  | zero => rfl
  | succ k => simp only [lastA]; exact ext_lt (by omega) 1
theorem prS_ext {n : Nat} {E : Nat → Nat → Int} {T : Int} : ∀ k, k ≤ n → prS (ext n E T) T k = prS E T k := by
  intro k
  induction k with
  | zero => intro _; rfl
  | succ k ih =>
    intro hk
    simp only [prS]
    rw [ih (by omega), lastA_ext k (by omega), ext_lt (by omega), ext_lt (by omega), ext_lt (by omega)]
theorem fin_ext {n : Nat} {E : Nat → Nat → Int} {T : Int} : prS (ext n E T) T (n + 1) = finS n E T := by
  have h0 : ext n E T n 0 = -1 := by simp [ext]
  have h1 : ext n E T n 1 = T := by simp [ext]
  simp only [prS, finS]
  rw [prS_ext n (Nat.le_refl _), lastA_ext n (Nat.le_refl _), h0, h1, if_neg (by omega), Int.min_self]
  unfold evS
  rw [if_neg (by omega), if_neg (by omega), if_neg (by omega)]
theorem flat3_ext {n : Nat} {E : Nat → Nat → Int} {T : Int} : ∀ i, i < n * 3 → flat3 E i = flat3 (ext n E T) i := fun i hi => by unfold flat3; rw [ext_lt (by omega)]
set_option maxHeartbeats 4000000 in
theorem report_bad (n : Nat) (E : Nat → Nat → Int) (T : Int) (a : Option Addr) (c : Nat) (w : World) (ha : StrF w a n 3 E) (hn : n ≤ 1000000000000000000) (he : clE n E ≠ 0) :
    Calls Try.prog 34 #[.slice a n c, .int .i64 T] w fun e w' => e = .returned (.tuple #[.agg #[.bool false, .int .i64 0, .int .i64 0, .slice none 0 0], .int .i64 (clE n E)]) ∧ Below w.heap.size w w' := by
  have HA := Lib.hid ha
  clear ha
  have e2 : (clE n E != 0) = true := by simpa using he
  clear he
  go_enter Try.func34, Try.ntmps34
  go_wp2_with fail
  refine (check_any n E a c _ (HA.out.below (Nat.le_refl _) ((Below.refl _ _).alloc (Nat.le_refl _) _)) hn).mono ?_
  rintro e w1 ⟨rfl, hb1⟩
  have hs1 := hb1.size
  simp at hs1
  have p0 : ∀ i, i < 4 → w1.cell? ⟨w.heap.size, i, none⟩ = (w.alloc (Obj.cells #[.bool false, .int .i64 0, .int .i64 0, .slice none 0 0] 67)).cell? ⟨w.heap.size, i, none⟩ := fun i hi => hb1.cell (by simp)
  have z0 : ∀ i, i < 4 → w1.frozen? ⟨w.heap.size, i, none⟩ = (w.alloc (Obj.cells #[.bool false, .int .i64 0, .int .i64 0, .slice none 0 0] 67)).frozen? ⟨w.heap.size, i, none⟩ := fun i hi => hb1.frozen (by simp)
  have c0 := (p0 0 (by omega)).trans (show _ = some (.bool false) by simp)
  have c1 := (p0 1 (by omega)).trans (show _ = some (.int .i64 0) by simp)
  have c2 := (p0 2 (by omega)).trans (show _ = some (.int .i64 0) by simp)
  have c3 := (p0 3 (by omega)).trans (show _ = some (.slice none 0 0) by simp)
  have f0 := (z0 0 (by omega)).trans (show _ = false by simp)
  have f1 := (z0 1 (by omega)).trans (show _ = false by simp)
  have f2 := (z0 2 (by omega)).trans (show _ = false by simp)
  have f3 := (z0 3 (by omega)).trans (show _ = false by simp)
  have hbel : Below w.heap.size w w1 := ((Below.refl _ _).alloc (Nat.le_refl _) _).trans (hb1.mono (by simp))
  clear p0 z0 hb1
  go_wp2_with fail
  (try simp only [Exit.inBlock, Exit.then])
  refine bodyPost_ret (v := .tuple #[.agg #[.bool false, .int .i64 0, .int .i64 0, .slice none 0 0], .int .i64 (clE n E)]) ?rc rfl ?_
  case rc =>
    rw [results_cell_tmp rfl]
    go_simp
  refine ⟨rfl, ?_⟩
  repeat' (with_reducible first | exact Below.refl _ _ | assumption | refine Below.setCell ?_ ?_ _ | refine Below.alloc ?_ ?_ _ | refine below_drewN ?_ _ | refine Below.drew ?_)
  all_goals first | omega | (simp; done) | (simp; omega)
set_option maxHeartbeats 4000000 in
theorem report_range (n : Nat) (E : Nat → Nat → Int) (T : Int) (a : Option Addr) (c : Nat) (w : World) (ha : StrF w a n 3 E) (hn : n ≤ 1000000000000000000) (he : clE n E = 0) (hT : T < 0 ∨ 10000000 < T) :
    Calls Try.prog 34 #[.slice a n c, .int .i64 T] w fun e w' => e = .returned (.tuple #[.agg #[.bool false, .int .i64 0, .int .i64 0, .slice none 0 0], .int .i64 2]) ∧ Below w.heap.size w w' := by
  have HA := Lib.hid ha
  have HE := Lib.hid he
  clear ha he
  go_enter Try.func34, Try.ntmps34
  go_wp2_with fail
  refine (check_any n E a c _ (HA.out.below (Nat.le_refl _) ((Below.refl _ _).alloc (Nat.le_refl _) _)) hn).mono ?_
  rintro e w1 ⟨rfl, hb1⟩
  have hs1 := hb1.size
  simp at hs1
  have p0 : ∀ i, i < 4 → w1.cell? ⟨w.heap.size, i, none⟩ = (w.alloc (Obj.cells #[.bool false, .int .i64 0, .int .i64 0, .slice none 0 0] 67)).cell? ⟨w.heap.size, i, none⟩ := fun i hi => hb1.cell (by simp)
  have z0 : ∀ i, i < 4 → w1.frozen? ⟨w.heap.size, i, none⟩ = (w.alloc (Obj.cells #[.bool false, .int .i64 0, .int .i64 0, .slice none 0 0] 67)).frozen? ⟨w.heap.size, i, none⟩ := fun i hi => hb1.frozen (by simp)
  have c0 := (p0 0 (by omega)).trans (show _ = some (.bool false) by simp)
  have c1 := (p0 1 (by omega)).trans (show _ = some (.int .i64 0) by simp)
  have c2 := (p0 2 (by omega)).trans (show _ = some (.int .i64 0) by simp)
  have c3 := (p0 3 (by omega)).trans (show _ = some (.slice none 0 0) by simp)
  have f0 := (z0 0 (by omega)).trans (show _ = false by simp)
  have f1 := (z0 1 (by omega)).trans (show _ = false by simp)
  have f2 := (z0 2 (by omega)).trans (show _ = false by simp)
  have f3 := (z0 3 (by omega)).trans (show _ = false by simp)
  have hbel : Below w.heap.size w w1 := ((Below.refl _ _).alloc (Nat.le_refl _) _).trans (hb1.mono (by simp))
  clear p0 z0 hb1
  rw [HE.out]
  rcases hT with hT | hT
  · go_wp2_with fail
    (try simp only [Exit.inBlock, Exit.then])
    refine bodyPost_ret (v := .tuple #[.agg #[.bool false, .int .i64 0, .int .i64 0, .slice none 0 0], .int .i64 2]) ?rc rfl ?_
    case rc =>
      rw [results_cell_tmp rfl]
      go_simp
    refine ⟨rfl, ?_⟩
    repeat' (with_reducible first | exact Below.refl _ _ | assumption | refine Below.setCell ?_ ?_ _ | refine Below.alloc ?_ ?_ _ | refine below_drewN ?_ _ | refine Below.drew ?_)
    all_goals first | omega | (simp; done) | (simp; omega)
  · have hT0 : ¬ T < 0 := by omega
    go_wp2_with fail
    (try simp only [Exit.inBlock, Exit.then])
    refine bodyPost_ret (v := .tuple #[.agg #[.bool false, .int .i64 0, .int .i64 0, .slice none 0 0], .int .i64 2]) ?rc rfl ?_
    case rc =>
      rw [results_cell_tmp rfl]
      go_simp
    refine ⟨rfl, ?_⟩
    repeat' (with_reducible first | exact Below.refl _ _ | assumption | refine Below.setCell ?_ ?_ _ | refine Below.alloc ?_ ?_ _ | refine below_drewN ?_ _ | refine Below.drew ?_)
    all_goals first | omega | (simp; done) | (simp; omega)
def ReportPost (s : St) (w : World) (e : Ending) (w' : World) : Prop :=
  Below w.heap.size w w' ∧ ∃ v, e = .returned (.tuple #[.agg #[.bool s.run, .int .i64 s.tot, .int .i64 s.sl, v], .int .i64 0]) ∧ RowI w' w.heap.size 74 3 v s.m s.F
set_option maxHeartbeats 8000000 in
theorem report_ok (n : Nat) (E : Nat → Nat → Int) (T : Int) (a : Option Addr) (c : Nat) (w : World) (ha : StrF w a n 3 E) (hnil : a = none → n = 0 ∧ c = 0) (he : clE n E = 0) (hT : 0 ≤ T ∧ T ≤ 10000000) :
    Calls Try.prog 34 #[.slice a n c, .int .i64 T] w (ReportPost (finS n E T) w) := by
  have HA := Lib.hid ha
  have HE := Lib.hid he
  have HNIL := Lib.hid hnil
  obtain ⟨hn, hev⟩ := clE_zero he
  have HEV := Lib.hid hev
  obtain ⟨hT1, hT2⟩ := hT
  have hT3 : ¬ T < 0 := by omega
  obtain ⟨ii, hii, hz0, hz1, hz2⟩ := info_parts (show (Try.prog.info? 72).map (fun i => (i.zero, i.size, i.bytes)) = some (some (.agg #[.int .i64 0, .int .i64 0, .int .i64 0]), 3, 24) by kernel_rfl)
  clear ha he hnil hev
  have hn' : n ≤ 1000000000000000000 := by omega
  go_enter Try.func34, Try.ntmps34
  go_wp2_with fail
  refine (check_any n E a c _ (HA.out.below (Nat.le_refl _) ((Below.refl _ _).alloc (Nat.le_refl _) _)) hn').mono ?_
  rintro e w1 ⟨rfl, hb1⟩
  have hs1 := hb1.size
  simp at hs1
  have p0 : ∀ i, i < 4 → w1.cell? ⟨w.heap.size, i, none⟩ = (w.alloc (Obj.cells #[.bool false, .int .i64 0, .int .i64 0, .slice none 0 0] 67)).cell? ⟨w.heap.size, i, none⟩ := fun i hi => hb1.cell (by simp)
  have z0 : ∀ i, i < 4 → w1.frozen? ⟨w.heap.size, i, none⟩ = (w.alloc (Obj.cells #[.bool false, .int .i64 0, .int .i64 0, .slice none 0 0] 67)).frozen? ⟨w.heap.size, i, none⟩ := fun i hi => hb1.frozen (by simp)
  have c0 := (p0 0 (by omega)).trans (show _ = some (.bool false) by simp)
  have c1 := (p0 1 (by omega)).trans (show _ = some (.int .i64 0) by simp)
  have c2 := (p0 2 (by omega)).trans (show _ = some (.int .i64 0) by simp)
  have c3 := (p0 3 (by omega)).trans (show _ = some (.slice none 0 0) by simp)
  have f0 := (z0 0 (by omega)).trans (show _ = false by simp)
  have f1 := (z0 1 (by omega)).trans (show _ = false by simp)
  have f2 := (z0 2 (by omega)).trans (show _ = false by simp)
  have f3 := (z0 3 (by omega)).trans (show _ = false by simp)
  have hbel : Below w.heap.size w w1 := ((Below.refl _ _).alloc (Nat.le_refl _) _).trans (hb1.mono (by simp))
  clear p0 z0 hb1
  rw [HE.out]
  go_wp2_with fail
  refine (clone_any n E a c _ (HA.out.below (Nat.le_refl _) (hbel.alloc (by omega) _)) hn HNIL.out).mono ?_
  rintro e w2 ⟨hb2, v, rfl, hrow⟩
  have hs2 := hb2.size
  simp at hs2
  replace hrow : RowI w2 (w1.heap.size + 1) 72 3 v n (flat3 E) := hrow.mono (by simp)
  obtain ⟨aV, cV, rfl, _, _⟩ := hrow.slice
  obtain ⟨xs, hown, hxs⟩ := hrow
  have HX := Lib.hid hxs
  have HL := Lib.hid hown.1
  have hbel2 : Below w.heap.size w w2 := (hbel.alloc (by omega) _).trans (hb2.mono (by simp; omega))
  have HB2 := Lib.hid hb2
  have HBL := Lib.hid hbel2
  have HB1 := Lib.hid hbel
  clear hxs hb2 hbel hbel2
  go_wp2_with (at_builtin; go_loud (refine wpList_append_own _ rfl _ _ 63 rfl (w1.heap.size + 1) 72 ii (.agg #[.int .i64 0, .int .i64 0, .int .i64 0]) 3 24 Try.underlying63 hii hz0 hz1 hz2 rfl (by decide) _ _ _ rfl (hown.alloc _) ⟨w2.heap.size, 0, none⟩ 1 1 [.int .i64 (-1), .int .i64 T, .int .i64 0] rfl rfl ?c1 ?c2 ?c3 ?c4 ?c5 ?_))
  case c1 =>
    intro j u hj
    match j, hj with
    | 0, hj => simp at hj; subst hj; simp [Addr.add]
    | 1, hj => simp at hj; subst hj; simp [Addr.add]
    | 2, hj => simp at hj; subst hj; simp [Addr.add]
  case c2 => intro u hu; simp at hu; rcases hu with rfl | rfl | rfl <;> rfl
  case c3 => unfold maxLen; omega
  case c4 => omega
  case c5 => simp; omega
  intro v3 w3 hown3 hgrow _
  have hrow3 : RowI w3 (w1.heap.size + 1) 72 3 v3 (n + 1) (flat3 (ext n E T)) := RowI.push hown3 HL.out HX.out
    (fun j hj => by
      have e1 : (n * 3 + j) / 3 = n := by omega
      have e2 : (n * 3 + j) % 3 = j := by omega
      unfold flat3 ext
      rw [e1, e2, if_neg (by omega)]
      match j, hj with
      | 0, _ => rfl
      | 1, _ => rfl
      | 2, _ => rfl)
    (fun i hi => flat3_ext i hi)
  obtain ⟨EB, capE, rfl, hE1, hE2, _, _, _, hcellsE⟩ := hrow3.at (by omega)
  have hB3 : Below (w1.heap.size + 1) (w1.alloc (Obj.cells #[.bool false, .int .i64 0, .int .i64 0, .slice none 0 0] 67)) w3 :=
    ((HB2.out.mono (show w1.heap.size + 1 ≤ _ by simp)).alloc (by omega) _).grown hgrow (by simp; omega) (ownBlock_ge hown)
  have hrec : Rec w3 w1.heap.size St.init (.slice none 0 0) := by
    unfold Rec
    rw [hB3.block _ (by omega)]
    show (w1.heap.push _)[_]? = _
    simp [St.init]
  have hH0 : Held w3 w1.heap.size w3.heap.size St.init (.slice none 0 0) := ⟨hrec, RowI.nil _ _ _ _ _, by omega⟩
  have hcE : ∀ i, i < n + 1 → ∀ j, j < 3 → w3.cell? ⟨EB, i * 3 + j, none⟩ = some (.int .i64 (ext n E T i j)) := by
    intro i hi j hj
    have h1 := hcellsE (i * 3 + j) (by omega)
    unfold flat3 at h1
    rw [show (i * 3 + j) / 3 = i by omega, show (i * 3 + j) % 3 = j by omega] at h1
    exact h1
  have hW1 : Below w1.heap.size w1 w3 := ((Below.refl _ _).alloc (Nat.le_refl _) _).trans (hB3.mono (by omega))
  have HH0 := Lib.hid hH0
  have HCE := Lib.hid hcE
  have HW1 := Lib.hid hW1
  have hs3 := hW1.size
  clear hown3 hgrow hown hrow3 hcellsE hB3 hrec hH0 hcE hW1 HX HL HB2 HBL
  obtain ⟨BS, hBS⟩ : ∃ BS, BS = w3.heap.size := ⟨_, rfl⟩
  rw [← hBS] at HH0
  have HR0 := Lib.hid (show 0 < n → 0 ≤ E 0 1 from fun h => (HEV.out 0 h).2.1.1)
  have hEB : EB < BS := by omega
  have hRB : w1.heap.size < EB := by omega
  have hBS3 : BS ≤ w3.heap.size := by omega
  clear hBS
  go_wp2_with fail
  go_loopw [8, 32] (fun lv ix wr => ∃ (k : Nat) (v : Value), ix = .int .i64 k ∧ lv = .int .i64 (min (lastA (ext n E T) k) T) ∧ k ≤ n + 1 ∧ Held wr w1.heap.size BS (prS (ext n E T) T k) v ∧ Below w1.heap.size w1 wr ∧ BS ≤ wr.heap.size ∧
    (∀ i, i < n + 1 → ∀ j, j < 3 → wr.cell? ⟨EB, i * 3 + j, none⟩ = some (.int .i64 (ext n E T i j)))) (fun _ ix _ => n + 1 - (intOf ix).toNat)
  case atStart => exact ⟨0, _, rfl, by show _ = Value.int .i64 (min 0 T); rw [Int.min_eq_left hT1], by omega, HH0.out, HW1.out, hBS3, HCE.out⟩
  case round =>
    obtain ⟨k, v, rfl, rfl, hk, hH, hW, hsz, hcE⟩ := hrel
    by_cases hkn : k < n + 1
    · have e0 := hcE k hkn 0 (by omega)
      have e1 := hcE k hkn 1 (by omega)
      have e2 := hcE k hkn 2 (by omega)
      replace e0 : wr.cell? ⟨EB, k * 3, none⟩ = some (.int .i64 (ext n E T k 0)) := e0
      obtain ⟨hG, hl0⟩ := Cl.Good.pr (E := ext n E T) (n := n) (T := T) hT1 (fun i hi => by
        rw [ext_lt hi, ext_lt hi, ext_lt hi, lastA_ext i (by omega)]
        obtain ⟨_, q1, _, q2, q3⟩ := HEV.out i hi
        exact ⟨q1.1, q2.1, q3⟩) k (by omega)
      have hfacts : (ext n E T k 0 = -1 ∨ ext n E T k 0 = 0 ∨ ext n E T k 0 = 1 ∨ ext n E T k 0 = 2 ∨ ext n E T k 0 = 3) ∧ (ext n E T k 0 = 2 → 0 < ext n E T k 2) ∧ 0 ≤ ext n E T k 1 ∧ (lastA (ext n E T) k ≤ ext n E T k 1 ∨ ext n E T k 1 = T) := by
        by_cases hk2 : k < n
        · rw [ext_lt hk2, ext_lt hk2, ext_lt hk2, lastA_ext k (by omega)]
          obtain ⟨q0, q1, _, q2, q3⟩ := HEV.out k hk2
          exact ⟨by omega, q2.1, q1.1, .inl q3⟩
        · have h0 : ext n E T k 0 = -1 := by simp [ext, hk2]
          have h1 : ext n E T k 1 = T := by simp [ext, hk2]
          exact ⟨.inl h0, fun h => by omega, by omega, .inr h1⟩
      obtain ⟨hK, hX, hA0, hAL⟩ := hfacts
      have HPS := Lib.hid (show prS (ext n E T) T (k + 1) = _ from rfl)
      have HLN := Lib.hid (show lastA (ext n E T) (k + 1) = ext n E T k 1 from rfl)
      obtain ⟨K, hKe⟩ : ∃ K, K = ext n E T k 0 := ⟨_, rfl⟩
      obtain ⟨A, hAe⟩ : ∃ A, A = ext n E T k 1 := ⟨_, rfl⟩
      obtain ⟨X, hXe⟩ : ∃ X, X = ext n E T k 2 := ⟨_, rfl⟩
      obtain ⟨L, hLe⟩ : ∃ L, L = min (lastA (ext n E T) k) T := ⟨_, rfl⟩
      have hL1 : 0 ≤ L ∧ L ≤ T ∧ L ≤ min (ext n E T k 1) T := by omega
      obtain ⟨s, hs⟩ : ∃ s, s = prS (ext n E T) T k := ⟨_, rfl⟩
      have hps : prS (ext n E T) T (k + 1) = if T < A then passS s (min A T - L) else evS (passS s (min A T - L)) K X := by
        rw [hAe, hs, hLe, hKe, hXe]; rfl
      rw [← hKe] at e0 hK hX
      rw [← hAe] at e1 hA0 hL1 HLN
      rw [← hXe] at e2 hX
      rw [← hLe] at hG
      rw [← hs] at hH hG
      rw [← hLe]
      replace HPS := Lib.hid hps
      have HCE := Lib.hid hcE
      have HH := Lib.hid hH
      have HGd := Lib.hid hG
      have HWW := Lib.hid hW
      clear hps hcE hH hG hW hKe hAe hXe hLe hs hAL hl0
      obtain ⟨hL1, hL2, hL3⟩ := hL1
      by_cases hTA : T < A
      · have hp2 : prS (ext n E T) T (k + 1) = passS s (T - L) := by rw [HPS.out, if_pos hTA, Int.min_eq_right (by omega)]
        have HP2 := Lib.hid hp2
        clear hp2
        go_wp2_with fail
        refine (pass_any w1.heap.size BS s L (T - L) k v _ (HH.out.alloc _) HGd.out ⟨by omega, by omega⟩ (by omega) (by omega)).mono ?_
        rintro e w5 ⟨rfl, hH5, has5⟩
        have hs5 := has5.size
        simp at hs5
        have hv1 : v.ownBlock ≠ some wr.heap.size := fun e => by have := HH.out.row.lt _ e; omega
        have hv2 : ∀ b, v.ownBlock = some b → BS ≤ b := HH.out.row.ge
        have x0 : w5.cell? ⟨wr.heap.size, 0, none⟩ = some (.int .i64 K) := (has5.cell (by simp) (by show wr.heap.size ≠ w1.heap.size; omega) hv1).trans (by simp)
        have x1 : w5.cell? ⟨wr.heap.size, 1, none⟩ = some (.int .i64 A) := (has5.cell (by simp) (by show wr.heap.size ≠ w1.heap.size; omega) hv1).trans (by simp)
        have x2 : w5.cell? ⟨wr.heap.size, 2, none⟩ = some (.int .i64 X) := (has5.cell (by simp) (by show wr.heap.size ≠ w1.heap.size; omega) hv1).trans (by simp)
        have hcE5 : ∀ i, i < n + 1 → ∀ j, j < 3 → w5.cell? ⟨EB, i * 3 + j, none⟩ = some (.int .i64 (ext n E T i j)) := fun i hi j hj =>
          (has5.cell (by show EB < _; simp; omega) (by show EB ≠ w1.heap.size; omega) (fun e => by have := hv2 _ e; simp at this; omega)).trans
            ((((Below.refl wr.heap.size wr).alloc (Nat.le_refl _) _).cell (show EB < wr.heap.size by omega)).trans (HCE.out i hi j hj))
        have hW5 : Below w1.heap.size w1 w5 := (HWW.out.alloc HWW.out.size _).trans (has5.below (by simp; have := HWW.out.size; omega) (Nat.le_refl _) (fun b e => by have := hv2 b e; omega))
        have HC5 := Lib.hid hcE5
        have HW5 := Lib.hid hW5
        have HH5 := Lib.hid hH5
        clear hcE5 hW5 hv2 hv1 has5 hH5
        have HHN := HH5
        have HWN := HW5
        have HCN := HC5
        go_wp2_with fail
        go_roundw
        case rel => exact ⟨k + 1, _, by go_num, congrArg _ (show T = min (lastA (ext n E T) (k + 1)) T by rw [HLN.out]; omega), by omega, by rw [HP2.out]; exact HHN.out, HWN.out, by omega, HCN.out⟩
        case measure => simp [intOf]; omega
      · have hp2 : prS (ext n E T) T (k + 1) = evS (passS s (A - L)) K X := by rw [HPS.out, if_neg hTA, Int.min_eq_left (by omega)]
        have HP2 := Lib.hid hp2
        clear hp2
        go_wp2_with fail
        refine (pass_any w1.heap.size BS s L (A - L) k v _ (HH.out.alloc _) HGd.out ⟨by omega, by omega⟩ (by omega) (by omega)).mono ?_
        rintro e w5 ⟨rfl, hH5, has5⟩
        have hs5 := has5.size
        simp at hs5
        have hv1 : v.ownBlock ≠ some wr.heap.size := fun e => by have := HH.out.row.lt _ e; omega
        have hv2 : ∀ b, v.ownBlock = some b → BS ≤ b := HH.out.row.ge
        have x0 : w5.cell? ⟨wr.heap.size, 0, none⟩ = some (.int .i64 K) := (has5.cell (by simp) (by show wr.heap.size ≠ w1.heap.size; omega) hv1).trans (by simp)
        have x1 : w5.cell? ⟨wr.heap.size, 1, none⟩ = some (.int .i64 A) := (has5.cell (by simp) (by show wr.heap.size ≠ w1.heap.size; omega) hv1).trans (by simp)
        have x2 : w5.cell? ⟨wr.heap.size, 2, none⟩ = some (.int .i64 X) := (has5.cell (by simp) (by show wr.heap.size ≠ w1.heap.size; omega) hv1).trans (by simp)
        have hcE5 : ∀ i, i < n + 1 → ∀ j, j < 3 → w5.cell? ⟨EB, i * 3 + j, none⟩ = some (.int .i64 (ext n E T i j)) := fun i hi j hj =>
          (has5.cell (by show EB < _; simp; omega) (by show EB ≠ w1.heap.size; omega) (fun e => by have := hv2 _ e; simp at this; omega)).trans
            ((((Below.refl wr.heap.size wr).alloc (Nat.le_refl _) _).cell (show EB < wr.heap.size by omega)).trans (HCE.out i hi j hj))
        have hW5 : Below w1.heap.size w1 w5 := (HWW.out.alloc HWW.out.size _).trans (has5.below (by simp; have := HWW.out.size; omega) (Nat.le_refl _) (fun b e => by have := hv2 b e; omega))
        have HC5 := Lib.hid hcE5
        have HW5 := Lib.hid hW5
        have HH5 := Lib.hid hH5
        clear hcE5 hW5 hv2 hv1 has5 hH5
        have HG5 := Lib.hid (HGd.out.pass (d := A - L) (by omega))
        obtain ⟨t, ht⟩ : ∃ t, t = passS s (A - L) := ⟨_, rfl⟩
        rw [← ht] at HP2 HH5 HG5
        clear ht
        rcases hK with rfl | rfl | rfl | rfl | rfl
        · replace HP2 : Hid (prS (ext n E T) T (k + 1) = t) := Lib.hid (HP2.out.trans rfl)
          have HHN := HH5
          have HWN := HW5
          have HCN := HC5
          go_wp2_with fail
          go_roundw
          case rel => exact ⟨k + 1, _, by go_num, congrArg _ (show A = min (lastA (ext n E T) (k + 1)) T by rw [HLN.out]; omega), by omega, by rw [HP2.out]; exact HHN.out, HWN.out, by omega, HCN.out⟩
          case measure => simp [intOf]; omega
        · replace HP2 : Hid (prS (ext n E T) T (k + 1) = { t with run := true }) := Lib.hid (HP2.out.trans rfl)
          have q0 := HH5.out.box.run
          have f9 := HH5.out.box.frozen 0
          have hR5 := HH5.out.box.lt
          go_wp2_with fail
          have hA6 : Aside w1.heap.size v w5 (w5.setCell ⟨w1.heap.size, 0, none⟩ (.bool true)) := (Aside.refl _ _ _).setR 0 _
          have hs6 := hA6.size
          have hv2 : ∀ b, (v).ownBlock = some b → BS ≤ b := HH5.out.row.ge
          have HCN := Lib.hid (show ∀ i, i < n + 1 → ∀ j, j < 3 → (w5.setCell ⟨w1.heap.size, 0, none⟩ (.bool true)).cell? ⟨EB, i * 3 + j, none⟩ = some (.int .i64 (ext n E T i j)) from fun i hi j hj =>
            (hA6.cell (by show EB < _; omega) (by show EB ≠ w1.heap.size; omega) (fun e => by have := hv2 _ e; simp at this; omega)).trans (HC5.out i hi j hj))
          have HWN := Lib.hid (show Below w1.heap.size w1 (w5.setCell ⟨w1.heap.size, 0, none⟩ (.bool true)) from HW5.out.trans (hA6.below HW5.out.size (Nat.le_refl _) (fun b e => by have := hv2 b e; omega)))
          clear hv2
          have HHN := Lib.hid (show Held (w5.setCell ⟨w1.heap.size, 0, none⟩ (.bool true)) w1.heap.size BS { t with run := true } v from ⟨HH5.out.box.setRun _, HH5.out.row.other HH5.out.ne _, HH5.out.low⟩)
          clear hA6
          go_roundw
          case rel => exact ⟨k + 1, _, by go_num, congrArg _ (show A = min (lastA (ext n E T) (k + 1)) T by rw [HLN.out]; omega), by omega, by rw [HP2.out]; exact HHN.out, HWN.out, by omega, HCN.out⟩
          case measure => simp [intOf]; omega
        · replace HP2 : Hid (prS (ext n E T) T (k + 1) = { t with run := false }) := Lib.hid (HP2.out.trans rfl)
          have q0 := HH5.out.box.run
          have f9 := HH5.out.box.frozen 0
          have hR5 := HH5.out.box.lt
          go_wp2_with fail
          have hA6 : Aside w1.heap.size v w5 (w5.setCell ⟨w1.heap.size, 0, none⟩ (.bool false)) := (Aside.refl _ _ _).setR 0 _
          have hs6 := hA6.size
          have hv2 : ∀ b, (v).ownBlock = some b → BS ≤ b := HH5.out.row.ge
          have HCN := Lib.hid (show ∀ i, i < n + 1 → ∀ j, j < 3 → (w5.setCell ⟨w1.heap.size, 0, none⟩ (.bool false)).cell? ⟨EB, i * 3 + j, none⟩ = some (.int .i64 (ext n E T i j)) from fun i hi j hj =>
            (hA6.cell (by show EB < _; omega) (by show EB ≠ w1.heap.size; omega) (fun e => by have := hv2 _ e; simp at this; omega)).trans (HC5.out i hi j hj))
          have HWN := Lib.hid (show Below w1.heap.size w1 (w5.setCell ⟨w1.heap.size, 0, none⟩ (.bool false)) from HW5.out.trans (hA6.below HW5.out.size (Nat.le_refl _) (fun b e => by have := hv2 b e; omega)))
          clear hv2
          have HHN := Lib.hid (show Held (w5.setCell ⟨w1.heap.size, 0, none⟩ (.bool false)) w1.heap.size BS { t with run := false } v from ⟨HH5.out.box.setRun _, HH5.out.row.other HH5.out.ne _, HH5.out.low⟩)
          clear hA6
          go_roundw
          case rel => exact ⟨k + 1, _, by go_num, congrArg _ (show A = min (lastA (ext n E T) (k + 1)) T by rw [HLN.out]; omega), by omega, by rw [HP2.out]; exact HHN.out, HWN.out, by omega, HCN.out⟩
          case measure => simp [intOf]; omega
        · replace HP2 : Hid (prS (ext n E T) T (k + 1) = showS t X) := Lib.hid (HP2.out.trans rfl)
          go_wp2_with fail
          refine (show_any w1.heap.size BS t (L + (A - L)) X k v w5 HH5.out HG5.out (by simpa using hX) (by omega) (by omega)).mono ?_
          rintro e w6 ⟨rfl, hA6, v6, hH6⟩
          have hs6 := hA6.size
          have hv2 : ∀ b, (v).ownBlock = some b → BS ≤ b := HH5.out.row.ge
          have HCN := Lib.hid (show ∀ i, i < n + 1 → ∀ j, j < 3 → (w6).cell? ⟨EB, i * 3 + j, none⟩ = some (.int .i64 (ext n E T i j)) from fun i hi j hj =>
            (hA6.cell (by show EB < _; omega) (by show EB ≠ w1.heap.size; omega) (fun e => by have := hv2 _ e; simp at this; omega)).trans (HC5.out i hi j hj))
          have HWN := Lib.hid (show Below w1.heap.size w1 (w6) from HW5.out.trans (hA6.below HW5.out.size (Nat.le_refl _) (fun b e => by have := hv2 b e; omega)))
          clear hv2
          have HHN := Lib.hid hH6
          clear hH6 hA6
          go_wp2_with fail
          go_roundw
          case rel => exact ⟨k + 1, _, by go_num, congrArg _ (show A = min (lastA (ext n E T) (k + 1)) T by rw [HLN.out]; omega), by omega, by rw [HP2.out]; exact HHN.out, HWN.out, by omega, HCN.out⟩
          case measure => simp [intOf]; omega
        · replace HP2 : Hid (prS (ext n E T) T (k + 1) = { t with run := false }) := Lib.hid (HP2.out.trans rfl)
          have q0 := HH5.out.box.run
          have f9 := HH5.out.box.frozen 0
          have hR5 := HH5.out.box.lt
          go_wp2_with fail
          have hA6 : Aside w1.heap.size v w5 (w5.setCell ⟨w1.heap.size, 0, none⟩ (.bool false)) := (Aside.refl _ _ _).setR 0 _
          have hs6 := hA6.size
          have hv2 : ∀ b, (v).ownBlock = some b → BS ≤ b := HH5.out.row.ge
          have HCN := Lib.hid (show ∀ i, i < n + 1 → ∀ j, j < 3 → (w5.setCell ⟨w1.heap.size, 0, none⟩ (.bool false)).cell? ⟨EB, i * 3 + j, none⟩ = some (.int .i64 (ext n E T i j)) from fun i hi j hj =>
            (hA6.cell (by show EB < _; omega) (by show EB ≠ w1.heap.size; omega) (fun e => by have := hv2 _ e; simp at this; omega)).trans (HC5.out i hi j hj))
          have HWN := Lib.hid (show Below w1.heap.size w1 (w5.setCell ⟨w1.heap.size, 0, none⟩ (.bool false)) from HW5.out.trans (hA6.below HW5.out.size (Nat.le_refl _) (fun b e => by have := hv2 b e; omega)))
          clear hv2
          have HHN := Lib.hid (show Held (w5.setCell ⟨w1.heap.size, 0, none⟩ (.bool false)) w1.heap.size BS { t with run := false } v from ⟨HH5.out.box.setRun _, HH5.out.row.other HH5.out.ne _, HH5.out.low⟩)
          clear hA6
          go_roundw
          case rel => exact ⟨k + 1, _, by go_num, congrArg _ (show A = min (lastA (ext n E T) (k + 1)) T by rw [HLN.out]; omega), by omega, by rw [HP2.out]; exact HHN.out, HWN.out, by omega, HCN.out⟩
          case measure => simp [intOf]; omega
    · obtain rfl : k = n + 1 := by omega
      have HF := Lib.hid (fin_ext (n := n) (E := E) (T := T))
      rw [HF.out] at hH
      obtain ⟨s, hs⟩ : ∃ s, s = finS n E T := ⟨_, rfl⟩
      rw [← hs] at hH
      have HS := Lib.hid hs
      clear hs hcE
      have r0 := hH.box.run
      have r1 := hH.box.tot
      have r2 := hH.box.sl
      have r3 := hH.box.row
      obtain ⟨aS, cS, rfl, _, _⟩ := hH.row.slice
      have hB0 : w.heap.size < w1.heap.size := by omega
      have b0 := (hW.cell (p := ⟨w.heap.size, 0, none⟩) hB0).trans c0
      have b1 := (hW.cell (p := ⟨w.heap.size, 1, none⟩) hB0).trans c1
      have b2 := (hW.cell (p := ⟨w.heap.size, 2, none⟩) hB0).trans c2
      have b3 := (hW.cell (p := ⟨w.heap.size, 3, none⟩) hB0).trans c3
      have g0 := (hW.frozen (p := ⟨w.heap.size, 0, none⟩) hB0).trans f0
      have g1 := (hW.frozen (p := ⟨w.heap.size, 1, none⟩) hB0).trans f1
      have g2 := (hW.frozen (p := ⟨w.heap.size, 2, none⟩) hB0).trans f2
      have g3 := (hW.frozen (p := ⟨w.heap.size, 3, none⟩) hB0).trans f3
      have hbw : Below w.heap.size w wr := HB1.out.trans (hW.mono (by omega))
      have hne : (Value.slice aS s.m cS).ownBlock ≠ some w.heap.size := fun e => by have := hH.row.ge _ e; omega
      have HH := Lib.hid hH
      have HNE := Lib.hid hne
      clear hH hne hW c0 c1 c2 c3 f0 f1 f2 f3
      go_wp2_with fail
      (try simp only [Exit.inBlock, Exit.then])
      refine bodyPost_ret (v := .tuple #[.agg #[.bool s.run, .int .i64 s.tot, .int .i64 s.sl, .slice aS s.m cS], .int .i64 0]) ?rc rfl ?_
      case rc =>
        rw [results_cell_tmp rfl]
        go_simp
      rw [← HS.out]
      refine ⟨?_, _, rfl, ?_⟩
      · repeat' (with_reducible first | exact Below.refl _ _ | assumption | refine Below.setCell ?_ ?_ _ | refine Below.alloc ?_ ?_ _ | refine below_drewN ?_ _ | refine Below.drew ?_)
        all_goals first | omega | (simp; done) | (simp; omega)
      · refine RowI.mono (base := BS) ?_ (by omega)
        repeat (refine RowI.other ?_ HNE.out _)
        exact HH.out.row
end Go.Proofs.Ytpbnkkeplhgepaa.CL
