
/-
  balance.needs.
-/
import Derived.Test.YtpbnkkeplhgepaaBalSpread
import Derived.Test.YtpbnkkeplhgepaaBalBound
import Derived.Test.YtpbnkkeplhgepaaMake
import Derived.BigQuiet
namespace Go.Proofs.Ytpbnkkeplhgepaa.BA
open Go.RowKit Go.Law Go.Law.Bal Ref
set_option linter.unusedVariables false
set_option linter.unusedSimpArgs false
set_option maxRecDepth 100000
/-- the two numbers of a cell -/
def wantA (E : Nat → Nat → Int) : Nat → Int := fun i => E i 2
def wantB (E : Nat → Nat → Int) : Nat → Int := fun i => max (E i 2) (E i 3)
theorem first_any (a b c d : Int) (w : World) :
    Calls Try.prog 52 #[.agg #[.int .i64 a, .int .i64 b, .int .i64 c, .int .i64 d]] w fun e w' => e = .returned (.int .i64 c) ∧ Below w.heap.size w w' := by
  go_enter Try.func52, Try.ntmps52
  go_wp2_with fail
  go_ret
  refine ⟨rfl, ?_⟩
  repeat' (with_reducible first | exact Below.refl _ _ | assumption | refine Below.setCell ?_ ?_ _ | refine Below.alloc ?_ ?_ _ | refine below_drewN ?_ _ | refine Below.drew ?_)
  all_goals first | omega | (simp; done) | (simp; omega)
theorem second_any (a b c d : Int) (w : World) :
    Calls Try.prog 53 #[.agg #[.int .i64 a, .int .i64 b, .int .i64 c, .int .i64 d]] w fun e w' => e = .returned (.int .i64 (max c d)) ∧ Below w.heap.size w w' := by
  have hmax : ∀ x y : Int, (if x < y then y else x) = max x y := fun x y => by omega
  go_enter Try.func53, Try.ntmps53
  go_wp2_with fail
  go_ret
  refine ⟨rfl, ?_⟩
  repeat' (with_reducible first | exact Below.refl _ _ | assumption | refine Below.setCell ?_ ?_ _ | refine Below.alloc ?_ ?_ _ | refine below_drewN ?_ _ | refine Below.drew ?_)
  all_goals first | omega | (simp; done) | (simp; omega)
def NeedsPost (cols n : Nat) (E : Nat → Nat → Int) (want : Nat → Int) (w : World) (e : Ending) (w' : World) : Prop :=
  Below w.heap.size w w' ∧ ∃ g, e = .returned (.slice (some ⟨g, 0, none⟩) cols cols) ∧ w.heap.size ≤ g ∧ OwnF w' 3 g cols (needF E want n cols)
set_option maxHeartbeats 8000000 in
theorem needs_first (cols n : Nat) (E : Nat → Nat → Int) (a : Option Addr) (c : Nat) (w : World) (ha : StrF w a n 4 E) (hc : 1 ≤ cols ∧ cols ≤ 64) (hn : n ≤ 4000) (hE : ∀ i, i < n → cellOk (cols : Int) (E i)) :
    Calls Try.prog 51 #[.int .i64 cols, .slice a n c, .func (.func 52) #[] #[]] w (NeedsPost cols n E (wantA E) w) := by
  have HA := Lib.hid ha
  have HE := Lib.hid hE
  have HW := Lib.hid (show ∀ i, i < n → wantA E i ≤ 31680 from fun i hi => by obtain ⟨_, _, h2, h3⟩ := hE i hi; unfold wantA; omega)
  have hmk := make_ints cols (by omega)
  clear ha hE
  go_enter Try.func51, Try.ntmps51
  go_wp2_with fail
  go_loopw [8] (fun sv wr => ∃ t : Nat, sv = .int .i64 ((t : Int) + 1) ∧ t ≤ cols ∧ OwnF wr 3 w.heap.size cols (needF E (wantA E) n t) ∧ Below w.heap.size w wr) (fun sv _ => cols + 1 - (intOf sv).toNat)
  case atStart => exact ⟨0, rfl, by omega, OwnF.make 3 cols, (Below.refl _ _).alloc (Nat.le_refl _) _⟩
  case round =>
    obtain ⟨t, rfl, ht, hO, hbel⟩ := hrel
    by_cases htc : t < cols
    · obtain ⟨wq, rfl⟩ : ∃ wq : World, wq = wr := ⟨_, rfl⟩
      clear hmk
      have htd : decide ((t : Int) + 1 ≤ (cols : Int)) = true := decide_eq_true (by omega)
      go_wp2_with fail
      go_loopw [22] (fun ix wr => ∃ i : Nat, ix = .int .i64 i ∧ i ≤ n ∧ OwnF wr 3 w.heap.size cols (spanF E (wantA E) (t + 1) (needF E (wantA E) n t) i) ∧ Below w.heap.size w wr) (fun ix _ => n - (intOf ix).toNat)
      case atStart => exact ⟨0, rfl, by omega, hO, hbel⟩
      case round =>
        clear hO hbel
        obtain ⟨i, rfl, hi, hO, hbel⟩ := hrel
        by_cases hin : i < n
        · obtain ⟨b, off, rfl, hcell⟩ := HA.out.below (Nat.le_refl _) hbel (by omega)
          have d0 := hcell i hin 0 (by omega)
          have d1 := hcell i hin 1 (by omega)
          have d2 := hcell i hin 2 (by omega)
          have d3 := hcell i hin 3 (by omega)
          obtain ⟨⟨hC1, hC2⟩, ⟨hS1, hS2⟩, ⟨hM1, hM2⟩, hP1, hP2⟩ := HE.out i hin
          have hfb := spanF_bd (E := E) (want := wantA E) (span := t + 1) (needF_bd (E := E) (want := wantA E) (n := n) HE.out HW.out t) HE.out HW.out (by omega) i hi
          have hnext : spanF E (wantA E) (t + 1) (needF E (wantA E) n t) (i + 1) = if E i 1 = ((t + 1 : Nat) : Int) then cellF (spanF E (wantA E) (t + 1) (needF E (wantA E) n t) i) (E i 0).toNat (t + 1) (wantA E i) else spanF E (wantA E) (t + 1) (needF E (wantA E) n t) i := rfl
          have hwi := HW.out i hin
          have hwd : wantA E i = wantA E i := rfl
          obtain ⟨f, hf⟩ : ∃ f, f = spanF E (wantA E) (t + 1) (needF E (wantA E) n t) i := ⟨_, rfl⟩
          rw [← hf] at hO hfb hnext
          have HN := Lib.hid hnext
          have HFB := Lib.hid hfb
          have HO := Lib.hid hO
          have hG : w.heap.size < wr.heap.size := hO.lt
          replace d0 : wr.cell? ⟨b, off + i * 4, none⟩ = some (.int .i64 (E i 0)) := d0
          clear hcell hf hnext hfb hO hwd
          by_cases hsp : E i 1 = (t : Int) + 1
          · have hne : (E i 1 != (t : Int) + 1) = false := by simpa using hsp
            obtain ⟨C, hC⟩ : ∃ C : Nat, E i 0 = (C : Int) := ⟨(E i 0).toNat, by omega⟩
            have HN2 := Lib.hid (show spanF E (wantA E) (t + 1) (needF E (wantA E) n t) (i + 1) = cellF f C (t + 1) (wantA E i) by rw [HN.out, if_pos (by omega), hC]; rfl)
            rw [hC] at d0 hC1 hC2 hS2
            clear hC HN
            have hlen : C + (t + 1) - C = t + 1 := by omega
            go_wp2_with fail
            refine (first_any _ _ _ _ _).mono ?_
            rintro e w3 ⟨rfl, hb3⟩
            have hs3 := hb3.size
            simp at hs3
            have hO3 : OwnF w3 3 w.heap.size cols f := (HO.out.alloc _).below hb3 (by simp; omega)
            have hbel3 : Below w.heap.size w w3 := (hbel.alloc (by omega) _).trans (hb3.mono (by simp; omega))
            have HO3 := Lib.hid hO3
            clear hb3 hO3
            go_wp2_with fail
            refine (sum_any (t + 1) (fun j => f (C + j)) _ _ _ ?hx (by omega) ?hy).mono ?_
            case hx => exact fun _ => ⟨w.heap.size, C, rfl, fun j hj => HO3.out.cell (by omega)⟩
            case hy => exact fun j hj => by have := HFB.out (C + j) (by omega); omega
            rintro e w4 ⟨rfl, rfl⟩
            have hsb := sumB_nonneg (f := fun j => f (C + j)) (s := t + 1) (fun j hj => (HFB.out (C + j) (by omega)).1)
            have hsb2 := (sumB_bd (f := fun j => f (C + j)) (k := t + 1) (B := 31680) (fun j hj => HFB.out (C + j) (by omega))).2
            obtain ⟨Z, hZ⟩ : ∃ Z, Z = sumB (fun j => f (C + j)) (t + 1) := ⟨_, rfl⟩
            rw [← hZ] at hsb hsb2 ⊢
            by_cases hl : 0 < E i 2 - Z
            · have HN3 := Lib.hid (show spanF E (wantA E) (t + 1) (needF E (wantA E) n t) (i + 1) = giveF f C (t + 1) (E i 2 - Z) by rw [HN2.out]; unfold cellF; rw [← hZ, if_pos (by show 0 < E i 2 - Z; omega)]; rfl)
              clear hZ
              go_wp2_with fail
              refine (spread_any w.heap.size cols C (t + 1) _ f (E i 2 - Z) _ HO3.out (by omega) (by omega) (by omega) ⟨by omega, by omega⟩ (fun j hj => by have := HFB.out j hj; omega)).mono ?_
              rintro e w5 ⟨rfl, hO5, has5⟩
              have hbel5 : Below w.heap.size w w5 := hbel3.trans (has5.below (by omega) (Nat.le_refl _) (fun k hk => by simp [Value.ownBlock] at hk))
              clear has5
              go_wp2_with fail
              go_roundw
              case rel => exact ⟨i + 1, by go_num, by omega, by rw [HN3.out]; exact hO5, hbel5⟩
              case measure => simp [intOf]; omega
            · have HN3 := Lib.hid (show spanF E (wantA E) (t + 1) (needF E (wantA E) n t) (i + 1) = f by rw [HN2.out]; unfold cellF; rw [← hZ, if_neg (by show ¬ 0 < E i 2 - Z; omega)])
              clear hZ
              go_wp2_with fail
              go_roundw
              case rel => exact ⟨i + 1, by go_num, by omega, by rw [HN3.out]; exact HO3.out, hbel3⟩
              case measure => simp [intOf]; omega
          · have hne : (E i 1 != (t : Int) + 1) = true := by simpa using hsp
            have HN2 := Lib.hid (show spanF E (wantA E) (t + 1) (needF E (wantA E) n t) (i + 1) = f by rw [HN.out, if_neg (by omega)])
            clear HN
            go_wp2_with fail
            go_roundw
            case rel =>
              refine ⟨i + 1, by go_num, by omega, ?_, ?_⟩
              · rw [HN2.out]; exact HO.out.alloc _
              · repeat' (with_reducible first | exact Below.refl _ _ | assumption | refine Below.setCell ?_ ?_ _ | refine Below.alloc ?_ ?_ _ | refine below_drewN ?_ _ | refine Below.drew ?_)
                all_goals first | omega | (simp; done) | (simp; omega)
            case measure => simp [intOf]; omega
        · obtain rfl : n = i := by omega
          go_wp2_with fail
          go_roundw
          case rel => exact ⟨t + 1, by go_num, by omega, hO, hbel⟩
          case measure => simp [intOf]; omega
    · obtain rfl : t = cols := by omega
      go_wp2_with fail
      go_ret
      exact ⟨hbel, _, rfl, Nat.le_refl _, hO⟩
set_option maxHeartbeats 8000000 in
theorem needs_second (cols n : Nat) (E : Nat → Nat → Int) (a : Option Addr) (c : Nat) (w : World) (ha : StrF w a n 4 E) (hc : 1 ≤ cols ∧ cols ≤ 64) (hn : n ≤ 4000) (hE : ∀ i, i < n → cellOk (cols : Int) (E i)) :
    Calls Try.prog 51 #[.int .i64 cols, .slice a n c, .func (.func 53) #[] #[]] w (NeedsPost cols n E (wantB E) w) := by
  have HA := Lib.hid ha
  have HE := Lib.hid hE
  have HW := Lib.hid (show ∀ i, i < n → wantB E i ≤ 31680 from fun i hi => by obtain ⟨_, _, h2, h3⟩ := hE i hi; unfold wantB; omega)
  have hmk := make_ints cols (by omega)
  clear ha hE
  go_enter Try.func51, Try.ntmps51
  go_wp2_with fail
  go_loopw [8] (fun sv wr => ∃ t : Nat, sv = .int .i64 ((t : Int) + 1) ∧ t ≤ cols ∧ OwnF wr 3 w.heap.size cols (needF E (wantB E) n t) ∧ Below w.heap.size w wr) (fun sv _ => cols + 1 - (intOf sv).toNat)
  case atStart => exact ⟨0, rfl, by omega, OwnF.make 3 cols, (Below.refl _ _).alloc (Nat.le_refl _) _⟩
  case round =>
    obtain ⟨t, rfl, ht, hO, hbel⟩ := hrel
    by_cases htc : t < cols
    · obtain ⟨wq, rfl⟩ : ∃ wq : World, wq = wr := ⟨_, rfl⟩
      clear hmk
      have htd : decide ((t : Int) + 1 ≤ (cols : Int)) = true := decide_eq_true (by omega)
      go_wp2_with fail
      go_loopw [22] (fun ix wr => ∃ i : Nat, ix = .int .i64 i ∧ i ≤ n ∧ OwnF wr 3 w.heap.size cols (spanF E (wantB E) (t + 1) (needF E (wantB E) n t) i) ∧ Below w.heap.size w wr) (fun ix _ => n - (intOf ix).toNat)
      case atStart => exact ⟨0, rfl, by omega, hO, hbel⟩
      case round =>
        clear hO hbel
        obtain ⟨i, rfl, hi, hO, hbel⟩ := hrel
        by_cases hin : i < n
        · obtain ⟨b, off, rfl, hcell⟩ := HA.out.below (Nat.le_refl _) hbel (by omega)
          have d0 := hcell i hin 0 (by omega)
          have d1 := hcell i hin 1 (by omega)
          have d2 := hcell i hin 2 (by omega)
          have d3 := hcell i hin 3 (by omega)
          obtain ⟨⟨hC1, hC2⟩, ⟨hS1, hS2⟩, ⟨hM1, hM2⟩, hP1, hP2⟩ := HE.out i hin
          have hfb := spanF_bd (E := E) (want := wantB E) (span := t + 1) (needF_bd (E := E) (want := wantB E) (n := n) HE.out HW.out t) HE.out HW.out (by omega) i hi
          have hnext : spanF E (wantB E) (t + 1) (needF E (wantB E) n t) (i + 1) = if E i 1 = ((t + 1 : Nat) : Int) then cellF (spanF E (wantB E) (t + 1) (needF E (wantB E) n t) i) (E i 0).toNat (t + 1) (wantB E i) else spanF E (wantB E) (t + 1) (needF E (wantB E) n t) i := rfl
          have hwi := HW.out i hin
          have hwd : wantB E i = wantB E i := rfl
          obtain ⟨f, hf⟩ : ∃ f, f = spanF E (wantB E) (t + 1) (needF E (wantB E) n t) i := ⟨_, rfl⟩
          rw [← hf] at hO hfb hnext
          have HN := Lib.hid hnext
          have HFB := Lib.hid hfb
          have HO := Lib.hid hO
          have hG : w.heap.size < wr.heap.size := hO.lt
          replace d0 : wr.cell? ⟨b, off + i * 4, none⟩ = some (.int .i64 (E i 0)) := d0
          clear hcell hf hnext hfb hO hwd
          by_cases hsp : E i 1 = (t : Int) + 1
          · have hne : (E i 1 != (t : Int) + 1) = false := by simpa using hsp
            obtain ⟨C, hC⟩ : ∃ C : Nat, E i 0 = (C : Int) := ⟨(E i 0).toNat, by omega⟩
            have HN2 := Lib.hid (show spanF E (wantB E) (t + 1) (needF E (wantB E) n t) (i + 1) = cellF f C (t + 1) (wantB E i) by rw [HN.out, if_pos (by omega), hC]; rfl)
            rw [hC] at d0 hC1 hC2 hS2
            clear hC HN
            have hlen : C + (t + 1) - C = t + 1 := by omega
            go_wp2_with fail
            refine (second_any _ _ _ _ _).mono ?_
            rintro e w3 ⟨rfl, hb3⟩
            have hs3 := hb3.size
            simp at hs3
            have hO3 : OwnF w3 3 w.heap.size cols f := (HO.out.alloc _).below hb3 (by simp; omega)
            have hbel3 : Below w.heap.size w w3 := (hbel.alloc (by omega) _).trans (hb3.mono (by simp; omega))
            have HO3 := Lib.hid hO3
            clear hb3 hO3
            go_wp2_with fail
            refine (sum_any (t + 1) (fun j => f (C + j)) _ _ _ ?hx (by omega) ?hy).mono ?_
            case hx => exact fun _ => ⟨w.heap.size, C, rfl, fun j hj => HO3.out.cell (by omega)⟩
            case hy => exact fun j hj => by have := HFB.out (C + j) (by omega); omega
            rintro e w4 ⟨rfl, rfl⟩
            have hsb := sumB_nonneg (f := fun j => f (C + j)) (s := t + 1) (fun j hj => (HFB.out (C + j) (by omega)).1)
            have hsb2 := (sumB_bd (f := fun j => f (C + j)) (k := t + 1) (B := 31680) (fun j hj => HFB.out (C + j) (by omega))).2
            obtain ⟨Z, hZ⟩ : ∃ Z, Z = sumB (fun j => f (C + j)) (t + 1) := ⟨_, rfl⟩
            rw [← hZ] at hsb hsb2 ⊢
            by_cases hl : 0 < max (E i 2) (E i 3) - Z
            · have HN3 := Lib.hid (show spanF E (wantB E) (t + 1) (needF E (wantB E) n t) (i + 1) = giveF f C (t + 1) (max (E i 2) (E i 3) - Z) by rw [HN2.out]; unfold cellF; rw [← hZ, if_pos (by show 0 < max (E i 2) (E i 3) - Z; omega)]; rfl)
              clear hZ
              go_wp2_with fail
              refine (spread_any w.heap.size cols C (t + 1) _ f (max (E i 2) (E i 3) - Z) _ HO3.out (by omega) (by omega) (by omega) ⟨by omega, by omega⟩ (fun j hj => by have := HFB.out j hj; omega)).mono ?_
              rintro e w5 ⟨rfl, hO5, has5⟩
              have hbel5 : Below w.heap.size w w5 := hbel3.trans (has5.below (by omega) (Nat.le_refl _) (fun k hk => by simp [Value.ownBlock] at hk))
              clear has5
              go_wp2_with fail
              go_roundw
              case rel => exact ⟨i + 1, by go_num, by omega, by rw [HN3.out]; exact hO5, hbel5⟩
              case measure => simp [intOf]; omega
            · have HN3 := Lib.hid (show spanF E (wantB E) (t + 1) (needF E (wantB E) n t) (i + 1) = f by rw [HN2.out]; unfold cellF; rw [← hZ, if_neg (by show ¬ 0 < max (E i 2) (E i 3) - Z; omega)])
              clear hZ
              go_wp2_with fail
              go_roundw
              case rel => exact ⟨i + 1, by go_num, by omega, by rw [HN3.out]; exact HO3.out, hbel3⟩
              case measure => simp [intOf]; omega
          · have hne : (E i 1 != (t : Int) + 1) = true := by simpa using hsp
            have HN2 := Lib.hid (show spanF E (wantB E) (t + 1) (needF E (wantB E) n t) (i + 1) = f by rw [HN.out, if_neg (by omega)])
            clear HN
            go_wp2_with fail
            go_roundw
            case rel =>
              refine ⟨i + 1, by go_num, by omega, ?_, ?_⟩
              · rw [HN2.out]; exact HO.out.alloc _
              · repeat' (with_reducible first | exact Below.refl _ _ | assumption | refine Below.setCell ?_ ?_ _ | refine Below.alloc ?_ ?_ _ | refine below_drewN ?_ _ | refine Below.drew ?_)
                all_goals first | omega | (simp; done) | (simp; omega)
            case measure => simp [intOf]; omega
        · obtain rfl : n = i := by omega
          go_wp2_with fail
          go_roundw
          case rel => exact ⟨t + 1, by go_num, by omega, hO, hbel⟩
          case measure => simp [intOf]; omega
    · obtain rfl : t = cols := by omega
      go_wp2_with fail
      go_ret
      exact ⟨hbel, _, rfl, Nat.le_refl _, hO⟩
end Go.Proofs.Ytpbnkkeplhgepaa.BA
