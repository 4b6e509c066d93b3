

/-
  The reference's Ends.
-/
import Derived.Test.YtnigebnibikolaaLnOne
import Derived.Test.YtnigebnibikolaaLnEnds
import Derived.Deep.CutRange
import Derived.Deep.CutBlock
namespace Go.Proofs.Ytnigebnibikolaa.LN
open Go.RowKit Go.Law Go.Law.Ln
set_option linter.unusedVariables false
set_option linter.unusedSimpArgs false
set_option maxRecDepth 100000
/-- while lines are gathered -/
structure ErS (w : World) (aW : Option Addr) (nw cW : Nat) (D : Int) (v : Value) (xs : List Line) (wr : World) : Prop where
  below : Below w.heap.size w wr
  shape : Blk wr w.heap.size #[.slice aW nw cW, .int .i64 D] 60
  lines : RowL wr (w.heap.size + 1) 74 6 v xs.length (linesC xs)
theorem ErS.under {w : World} {aW : Option Addr} {nw cW : Nat} {D : Int} {v : Value} {xs : List Line} {wr w' : World} (h : ErS w aW nw cW D v xs wr) (hb : Below wr.heap.size wr w') : ErS w aW nw cW D v xs w' :=
  ⟨h.below.trans (hb.mono h.below.size), h.shape.below hb h.shape.lt, h.lines.below hb (Nat.le_refl _)⟩
theorem ErS.append {w : World} {aW : Option Addr} {nw cW : Nat} {D : Int} {v : Value} {xs : List Line} {wr w' : World} (h : ErS w aW nw cW D v xs wr) {o : Obj} {v' : Value} {xs' : List Line} (hg : (wr.alloc o).grownBy w' v.ownBlock) (hr : RowL w' (w.heap.size + 1) 74 6 v' xs'.length (linesC xs')) : ErS w aW nw cW D v' xs' w' := by
  have ha := h.under ((Below.refl _ _).alloc (Nat.le_refl _) o)
  refine ⟨Below.grown (B := w.heap.size) (a := w) ha.below hg ha.below.size (fun k hk => by have := RowL.ge h.lines k hk; omega), ha.shape.block (hg.block _ ha.shape.lt (fun he => ?_)), hr⟩
  have := RowL.ge h.lines _ he.symm
  omega
set_option maxHeartbeats 4000000 in
theorem endsR_any (n : Nat) (L : Nat → Part) (nw : Nat) (W : Nat → Int) (D : Int) (aP aW : Option Addr) (cP cW a num : Nat) (w : World) (mP : CellsF w aP n 6 (fun i => (L i).V)) (mW : IntsF w aW nw W) (hn : n ≤ 8000) (hcP : n ≤ cP) (hcM : cP ≤ 1000000000000000) (ha : a ≤ n) (hok : ∀ i, i < n → (L i).Ok) (hnw : 1 ≤ nw ∧ nw ≤ 1000) (hnum : num ≤ 100000) :
    Calls Try.prog 65 #[.slice aP n cP, .agg #[.slice aW nw cW, .int .i64 D], .int .i64 a, .int .i64 num] w (RowPost w (endF n L nw W a num)) := by
  have HP := Lib.hid mP
  have HW := Lib.hid mW
  obtain ⟨R, hR⟩ : ∃ R, R = endF n L nw W a num := ⟨_, rfl⟩
  rw [← hR]
  have HR := Lib.hid hR
  have hI := info_parts (show (Try.prog.info? 74).map (fun i => (i.zero, i.size, i.bytes)) = some (some (.agg #[.int .i64 0, .int .i64 0, .int .i64 0, .int .i64 0, .int .i64 0, .int .i64 0]), 6, 48) by kernel_rfl)
  have HI := Lib.hid hI
  have hS0 : ErS w aW nw cW D (.slice none 0 0) [] (w.alloc (Obj.cells #[.slice aW nw cW, .int .i64 D] 60)) := ⟨(Below.refl _ _).alloc (Nat.le_refl _) _, Blk.new _ _ _, RowL.nil _ _ _ _⟩
  have HS0 := Lib.hid hS0
  clear mP mW hR hI hS0
  go_enter Try.func65, Try.ntmps65
  go_wp2_with fail
  go_loopw [9, 10, 11] (fun v fv iz wr => ∃ (z : Nat) (xs : List Line), iz = .int .i64 z ∧ fv = .bool xs.isEmpty ∧ a ≤ z ∧ z ≤ n + 1 ∧ R = xs ++ endG n L nw W a num (n + 1 - z) z xs.isEmpty ∧ xs.length ≤ z ∧ ErS w aW nw cW D v xs wr) (fun _ _ iz _ => n + 1 - (intOf iz).toNat)
  case atStart => exact ⟨a, [], rfl, rfl, Nat.le_refl _, by omega, HR.out, by simp, HS0.out⟩
  case round =>
    obtain ⟨z, xs, rfl, rfl, haz, hz1, hE, hxl, hS⟩ := hrel
    have HS := Lib.hid hS
    have HE := Lib.hid hE
    clear hS hE HR HS0
    by_cases hzn' : z ≤ n
    · have hzn := hzn'
      clear hzn'
      have hzi : (z : Int) ≤ (n : Int) := by omega
      obtain ⟨f, hf⟩ : ∃ f, n + 1 - z = f + 1 := ⟨n - z, by omega⟩
      rw [hf] at HE
      have hf2 : n + 1 - (z + 1) = f := by omega
      have HF2 := Lib.hid hf2
      clear hf hf2
      cases ho : okB n L a z
      · have HE2 := Lib.hid (HE.out.trans (by rw [endG_no ho]))
        have hmu : mustB n L z = false := by
          cases hm : mustB n L z
          · rfl
          · rw [okB_must hm] at ho; cases ho
        have HMU := Lib.hid hmu
        cases hma : mayB n L z
        · have HB1 := Lib.hid hma
          clear HE ho hmu hma
          go_wp2_with fail
          refine (canStop_any n L aP cP z wr (HP.out.below (Nat.le_refl _) HS.out.below) hn hzn hok).mono ?_
          rintro e w1 ⟨rfl, rfl⟩
          rw [HB1.out]
          go_wp2_with fail
          refine (stop_any n L aP cP z wr (HP.out.below (Nat.le_refl _) (HS).out.below) hn hzn).mono ?_
          rintro e w2 ⟨rfl, rfl⟩
          rw [HMU.out]
          go_wp2_with fail
          go_roundw
          case rel => exact ⟨z + 1, xs, by go_num, (by first | rfl | exact congrArg Value.bool HISE.out), by omega, by omega, by rw [HF2.out]; first | exact HE2.out | (rw [← HISE.out]; exact HE2.out), by (first | omega | (simp; omega)), (HS).out⟩
          case measure => simp [intOf]; omega
        · have HB1 := Lib.hid hma
          have hlt : ¬ (a : Int) < (z : Int) := by
            intro h
            unfold okB at ho
            rw [hma] at ho
            simp at ho
            omega
          clear HE ho hmu hma
          go_wp2_with fail
          refine (canStop_any n L aP cP z wr (HP.out.below (Nat.le_refl _) HS.out.below) hn hzn hok).mono ?_
          rintro e w1 ⟨rfl, rfl⟩
          rw [HB1.out]
          go_wp2_with fail
          refine (stop_any n L aP cP z wr (HP.out.below (Nat.le_refl _) (HS).out.below) hn hzn).mono ?_
          rintro e w2 ⟨rfl, rfl⟩
          rw [HMU.out]
          go_wp2_with fail
          refine (stop_any n L aP cP z wr (HP.out.below (Nat.le_refl _) (HS).out.below) hn hzn).mono ?_
          rintro e w2 ⟨rfl, rfl⟩
          rw [HMU.out]
          go_wp2_with fail
          go_roundw
          case rel => exact ⟨z + 1, xs, by go_num, (by first | rfl | exact congrArg Value.bool HISE.out), by omega, by omega, by rw [HF2.out]; first | exact HE2.out | (rw [← HISE.out]; exact HE2.out), by (first | omega | (simp; omega)), (HS).out⟩
          case measure => simp [intOf]; omega
      · have hma : mayB n L z = true := by
          unfold okB at ho
          rw [Bool.and_eq_true] at ho
          exact ho.1
        have HB1 := Lib.hid hma
        have HADD := Lib.hid (fun (h : (!fullB (lineF n L nw W a z num) || xs.isEmpty) = true) => HE.out.trans (by rw [endG_add ho h, List.append_cons]))
        have HSKIP := Lib.hid (fun (h : (!fullB (lineF n L nw W a z num) || xs.isEmpty) = false) => HE.out.trans (by rw [endG_skip ho h]))
        have hbd := line_bd (nw := nw) (W := W) (num := num) hn hok haz hzn
        obtain ⟨Nt, hNt⟩ : ∃ v, v = (lineF n L nw W a z num).nat := ⟨_, rfl⟩
        obtain ⟨St, hSt⟩ : ∃ v, v = (lineF n L nw W a z num).str := ⟨_, rfl⟩
        obtain ⟨Rs, hRs⟩ : ∃ v, v = (lineF n L nw W a z num).shr := ⟨_, rfl⟩
        obtain ⟨Wd, hWd⟩ : ∃ v, v = (lineF n L nw W a z num).wid := ⟨_, rfl⟩
        have hx : lineF n L nw W a z num = ⟨a, z, Nt, St, Rs, Wd⟩ := by rw [hNt, hSt, hRs, hWd]; rfl
        rw [← hNt, ← hSt, ← hRs] at hbd
        obtain ⟨bd1, bd2, bd3⟩ := hbd
        rw [hx] at HADD HSKIP
        have HX := Lib.hid hx
        clear hx hNt hSt hRs hWd HE
        by_cases hlt0 : a < z
        · have hlt : (a : Int) < (z : Int) := by omega
          clear ho hma hlt0
          have q0 := HS.out.shape.cell (i := 0) rfl
          have q1 := HS.out.shape.cell (i := 1) rfl
          have zq := HS.out.shape.lt
          go_wp2_with fail
          refine (canStop_any n L aP cP z wr (HP.out.below (Nat.le_refl _) HS.out.below) hn hzn hok).mono ?_
          rintro e w1 ⟨rfl, rfl⟩
          rw [HB1.out]
          go_wp2_with fail
          refine (oneLine_any n L nw W D aP aW cP cW a z num wr (HP.out.below (Nat.le_refl _) HS.out.below) (HW.out.below (Nat.le_refl _) HS.out.below) hn hcP hcM haz hzn hok hnw hnum).mono ?_
          rintro e w2 ⟨rfl, hb2⟩
          rw [HX.out]
          rw [show lineV ⟨a, z, Nt, St, Rs, Wd⟩ = .agg #[.int .i64 a, .int .i64 z, .int .i64 Nt, .int .i64 St, .int .i64 Rs, .int .i64 Wd] from rfl]
          have HS2 := Lib.hid (HS.out.under hb2)
          clear q0 q1 zq hb2
          go_upto_region 8 with (fail)
          obtain ⟨w3, hw3⟩ : ∃ w3, w3 = w2.alloc (Obj.cells #[.int .i64 a, .int .i64 z, .int .i64 Nt, .int .i64 St, .int .i64 Rs, .int .i64 Wd] 74) := ⟨_, rfl⟩
          rw [← hw3]
          have q3 : Blk w3 w2.heap.size #[.int .i64 a, .int .i64 z, .int .i64 Nt, .int .i64 St, .int .i64 Rs, .int .i64 Wd] 74 := by rw [hw3]; exact Blk.new _ _ _
          have hb23 : Below w2.heap.size w2 w3 := by rw [hw3]; exact (Below.refl _ _).alloc (Nat.le_refl _) _
          have HS3 := Lib.hid (HS2.out.under hb23)
          obtain ⟨q, hq⟩ : ∃ q, q = w2.heap.size := ⟨_, rfl⟩
          rw [← hq] at q3 ⊢
          clear hw3 hq hb23 HS2
          have x0 := q3.cell (i := 0) rfl
          have x1 := q3.cell (i := 1) rfl
          have x2 := q3.cell (i := 2) rfl
          have x3 := q3.cell (i := 3) rfl
          have x4 := q3.cell (i := 4) rfl
          have x5 := q3.cell (i := 5) rfl
          have zx := q3.lt
          clear q3
          cases hfi : xs.isEmpty
          · have HFI := Lib.hid hfi
            cases hfl : fullB ⟨a, z, Nt, St, Rs, Wd⟩
            · have hle : Nt - Rs ≤ Wd := by have := of_decide_eq_false hfl; simp only at this; omega
              have HE3 := Lib.hid (HADD.out (by rw [hfl]; rfl))
              have HISE := Lib.hid (show false = (xs ++ [(⟨a, z, Nt, St, Rs, Wd⟩ : Line)]).isEmpty by simp)
              clear hfi hfl HADD HSKIP
              obtain ⟨ii, hii, hz0, hz1, hz2⟩ := HI.out
              obtain ⟨av, cv, hv, hxc, hcm⟩ := RowL.slice HS3.out.lines
              have HCV := Lib.hid hcm
              subst hv
              clear hxc hcm
              go_wp2_with (at_builtin; go_loud (refine wpList_append_own _ rfl _ _ 61 rfl (w.heap.size + 1) 74 ii _ 6 48 Try.underlying61 hii hz0 hz1 hz2 rfl (by decide) _ _ _ rfl (RowL.alloc HS3.out.lines _) ⟨w3.heap.size, 0, none⟩ 1 1 [.int .i64 (a : Int), .int .i64 (z : Int), .int .i64 Nt, .int .i64 St, .int .i64 Rs, .int .i64 Wd] rfl rfl ?k1fp ?k2fp ?k3fp ?k4fp ?k5fp ?_))
              case k1fp =>
                intro j u hj
                have e : Addr.add ⟨w3.heap.size, 0, none⟩ j = ⟨w3.heap.size, j, none⟩ := by simp [Addr.add]; omega
                rw [e]
                exact cellNew (by simpa using hj)
              case k2fp => intro u hu; simp at hu; rcases hu with rfl | rfl | rfl | rfl | rfl | rfl <;> rfl
              case k3fp => unfold maxLen; (try simp); (try omega)
              case k4fp => (try simp); (try omega)
              case k5fp => have := HS3.out.below.size; (try simp); (try omega)
              intro v5 w5 hown hgrow _
              have HS5 := Lib.hid (HS3.out.append hgrow (RowL.fit hown))
              clear hown hgrow x0 x1 x2 x3 x4 x5 zx hii hz0 hz1 hz2 HS3
              go_wp2_with fail
              cases hmu : mustB n L z
              · have HMU := Lib.hid hmu
                have HE2 := Lib.hid (HE3.out.trans (by rw [HMU.out, if_neg (by simp)]))
                clear hmu HE3
                refine (stop_any n L aP cP z w5 (HP.out.below (Nat.le_refl _) (HS5).out.below) hn hzn).mono ?_
                rintro e w2 ⟨rfl, rfl⟩
                rw [HMU.out]
                go_wp2_with fail
                go_roundw
                case rel => exact ⟨z + 1, xs ++ [⟨a, z, Nt, St, Rs, Wd⟩], by go_num, (by first | rfl | exact congrArg Value.bool HISE.out), by omega, by omega, by rw [HF2.out]; first | exact HE2.out | (rw [← HISE.out]; exact HE2.out), by (first | omega | (simp; omega)), (HS5).out⟩
                case measure => simp [intOf]; omega
              · have HMU := Lib.hid hmu
                have HE2 := Lib.hid (HE3.out.trans (by rw [HMU.out, if_pos rfl, List.append_nil]))
                clear hmu HE3
                refine (stop_any n L aP cP z w5 (HP.out.below (Nat.le_refl _) (HS5).out.below) hn hzn).mono ?_
                rintro e w2 ⟨rfl, rfl⟩
                rw [HMU.out]
                go_wp2_with fail
                go_ret
                refine ⟨_, rfl, ?_, (HS5).out.below⟩
                rw [HE2.out]
                exact (HS5).out.lines.mono (Nat.le_succ _)
            · have hle : ¬ Nt - Rs ≤ Wd := by have := of_decide_eq_true hfl; simp only at this; omega
              have HE3 := Lib.hid (HSKIP.out (by rw [hfl, hfi]; rfl))
              have HISE := Lib.hid (show false = xs.isEmpty by rw [hfi])
              clear hfi hfl HADD HSKIP
              go_wp2_with fail
              cases hmu : mustB n L z
              · have HMU := Lib.hid hmu
                have HE2 := Lib.hid (HE3.out.trans (by rw [HMU.out, if_neg (by simp)]))
                clear hmu HE3
                refine (stop_any n L aP cP z w3 (HP.out.below (Nat.le_refl _) (HS3).out.below) hn hzn).mono ?_
                rintro e w2 ⟨rfl, rfl⟩
                rw [HMU.out]
                go_wp2_with fail
                go_roundw
                case rel => exact ⟨z + 1, xs, by go_num, (by first | rfl | exact congrArg Value.bool HISE.out), by omega, by omega, by rw [HF2.out]; first | exact HE2.out | (rw [← HISE.out]; exact HE2.out), by (first | omega | (simp; omega)), (HS3).out⟩
                case measure => simp [intOf]; omega
              · have HMU := Lib.hid hmu
                have HE2 := Lib.hid (HE3.out.trans (by rw [HMU.out, if_pos rfl, List.append_nil]))
                clear hmu HE3
                refine (stop_any n L aP cP z w3 (HP.out.below (Nat.le_refl _) (HS3).out.below) hn hzn).mono ?_
                rintro e w2 ⟨rfl, rfl⟩
                rw [HMU.out]
                go_wp2_with fail
                go_ret
                refine ⟨_, rfl, ?_, (HS3).out.below⟩
                rw [HE2.out]
                exact (HS3).out.lines.mono (Nat.le_succ _)
          · have HFI := Lib.hid hfi
            have HE3 := Lib.hid (HADD.out (by rw [hfi]; simp))
            have HISE := Lib.hid (show false = (xs ++ [(⟨a, z, Nt, St, Rs, Wd⟩ : Line)]).isEmpty by simp)
            clear hfi HADD HSKIP
            obtain ⟨ii, hii, hz0, hz1, hz2⟩ := HI.out
            obtain ⟨av, cv, hv, hxc, hcm⟩ := RowL.slice HS3.out.lines
            have HCV := Lib.hid hcm
            subst hv
            clear hxc hcm
            go_wp2_with (at_builtin; go_loud (refine wpList_append_own _ rfl _ _ 61 rfl (w.heap.size + 1) 74 ii _ 6 48 Try.underlying61 hii hz0 hz1 hz2 rfl (by decide) _ _ _ rfl (RowL.alloc HS3.out.lines _) ⟨w3.heap.size, 0, none⟩ 1 1 [.int .i64 (a : Int), .int .i64 (z : Int), .int .i64 Nt, .int .i64 St, .int .i64 Rs, .int .i64 Wd] rfl rfl ?k1gp ?k2gp ?k3gp ?k4gp ?k5gp ?_))
            case k1gp =>
              intro j u hj
              have e : Addr.add ⟨w3.heap.size, 0, none⟩ j = ⟨w3.heap.size, j, none⟩ := by simp [Addr.add]; omega
              rw [e]
              exact cellNew (by simpa using hj)
            case k2gp => intro u hu; simp at hu; rcases hu with rfl | rfl | rfl | rfl | rfl | rfl <;> rfl
            case k3gp => unfold maxLen; (try simp); (try omega)
            case k4gp => (try simp); (try omega)
            case k5gp => have := HS3.out.below.size; (try simp); (try omega)
            intro v5 w5 hown hgrow _
            have HS5 := Lib.hid (HS3.out.append hgrow (RowL.fit hown))
            clear hown hgrow x0 x1 x2 x3 x4 x5 zx hii hz0 hz1 hz2 HS3
            go_wp2_with fail
            cases hmu : mustB n L z
            · have HMU := Lib.hid hmu
              have HE2 := Lib.hid (HE3.out.trans (by rw [HMU.out, if_neg (by simp)]))
              clear hmu HE3
              refine (stop_any n L aP cP z w5 (HP.out.below (Nat.le_refl _) (HS5).out.below) hn hzn).mono ?_
              rintro e w2 ⟨rfl, rfl⟩
              rw [HMU.out]
              go_wp2_with fail
              go_roundw
              case rel => exact ⟨z + 1, xs ++ [⟨a, z, Nt, St, Rs, Wd⟩], by go_num, (by first | rfl | exact congrArg Value.bool HISE.out), by omega, by omega, by rw [HF2.out]; first | exact HE2.out | (rw [← HISE.out]; exact HE2.out), by (first | omega | (simp; omega)), (HS5).out⟩
              case measure => simp [intOf]; omega
            · have HMU := Lib.hid hmu
              have HE2 := Lib.hid (HE3.out.trans (by rw [HMU.out, if_pos rfl, List.append_nil]))
              clear hmu HE3
              refine (stop_any n L aP cP z w5 (HP.out.below (Nat.le_refl _) (HS5).out.below) hn hzn).mono ?_
              rintro e w2 ⟨rfl, rfl⟩
              rw [HMU.out]
              go_wp2_with fail
              go_ret
              refine ⟨_, rfl, ?_, (HS5).out.below⟩
              rw [HE2.out]
              exact (HS5).out.lines.mono (Nat.le_succ _)
        · have hlt : ¬ (a : Int) < (z : Int) := by omega
          have hmu : mustB n L z = true := by
            unfold okB at ho
            rw [hma] at ho
            simpa [hlt0] using ho
          have HMU := Lib.hid hmu
          clear ho hma hlt0 hmu
          have q0 := HS.out.shape.cell (i := 0) rfl
          have q1 := HS.out.shape.cell (i := 1) rfl
          have zq := HS.out.shape.lt
          go_wp2_with fail
          refine (canStop_any n L aP cP z wr (HP.out.below (Nat.le_refl _) HS.out.below) hn hzn hok).mono ?_
          rintro e w1 ⟨rfl, rfl⟩
          rw [HB1.out]
          go_wp2_with fail
          refine (stop_any n L aP cP z wr (HP.out.below (Nat.le_refl _) (HS).out.below) hn hzn).mono ?_
          rintro e w2 ⟨rfl, rfl⟩
          rw [HMU.out]
          go_wp2_with fail
          refine (oneLine_any n L nw W D aP aW cP cW a z num wr (HP.out.below (Nat.le_refl _) HS.out.below) (HW.out.below (Nat.le_refl _) HS.out.below) hn hcP hcM haz hzn hok hnw hnum).mono ?_
          rintro e w2 ⟨rfl, hb2⟩
          rw [HX.out]
          rw [show lineV ⟨a, z, Nt, St, Rs, Wd⟩ = .agg #[.int .i64 a, .int .i64 z, .int .i64 Nt, .int .i64 St, .int .i64 Rs, .int .i64 Wd] from rfl]
          have HS2 := Lib.hid (HS.out.under hb2)
          clear q0 q1 zq hb2
          go_upto_region 8 with (fail)
          obtain ⟨w3, hw3⟩ : ∃ w3, w3 = w2.alloc (Obj.cells #[.int .i64 a, .int .i64 z, .int .i64 Nt, .int .i64 St, .int .i64 Rs, .int .i64 Wd] 74) := ⟨_, rfl⟩
          rw [← hw3]
          have q3 : Blk w3 w2.heap.size #[.int .i64 a, .int .i64 z, .int .i64 Nt, .int .i64 St, .int .i64 Rs, .int .i64 Wd] 74 := by rw [hw3]; exact Blk.new _ _ _
          have hb23 : Below w2.heap.size w2 w3 := by rw [hw3]; exact (Below.refl _ _).alloc (Nat.le_refl _) _
          have HS3 := Lib.hid (HS2.out.under hb23)
          obtain ⟨q, hq⟩ : ∃ q, q = w2.heap.size := ⟨_, rfl⟩
          rw [← hq] at q3 ⊢
          clear hw3 hq hb23 HS2
          have x0 := q3.cell (i := 0) rfl
          have x1 := q3.cell (i := 1) rfl
          have x2 := q3.cell (i := 2) rfl
          have x3 := q3.cell (i := 3) rfl
          have x4 := q3.cell (i := 4) rfl
          have x5 := q3.cell (i := 5) rfl
          have zx := q3.lt
          clear q3
          cases hfi : xs.isEmpty
          · have HFI := Lib.hid hfi
            cases hfl : fullB ⟨a, z, Nt, St, Rs, Wd⟩
            · have hle : Nt - Rs ≤ Wd := by have := of_decide_eq_false hfl; simp only at this; omega
              have HE3 := Lib.hid (HADD.out (by rw [hfl]; rfl))
              have HISE := Lib.hid (show false = (xs ++ [(⟨a, z, Nt, St, Rs, Wd⟩ : Line)]).isEmpty by simp)
              clear hfi hfl HADD HSKIP
              obtain ⟨ii, hii, hz0, hz1, hz2⟩ := HI.out
              obtain ⟨av, cv, hv, hxc, hcm⟩ := RowL.slice HS3.out.lines
              have HCV := Lib.hid hcm
              subst hv
              clear hxc hcm
              go_wp2_with (at_builtin; go_loud (refine wpList_append_own _ rfl _ _ 61 rfl (w.heap.size + 1) 74 ii _ 6 48 Try.underlying61 hii hz0 hz1 hz2 rfl (by decide) _ _ _ rfl (RowL.alloc HS3.out.lines _) ⟨w3.heap.size, 0, none⟩ 1 1 [.int .i64 (a : Int), .int .i64 (z : Int), .int .i64 Nt, .int .i64 St, .int .i64 Rs, .int .i64 Wd] rfl rfl ?k1fq ?k2fq ?k3fq ?k4fq ?k5fq ?_))
              case k1fq =>
                intro j u hj
                have e : Addr.add ⟨w3.heap.size, 0, none⟩ j = ⟨w3.heap.size, j, none⟩ := by simp [Addr.add]; omega
                rw [e]
                exact cellNew (by simpa using hj)
              case k2fq => intro u hu; simp at hu; rcases hu with rfl | rfl | rfl | rfl | rfl | rfl <;> rfl
              case k3fq => unfold maxLen; (try simp); (try omega)
              case k4fq => (try simp); (try omega)
              case k5fq => have := HS3.out.below.size; (try simp); (try omega)
              intro v5 w5 hown hgrow _
              have HS5 := Lib.hid (HS3.out.append hgrow (RowL.fit hown))
              clear hown hgrow x0 x1 x2 x3 x4 x5 zx hii hz0 hz1 hz2 HS3
              go_wp2_with fail
              have HE2 := Lib.hid (HE3.out.trans (by rw [HMU.out, if_pos rfl, List.append_nil]))
              clear HE3
              refine (stop_any n L aP cP z w5 (HP.out.below (Nat.le_refl _) (HS5).out.below) hn hzn).mono ?_
              rintro e w2 ⟨rfl, rfl⟩
              rw [HMU.out]
              go_wp2_with fail
              go_ret
              refine ⟨_, rfl, ?_, (HS5).out.below⟩
              rw [HE2.out]
              exact (HS5).out.lines.mono (Nat.le_succ _)
            · have hle : ¬ Nt - Rs ≤ Wd := by have := of_decide_eq_true hfl; simp only at this; omega
              have HE3 := Lib.hid (HSKIP.out (by rw [hfl, hfi]; rfl))
              have HISE := Lib.hid (show false = xs.isEmpty by rw [hfi])
              clear hfi hfl HADD HSKIP
              go_wp2_with fail
              have HE2 := Lib.hid (HE3.out.trans (by rw [HMU.out, if_pos rfl, List.append_nil]))
              clear HE3
              refine (stop_any n L aP cP z w3 (HP.out.below (Nat.le_refl _) (HS3).out.below) hn hzn).mono ?_
              rintro e w2 ⟨rfl, rfl⟩
              rw [HMU.out]
              go_wp2_with fail
              go_ret
              refine ⟨_, rfl, ?_, (HS3).out.below⟩
              rw [HE2.out]
              exact (HS3).out.lines.mono (Nat.le_succ _)
          · have HFI := Lib.hid hfi
            have HE3 := Lib.hid (HADD.out (by rw [hfi]; simp))
            have HISE := Lib.hid (show false = (xs ++ [(⟨a, z, Nt, St, Rs, Wd⟩ : Line)]).isEmpty by simp)
            clear hfi HADD HSKIP
            obtain ⟨ii, hii, hz0, hz1, hz2⟩ := HI.out
            obtain ⟨av, cv, hv, hxc, hcm⟩ := RowL.slice HS3.out.lines
            have HCV := Lib.hid hcm
            subst hv
            clear hxc hcm
            go_wp2_with (at_builtin; go_loud (refine wpList_append_own _ rfl _ _ 61 rfl (w.heap.size + 1) 74 ii _ 6 48 Try.underlying61 hii hz0 hz1 hz2 rfl (by decide) _ _ _ rfl (RowL.alloc HS3.out.lines _) ⟨w3.heap.size, 0, none⟩ 1 1 [.int .i64 (a : Int), .int .i64 (z : Int), .int .i64 Nt, .int .i64 St, .int .i64 Rs, .int .i64 Wd] rfl rfl ?k1gq ?k2gq ?k3gq ?k4gq ?k5gq ?_))
            case k1gq =>
              intro j u hj
              have e : Addr.add ⟨w3.heap.size, 0, none⟩ j = ⟨w3.heap.size, j, none⟩ := by simp [Addr.add]; omega
              rw [e]
              exact cellNew (by simpa using hj)
            case k2gq => intro u hu; simp at hu; rcases hu with rfl | rfl | rfl | rfl | rfl | rfl <;> rfl
            case k3gq => unfold maxLen; (try simp); (try omega)
            case k4gq => (try simp); (try omega)
            case k5gq => have := HS3.out.below.size; (try simp); (try omega)
            intro v5 w5 hown hgrow _
            have HS5 := Lib.hid (HS3.out.append hgrow (RowL.fit hown))
            clear hown hgrow x0 x1 x2 x3 x4 x5 zx hii hz0 hz1 hz2 HS3
            go_wp2_with fail
            have HE2 := Lib.hid (HE3.out.trans (by rw [HMU.out, if_pos rfl, List.append_nil]))
            clear HE3
            refine (stop_any n L aP cP z w5 (HP.out.below (Nat.le_refl _) (HS5).out.below) hn hzn).mono ?_
            rintro e w2 ⟨rfl, rfl⟩
            rw [HMU.out]
            go_wp2_with fail
            go_ret
            refine ⟨_, rfl, ?_, (HS5).out.below⟩
            rw [HE2.out]
            exact (HS5).out.lines.mono (Nat.le_succ _)
    · obtain rfl : z = n + 1 := by omega
      have HE2 := Lib.hid (show R = xs by
        have h := HE.out
        rw [Nat.sub_self] at h
        rw [h]; simp [endG])
      clear HE
      go_wp2_with fail
      go_ret
      refine ⟨_, rfl, ?_, (HS).out.below⟩
      rw [HE2.out]
      exact (HS).out.lines.mono (Nat.le_succ _)
end Go.Proofs.Ytnigebnibikolaa.LN
