

/-
  PatternExpands: the walk.
-/
import Derived.Test.YtnigebnibikolabPxRef
import Derived.Test.YtnigebnibikolabSameInts
namespace Go.Law.Px
open Go.Law
theorem expL_len {ns : Nat} {seg : Nat → List Int} {M : Nat} (h1 : 1 ≤ M) (hs : ∀ k, k < ns → (seg k).length ≤ M) : ∀ (l : List Int) (mk : Bool) (acc : List Int), (expL ns seg l mk acc).1.length ≤ acc.length + l.length * M
  | [], mk, acc => by
    unfold expL
    split
    · simp
    · simp
  | c :: l, false, acc => by
    have e : (c :: l).length * M = l.length * M + M := by rw [List.length_cons, Nat.succ_mul]
    rw [expL]
    split
    · have := expL_len h1 hs l true acc; omega
    · have := expL_len h1 hs l false (acc ++ [c]); simp only [List.length_append, List.length_cons, List.length_nil] at this e ⊢; omega
  | c :: l, true, acc => by
    have e : (c :: l).length * M = l.length * M + M := by rw [List.length_cons, Nat.succ_mul]
    rw [expL]
    split
    · have := expL_len h1 hs l false (acc ++ [36]); simp only [List.length_append, List.length_cons, List.length_nil] at this e ⊢; omega
    · split
      · simp
      · split
        · simp
        · rename_i h2 h3 h4
          have := expL_len h1 hs l false (acc ++ seg (c - 48).toNat)
          have h5 := hs (c - 48).toNat (by omega)
          simp only [List.length_append] at this
          omega
theorem tmplF_len {s : ByteArray} {f t : Int} {n : Nat} {G : Nat → Nat → Int} {nT : Nat} {T : Nat → Int} (hs : s.size ≤ 1048576) (hT : nT ≤ 1048576) : (tmplF s f t n G nT T).1.length ≤ 2000000000000 := by
  unfold tmplF
  split
  · simp
  · split
    · simp
    · rename_i h1 h2
      have h3 := expL_len (ns := 1 + n) (seg := segF f t G T) (M := 1048577) (by omega) (fun k hk => Nat.le_trans (segF_len hk (fun hb => h2 (badAny_yes hk hb))) (by omega)) (runesL s.data.toList) false []
      have h4 := runesL_len s.data.toList
      have h5 : s.data.toList.length = s.size := Array.length_toList
      have h6 : (runesL s.data.toList).length * 1048577 ≤ 1048576 * 1048577 := Nat.mul_le_mul_right _ (by omega)
      simp only [List.length_nil] at h3
      omega
def litG : Nat → Nat → Int
  | 0, 1 => 1
  | 1, 0 => 1
  | 1, 1 => 3
  | _, _ => 0
def litT : Nat → Int
  | 0 => 97
  | 1 => 98
  | _ => 99
theorem lit_out : tmplF ⟨#[36, 50, 45, 36, 49]⟩ 0 3 2 litG 3 litT = ([98, 99, 45, 97], 0) := by decide +kernel
end Go.Law.Px
namespace Go.Proofs.Ytnigebnibikolab.PX
open Go.RowKit Go.Law Go.Law.Px
set_option linter.unusedVariables false
set_option linter.unusedSimpArgs false
set_option maxRecDepth 100000
set_option maxHeartbeats 8000000 in
theorem law_any (s : ByteArray) (f0 t0 : Int) (nT : Nat) (T : Nat → Int) (aT : Option Addr) (cT nG : Nat) (G : Nat → Nat → Int) (aG : Option Addr) (cG : Nat) (w : World) (hT : IntsF w aT nT T) (hG : StrF w aG nG 2 G)
    (hT0 : aT = none → cT = 0) (hG0 : aG = none → cG = 0) (hTc : nT ≤ cT) (hGc : nG ≤ cG) (hs : s.size ≤ 1048576) (hnT : nT ≤ 1048576) (hcT : cT ≤ 1000000000000000) (hnG : cG ≤ 8796093021952) :
    Calls Try.prog 3 #[.string s, .slice aT nT cT, .agg #[.int .i64 f0, .int .i64 t0, .slice aG nG cG]] w fun e w' => e = .returned (.bool true) ∧ Below w.heap.size w w' := by
  obtain ⟨ER, hER⟩ : ∃ ER, ER = tmplF s f0 t0 nG G nT T := ⟨_, rfl⟩
  have hlen : ER.1.length ≤ 2000000000000 := by rw [hER]; exact tmplF_len hs hnT
  have HER := Lib.hid hER
  have HT := Lib.hid hT
  have HG := Lib.hid hG
  have HLIT := Lib.hid (exp_any ⟨#[36, 50, 45, 36, 49]⟩ 0 3 3 litT)
  have HEX := Lib.hid (fun w1 (h1 : IntsF w1 aT nT T) (h2 : StrF w1 aG nG 2 G) => exp_any s f0 t0 nT T aT cT nG G aG cG w1 h1 h2 hT0 hG0 hTc hGc hs hnT hcT hnG)
  have HRX := Lib.hid (fun w1 (h1 : IntsF w1 aT nT T) (h2 : StrF w1 aG nG 2 G) => ref_any s f0 t0 nT T aT cT nG G aG cG w1 h1 h2 hT0 hG0 hTc hGc hs hnT hcT hnG)
  clear hT hG hER hT0 hG0
  go_enter Try.func3, Try.ntmps3
  go_upto_region 1 with fail
  obtain ⟨w1, hw1⟩ : ∃ w1, w1 = w.alloc (Obj.cells #[.int .i64 f0, .int .i64 t0, .slice aG nG cG] 25) := ⟨_, rfl⟩
  rw [← hw1]
  have hb1 : Below w.heap.size w w1 := by rw [hw1]; exact (Below.refl _ _).alloc (Nat.le_refl _) _
  have q1 : Blk w1 w.heap.size #[.int .i64 f0, .int .i64 t0, .slice aG nG cG] 25 := by rw [hw1]; exact Blk.new _ _ _
  have Q1 := Lib.hid q1
  have HB1 := Lib.hid hb1
  clear hw1 q1 hb1
  go_wp2_with fail
  obtain ⟨w2, hw2⟩ : ∃ w2, w2 = (w1.alloc (Obj.cells #[.int .i64 97, .int .i64 98, .int .i64 99] 3)).alloc (Obj.cells #[.int .i64 0, .int .i64 1, .int .i64 1, .int .i64 3] 30) := ⟨_, rfl⟩
  have hb2 : Below w1.heap.size w1 w2 := by rw [hw2]; exact ((Below.refl _ _).alloc (Nat.le_refl _) _).alloc (by simp) _
  have hA : Blk w2 w1.heap.size #[.int .i64 97, .int .i64 98, .int .i64 99] 3 := by rw [hw2]; exact (Blk.new _ _ _).alloc _
  have hC : Blk w2 (w1.heap.size + 1) #[.int .i64 0, .int .i64 1, .int .i64 1, .int .i64 3] 30 := by
    have h := Blk.new (w1.alloc (Obj.cells #[.int .i64 97, .int .i64 98, .int .i64 99] 3)) #[.int .i64 0, .int .i64 1, .int .i64 1, .int .i64 3] 30
    rw [World.size_alloc] at h
    rw [hw2]; exact h
  rw [← hw2]
  have hI : IntsF w2 (some ⟨w1.heap.size, 0, none⟩) 3 litT := fun _ => ⟨_, 0, rfl, fun i hi => by
    match i, hi with
    | 0, _ => exact hA.cell (i := 0) rfl
    | 1, _ => exact hA.cell (i := 1) rfl
    | 2, _ => exact hA.cell (i := 2) rfl⟩
  have hS : StrF w2 (some ⟨w1.heap.size + 1, 0, none⟩) 2 2 litG := fun _ => ⟨_, 0, rfl, fun i hi j hj => by
    match i, hi with
    | 0, _ => match j, hj with
      | 0, _ => exact hC.cell (i := 0) rfl
      | 1, _ => exact hC.cell (i := 1) rfl
    | 1, _ => match j, hj with
      | 0, _ => exact hC.cell (i := 2) rfl
      | 1, _ => exact hC.cell (i := 3) rfl⟩
  have Q2 := Lib.hid (Q1.out.below hb2 Q1.out.lt)
  have HB2 := Lib.hid (HB1.out.trans (hb2.mono HB1.out.size))
  clear hw2 hA hC hb2 Q1 HB1
  refine (HLIT.out (some ⟨w1.heap.size, 0, none⟩) 3 2 litG (some ⟨w1.heap.size + 1, 0, none⟩) 2 w2 hI hS (by simp) (by simp) (by omega) (by omega) (by decide) (by omega) (by omega) (by omega)).mono ?_
  rintro e w3 ⟨v3, rfl, hr3, hb3⟩
  rw [lit_out] at hr3
  rw [lit_out]
  obtain ⟨a3, c3, hv3, hcc3, hcm3, hI3⟩ := RowL.ints hr3 rfl
  subst hv3
  have HI3 := Lib.hid hI3
  have Q3 := Lib.hid (Q2.out.below hb3 Q2.out.lt)
  have HB3 := Lib.hid (HB2.out.trans (hb3.mono HB2.out.size))
  clear hr3 hb3 hI hS hcc3 hcm3 hI3 Q2 HB2
  go_wp2_with fail
  obtain ⟨w4, hw4⟩ : ∃ w4, w4 = w3.alloc (Obj.cells #[.int .i64 98, .int .i64 99, .int .i64 45, .int .i64 97] 3) := ⟨_, rfl⟩
  have hb4 : Below w3.heap.size w3 w4 := by rw [hw4]; exact (Below.refl _ _).alloc (Nat.le_refl _) _
  have hD : Blk w4 w3.heap.size #[.int .i64 98, .int .i64 99, .int .i64 45, .int .i64 97] 3 := by rw [hw4]; exact Blk.new _ _ _
  rw [← hw4]
  have hI4 : IntsF w4 (some ⟨w3.heap.size, 0, none⟩) 4 (fun i => ([98, 99, 45, 97] : List Int).getD i 0) := fun _ => ⟨_, 0, rfl, fun i hi => by
    match i, hi with
    | 0, _ => exact hD.cell (i := 0) rfl
    | 1, _ => exact hD.cell (i := 1) rfl
    | 2, _ => exact hD.cell (i := 2) rfl
    | 3, _ => exact hD.cell (i := 3) rfl⟩
  have hsame : Ref.sameB 4 4 (fun i => ([98, 99, 45, 97] : List Int).getD i 0) (fun i => ([98, 99, 45, 97] : List Int).getD i 0) = true := Ref.sameB_true.2 ⟨rfl, fun _ _ => rfl⟩
  have Q4 := Lib.hid (Q3.out.below hb4 Q3.out.lt)
  have HB4 := Lib.hid (HB3.out.trans (hb4.mono HB3.out.size))
  have HJ3 := Lib.hid (HI3.out.below (Nat.le_refl _) hb4)
  clear hw4 hD hb4 Q3 HB3 HI3
  refine (Ref.same_any 4 4 (fun i => ([98, 99, 45, 97] : List Int).getD i 0) (fun i => ([98, 99, 45, 97] : List Int).getD i 0) a3 (some ⟨w3.heap.size, 0, none⟩) c3 4 w4 HJ3.out hI4 (by omega) (by omega)).mono ?_
  rintro e w5 ⟨rfl, hb5⟩
  rw [hsame]
  have Q5 := Lib.hid (Q4.out.below hb5 Q4.out.lt)
  have HB5 := Lib.hid (HB4.out.trans (hb5.mono HB4.out.size))
  clear hb5 hI4 hsame Q4 HB4 HJ3
  have x0 := Q5.out.cell (i := 0) rfl
  have x1 := Q5.out.cell (i := 1) rfl
  have x2 := Q5.out.cell (i := 2) rfl
  have zx := Q5.out.lt
  go_wp2_with fail
  refine (HEX.out w5 (HT.out.below (Nat.le_refl _) HB5.out) (HG.out.below (Nat.le_refl _) HB5.out)).mono ?_
  rintro e w6 ⟨v6, rfl, hr6, hb6⟩
  rw [← HER.out] at hr6
  rw [← HER.out]
  obtain ⟨a6, c6, hv6, _, _, hI6⟩ := RowL.ints hr6 rfl
  subst hv6
  have HI6 := Lib.hid hI6
  have Q6 := Lib.hid (Q5.out.below hb6 Q5.out.lt)
  have HB6 := Lib.hid (HB5.out.trans (hb6.mono HB5.out.size))
  clear hr6 hb6 hI6 Q5 HB5 x0 x1 x2 zx
  have x0 := Q6.out.cell (i := 0) rfl
  have x1 := Q6.out.cell (i := 1) rfl
  have x2 := Q6.out.cell (i := 2) rfl
  have zx := Q6.out.lt
  go_wp2_with fail
  refine (HRX.out w6 (HT.out.below (Nat.le_refl _) HB6.out) (HG.out.below (Nat.le_refl _) HB6.out)).mono ?_
  rintro e w7 ⟨v7, rfl, hr7, hb7⟩
  rw [← HER.out] at hr7
  rw [← HER.out]
  obtain ⟨a7, c7, hv7, _, _, hI7⟩ := RowL.ints hr7 rfl
  subst hv7
  have HI7 := Lib.hid hI7
  have HJ6 := Lib.hid (HI6.out.below (Nat.le_refl _) hb7)
  have HB7 := Lib.hid (HB6.out.trans (hb7.mono HB6.out.size))
  obtain ⟨R1, R2⟩ := ER
  simp only at hlen
  have hee : (R2 == R2) = true := by simp
  clear hr7 hb7 hI7 Q6 HB6 x0 x1 x2 zx HI6
  go_wp2_with fail
  have hsame : Ref.sameB R1.length R1.length (fun i => R1.getD i 0) (fun i => R1.getD i 0) = true := Ref.sameB_true.2 ⟨rfl, fun _ _ => rfl⟩
  refine (Ref.same_any R1.length R1.length (fun i => R1.getD i 0) (fun i => R1.getD i 0) a6 a7 c6 c7 w7 HJ6.out HI7.out (by omega) (by omega)).mono ?_
  rintro e w8 ⟨rfl, hb8⟩
  rw [hsame]
  have HB8 := Lib.hid (HB7.out.trans (hb8.mono HB7.out.size))
  clear hb8 hsame
  go_wp2_with fail
  go_ret
  exact ⟨rfl, HB8.out⟩
end Go.Proofs.Ytnigebnibikolab.PX
