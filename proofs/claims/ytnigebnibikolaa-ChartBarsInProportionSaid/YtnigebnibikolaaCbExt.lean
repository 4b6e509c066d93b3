
/-
  The law's extremes.
-/
import Derived.Test.YtnigebnibikolaaCbRange
namespace Go.Proofs.Ytnigebnibikolaa.CB
open Go.RowKit Go.Law Go.Law.Cb Ref CH
set_option linter.unusedVariables false
set_option linter.unusedSimpArgs false
set_option maxRecDepth 100000
/-- in a later world of a call that has boxed a chart first and writes into blocks of its own behind it -/
structure Ex (w : World) (kind : Int) (a1 a2 : Option Addr) (p cp s cs : Nat) (wr : World) : Prop where
  bel : Below (w.heap.size + 1) (w.alloc (.cells #[.int .i64 kind, .slice a1 p cp, .slice a2 s cs] 25)) wr
section
variable {w : World} {kind : Int} {a1 a2 : Option Addr} {p cp s cs : Nat} {wr : World}
theorem Ex.start : Ex w kind a1 a2 p cp s cs (w.alloc (.cells #[.int .i64 kind, .slice a1 p cp, .slice a2 s cs] 25)) := ⟨Below.refl _ _⟩
theorem Ex.cel (h : Ex w kind a1 a2 p cp s cs wr) : ChartAt wr w.heap.size kind a1 a2 p cp s cs := (ChartAt.start w kind a1 a2 p cp s cs _).below h.bel (by omega)
theorem Ex.all (h : Ex w kind a1 a2 p cp s cs wr) : Below w.heap.size w wr := ((Below.refl _ _).alloc (Nat.le_refl _) _).trans (h.bel.mono (by simp))
theorem Ex.lt (h : Ex w kind a1 a2 p cp s cs wr) : w.heap.size + 1 ≤ wr.heap.size := by have := h.bel.size; simpa using this
theorem Ex.drewN (h : Ex w kind a1 a2 p cp s cs wr) (k : Nat) : Ex w kind a1 a2 p cp s cs (wr.drewN k) := ⟨below_drewN h.bel k⟩
end
theorem row_len (kind : Int) (v : Nat → Nat → Int) (i : Nat) : ∀ q, (rowP kind v i q).length ≤ q
  | 0 => Nat.le_refl _
  | q + 1 => by
    have := row_len kind v i q
    simp only [rowP]
    split
    · omega
    · simp; omega
theorem ext_len (kind : Int) (v : Nat → Nat → Int) {s : Nat} (hs : s ≤ 12) : ∀ i, (extL kind v s i).length ≤ 1 + 13 * i
  | 0 => by simp only [extL]; split <;> simp
  | i + 1 => by
    have h1 := ext_len kind v hs i
    have h2 := row_len kind v i s
    simp only [extL, List.length_append]
    split
    · simp; omega
    · simp; omega
/-- the list begins with the value that Range begins with -/
theorem row_head {v : Nat → Nat → Int} {i : Nat} : ∀ q, (rowP 2 v i (q + 1)).head? = some (v 0 i)
  | 0 => rfl
  | q + 1 => by
    have := row_head (v := v) (i := i) q
    show (if (2 : Int) = 1 then _ else rowP 2 v i (q + 1) ++ [v (q + 1) i]).head? = _
    rw [if_neg (by decide), List.head?_append, this]
    rfl
theorem ext_head {kind : Int} {v : Nat → Nat → Int} {s : Nat} (hs : 0 < s) : ∀ i, (extL kind v s (i + 1)).head? = some (x0 kind v)
  | 0 => by
    show (_ ++ _ ++ _ : List Int).head? = _
    unfold x0
    by_cases h : kind = 2
    · subst h
      obtain ⟨q, rfl⟩ : ∃ q, s = q + 1 := ⟨s - 1, by omega⟩
      rw [if_pos rfl, List.append_assoc, List.head?_append]
      show ((([] : List Int).head?).or _) = _
      rw [List.head?_append, row_head]
      rfl
    · rw [if_neg h, List.append_assoc, List.head?_append]
      show (((if kind = 2 then ([] : List Int) else [0]).head?).or _) = _
      rw [if_neg h]
      rfl
  | i + 1 => by
    have ih := ext_head (kind := kind) (v := v) hs i
    show (extL kind v s (i + 1) ++ _ ++ _ : List Int).head? = _
    rw [List.append_assoc, List.head?_append, ih]
    rfl
/-- the fold over the row -/
def Folds (kind : Int) (v : Nat → Nat → Int) (s p : Nat) (L : List Int) : Prop := True
set_option maxHeartbeats 8000000 in
theorem ext_03 (kind : Int) (a1 a2 : Option Addr) (p cp s cs : Nat) (sa : Nat → Option Addr) (sn sc : Nat → Nat) (sf : Nat → Nat → Int) (w : World) (hrows : RowsF w a2 s sa sn sc sf) (he : chErr kind p s sn sf = 0) (hk1 : kind ≠ 1) (hk2 : kind ≠ 2) :
    Calls Try.prog 14 #[.agg #[.int .i64 kind, .slice a1 p cp, .slice a2 s cs]] w fun e w' => e = .returned (.tuple #[.int .i64 (lowL (x0 kind sf) (extL kind sf s p)), .int .i64 (highL (x0 kind sf) (extL kind sf s p))]) ∧ Below w.heap.size w w' := by
  obtain ⟨ii, hii, hz0, hz1, hz2⟩ := info_parts (show (Try.prog.info? 3).map (fun i => (i.zero, i.size, i.bytes)) = some (some (.int .i64 0), 1, 8) by kernel_rfl)
  have HR := Lib.hid (fun w1 (hb : Below w.heap.size w w1) => hrows.below (Nat.le_refl _) hb)
  have HO := Lib.hid (okV_of he)
  obtain ⟨_, hp0, hs0, hp2, hs2, _, hrow⟩ := chErr_zero he
  have HN := Lib.hid (fun q hq => (hrow q hq).1)
  have hmax : ∀ x y : Int, (if x < y then y else x) = max x y := fun x y => by omega
  have hmin : ∀ x y : Int, (if y < x then y else x) = min x y := fun x y => by omega
  have hhd : (extL kind sf s p).head? = some (x0 kind sf) := by
    obtain ⟨r, rfl⟩ : ∃ r, p = r + 1 := ⟨p - 1, by omega⟩
    exact ext_head hs0 r
  obtain ⟨X0, hX0⟩ : ∃ X0, X0 = x0 kind sf := ⟨_, rfl⟩
  rw [← hX0] at hhd ⊢
  have HHD := Lib.hid hhd
  have HRP := Lib.hid (fun i q => (show rowP kind sf i (q + 1) = rowP kind sf i q ++ [sf q i] from if_neg hk1))
  have HEQ := Lib.hid (fun i => (show extL kind sf s (i + 1) = extL kind sf s i ++ rowP kind sf i s by show _ ++ _ ++ _ = _; rw [if_neg hk1, List.append_nil]))
  have HE0 := Lib.hid (show extL kind sf s 0 = [0] from if_neg hk2)
  have HEL := Lib.hid (fun i => ext_len kind sf hs2 i)
  have HRL := Lib.hid (fun i q => row_len kind sf i q)
  have k2 : (kind != 2) = true := by simpa using hk2
  have k1 : (kind != 1) = true := by simpa using hk1
  have k1' : (kind == 1) = false := by simpa using hk1
  obtain ⟨L, hLL⟩ : ∃ L, L = extL kind sf s p := ⟨_, rfl⟩
  have HLE := Lib.hid hLL
  rw [← hLL]
  clear hrows he hrow hk1 hk2 hhd hX0 hLL
  have hE0 := Ex.start (w := w) (kind := kind) (a1 := a1) (a2 := a2) (p := p) (cp := cp) (s := s) (cs := cs)
  go_enter Try.func14, Try.ntmps14
  have hr0 : RowL _ (w.heap.size + 1) 3 1 (.slice none 0 0) 0 [] := RowL.nil (w.alloc (.cells #[.int .i64 kind, .slice a1 p cp, .slice a2 s cs] 25)) (w.heap.size + 1) 3 1
  go_wp2_with (at_builtin; go_loud (refine wpList_append_own _ rfl _ _ 50 rfl (w.heap.size + 1) 3 ii (.int .i64 0) 1 8 Try.underlying50 hii hz0 hz1 hz2 rfl (by decide) _ _ _ rfl ((hr0).alloc _) ⟨(w.heap.size + 1), 0, none⟩ 1 1 [.int .i64 0] rfl rfl ?a1 ?a2 ?a3 ?a4 ?a5 ?_))
  case a1 =>
    intro j u hj
    match j, hj with
    | 0, hj => simp at hj; subst hj; simp [Addr.add]
  case a2 => intro u hu; simp at hu; subst hu; rfl
  case a3 => unfold maxLen; omega
  case a4 => omega
  case a5 => first | omega | (simp; done) | (simp; omega)
  intro v' w2 hown' hgrow _
  have hE1 : Ex w kind a1 a2 p cp s cs w2 := ⟨below_grown hE0.bel (by simp) hr0 hgrow⟩
  have hrow1 : RowL w2 (w.heap.size + 1) 3 1 v' (extL kind sf s 0).length ((extL kind sf s 0).map (Value.int .i64)) := by rw [HE0.out]; simpa using hown'
  obtain ⟨p0, p1, p2⟩ := hE1.cel
  clear hr0 hown' hgrow hE0
  go_wp2_with fail
  go_loopw [4, 22] (fun lv iv wr => ∃ i : Nat, iv = .int .i64 i ∧ i ≤ p ∧ RowL wr (w.heap.size + 1) 3 1 lv (extL kind sf s i).length ((extL kind sf s i).map (Value.int .i64)) ∧ Ex w kind a1 a2 p cp s cs wr) (fun _ iv _ => p - (intOf iv).toNat)
  case atStart => exact ⟨0, rfl, by omega, hrow1, hE1⟩
  case round =>
    clear hE1 hrow1 p0 p1 p2 HE0
    obtain ⟨i, rfl, hi, hrow, hE⟩ := hrel
    obtain ⟨p0, p1, p2⟩ := hE.cel
    have hlt := hE.lt
    by_cases hip : i < p
    · go_wp2_with fail
      obtain ⟨wo, rfl⟩ : ∃ wo : World, wo = wr := ⟨_, rfl⟩
      go_loopw [4, 6, 28] (fun lv sv qv wr => ∃ q : Nat, qv = .int .i64 q ∧ q ≤ s ∧ RowL wr (w.heap.size + 1) 3 1 lv (extL kind sf s i ++ rowP kind sf i q).length ((extL kind sf s i ++ rowP kind sf i q).map (Value.int .i64)) ∧ sv = .int .i64 (sumQ sf i q) ∧ Ex w kind a1 a2 p cp s cs wr) (fun _ _ qv _ => s - (intOf qv).toNat)
      case atStart => exact ⟨0, rfl, by omega, by rw [show rowP kind sf i 0 = [] from rfl, List.append_nil]; exact hrow, rfl, hE⟩
      case round =>
        clear hrow hE p0 p1 p2 hlt
        obtain ⟨q, rfl, hq, hrow, rfl, hE⟩ := hrel
        obtain ⟨p0, p1, p2⟩ := hE.cel
        have hlt := hE.lt
        by_cases hqs : q < s
        · obtain ⟨b, off, rfl, hqq⟩ := HR.out wr hE.all hs0
          obtain ⟨d1, _, hi3⟩ := hqq q hqs
          have hsn := HN.out q hqs
          rw [hsn] at d1 hi3
          obtain ⟨b3, off3, hsa, hc3⟩ := hi3 (by omega)
          have d2 := hc3 i hip
          rw [hsa] at d1
          have hsb := sumQ_bd HO.out hip q hq
          have hvb := HO.out q hqs i hip
          have hlk := lowK_ge kind
          have hl1 := HEL.out i
          have hl2 := HRL.out i q
          have HL := Lib.hid (show extL kind sf s i ++ rowP kind sf i (q + 1) = (extL kind sf s i ++ rowP kind sf i q) ++ [sf q i] by rw [HRP.out, List.append_assoc])
          have HS := Lib.hid (show sumQ sf i (q + 1) = sumQ sf i q + sf q i from rfl)
          obtain ⟨x, hx⟩ : ∃ x, x = sf q i := ⟨_, rfl⟩
          obtain ⟨L, hL⟩ : ∃ L, L = extL kind sf s i ++ rowP kind sf i q := ⟨_, rfl⟩
          obtain ⟨S, hS⟩ : ∃ S, S = sumQ sf i q := ⟨_, rfl⟩
          have hll : L.length ≤ 3000 := by rw [hL, List.length_append]; omega
          rw [← hx] at d2 hvb HL HS
          rw [← hL] at HL hrow
          rw [← hS] at HS hsb ⊢
          obtain ⟨l, hl⟩ : ∃ l, l = L.length := ⟨_, rfl⟩
          have HLL := Lib.hid hl
          rw [← hl] at hrow hll
          clear hqq hsn hi3 hc3 hsa hx hL hS hl hl1 hl2
          go_wp2_with (at_builtin; go_loud (refine wpList_append_own _ rfl _ _ 50 rfl (w.heap.size + 1) 3 ii (.int .i64 0) 1 8 Try.underlying50 hii hz0 hz1 hz2 rfl (by decide) _ _ _ rfl ((hrow).alloc _) ⟨wr.heap.size, 0, none⟩ 1 1 [.int .i64 x] rfl rfl ?b1 ?b2 ?b3 ?b4 ?b5 ?_))
          case b1 =>
            intro j u hj
            match j, hj with
            | 0, hj => simp at hj; subst hj; simp [Addr.add]
          case b2 => intro u hu; simp at hu; subst hu; rfl
          case b3 => unfold maxLen; omega
          case b4 => omega
          case b5 => first | omega | (simp; done) | (simp; omega)
          intro v' w2 hown' hgrow _
          have hE2 : Ex w kind a1 (some ⟨b, off, none⟩) p cp s cs w2 := ⟨below_grown hE.bel (by simpa using hlt) hrow hgrow⟩
          clear hgrow hrow hE
          go_wp2_with fail
          go_roundw
          case rel => exact ⟨q + 1, by go_num, by omega, by rw [HL.out, List.length_append, ← HLL.out]; simpa using hown', by rw [HS.out], hE2⟩
          case measure => simp [intOf]; omega
        · obtain rfl : s = q := by omega
          have HX := Lib.hid (HEQ.out i)
          go_wp2_with fail
          go_roundw
          case rel => exact ⟨i + 1, by go_num, by omega, by rw [HX.out]; exact hrow, hE⟩
          case measure => simp [intOf]; omega
    · obtain rfl : p = i := by omega
      have hL := HLE.out
      have hpos : 0 < L.length := by
        rcases Nat.eq_zero_or_pos L.length with h | h
        · exfalso
          have h1 := HHD.out
          rw [← hL, List.length_eq_zero_iff.1 h] at h1
          cases h1
        · exact h
      have hx0 : L[0]? = some X0 := by have := HHD.out; rw [← hL] at this; rw [← this, List.head?_eq_getElem?]
      have hll : L.length ≤ 3000 := by have := HEL.out p; rw [← hL] at this; omega
      rw [← hL] at hrow
      have HH0 := Lib.hid hx0
      clear hL HLE hx0 HHD HEL HRL HEQ HRP HO
      obtain ⟨l, hl⟩ : ∃ l, l = L.length := ⟨_, rfl⟩
      have HLL := Lib.hid hl
      rw [← hl] at hrow hll hpos
      clear hl
      go_wp2_with fail
      obtain ⟨g, cap, rfl, hg, hgl, hcap, hcm, hfz, hcells⟩ := RowL.at hrow hpos
      have c0 := hcells 0 (.int .i64 X0) (by rw [List.getElem?_map, HH0.out]; rfl)
      have HCL := Lib.hid hcells
      have HEX := Lib.hid hE.all
      clear hcells hfz hE
      go_quiet (fail)
      obtain ⟨wz, hwz⟩ : ∃ wz, wz = wr.drewN nq := ⟨_, rfl⟩
      have HW := Lib.hid hwz
      rw [← hwz]
      clear hwz c0
      go_wp2_with fail
      go_loopw [9, 10, 65] (fun lv hv iv wx => ∃ i : Nat, iv = .int .i64 i ∧ i ≤ l ∧ lv = .int .i64 (lowL X0 (L.take i)) ∧ hv = .int .i64 (highL X0 (L.take i)) ∧ wz = wx) (fun _ _ iv _ => l - (intOf iv).toNat)
      case atStart => exact ⟨0, rfl, by omega, rfl, rfl, rfl⟩
      case round =>
        obtain ⟨i, rfl, hi, rfl, rfl, rfl⟩ := hrel
        by_cases hil : i < l
        · obtain ⟨x, hx⟩ : ∃ x, L[i]? = some x := ⟨_, List.getElem?_eq_getElem (by rw [← HLL.out]; exact hil)⟩
          have dx : wz.cell? ⟨g, i, none⟩ = some (.int .i64 x) := by
            have := HCL.out i (.int .i64 x) (by rw [List.getElem?_map, hx]; rfl)
            rw [HW.out]; simpa using this
          have htk : L.take (i + 1) = L.take i ++ [x] := by
            obtain ⟨h1, h2⟩ := List.getElem?_eq_some_iff.1 hx
            rw [List.take_succ_eq_append_getElem h1, h2]
          have HL := Lib.hid (show lowL X0 (L.take (i + 1)) = min (lowL X0 (L.take i)) x by rw [htk, lowL_snoc])
          have HH := Lib.hid (show highL X0 (L.take (i + 1)) = max (highL X0 (L.take i)) x by rw [htk, highL_snoc])
          obtain ⟨lo, hlo⟩ : ∃ lo, lo = lowL X0 (L.take i) := ⟨_, rfl⟩
          obtain ⟨hh, hhh⟩ : ∃ hh, hh = highL X0 (L.take i) := ⟨_, rfl⟩
          rw [← hlo] at HL ⊢
          rw [← hhh] at HH ⊢
          clear hx htk hlo hhh
          go_wp2_with fail
          go_roundw
          case rel => exact ⟨i + 1, by go_num, by omega, by rw [HL.out], by rw [HH.out], trivial⟩
          case measure => simp [intOf]; omega
        · obtain rfl : l = i := by omega
          rw [List.take_of_length_le (show L.length ≤ l by rw [← HLL.out]; exact Nat.le_refl _)]
          go_wp2_with fail
          go_ret2
          exact ⟨rfl, by rw [HW.out]; exact below_drewN HEX.out nq⟩
set_option maxHeartbeats 8000000 in
theorem ext_2 (a1 a2 : Option Addr) (p cp s cs : Nat) (sa : Nat → Option Addr) (sn sc : Nat → Nat) (sf : Nat → Nat → Int) (w : World) (hrows : RowsF w a2 s sa sn sc sf) (he : chErr 2 p s sn sf = 0) :
    Calls Try.prog 14 #[.agg #[.int .i64 2, .slice a1 p cp, .slice a2 s cs]] w fun e w' => e = .returned (.tuple #[.int .i64 (lowL (x0 2 sf) (extL 2 sf s p)), .int .i64 (highL (x0 2 sf) (extL 2 sf s p))]) ∧ Below w.heap.size w w' := by
  obtain ⟨ii, hii, hz0, hz1, hz2⟩ := info_parts (show (Try.prog.info? 3).map (fun i => (i.zero, i.size, i.bytes)) = some (some (.int .i64 0), 1, 8) by kernel_rfl)
  have HR := Lib.hid (fun w1 (hb : Below w.heap.size w w1) => hrows.below (Nat.le_refl _) hb)
  have HO := Lib.hid (okV_of he)
  obtain ⟨_, hp0, hs0, hp2, hs2, _, hrow⟩ := chErr_zero he
  have HN := Lib.hid (fun q hq => (hrow q hq).1)
  have hmax : ∀ x y : Int, (if x < y then y else x) = max x y := fun x y => by omega
  have hmin : ∀ x y : Int, (if y < x then y else x) = min x y := fun x y => by omega
  have hhd : (extL 2 sf s p).head? = some (x0 2 sf) := by
    obtain ⟨r, rfl⟩ : ∃ r, p = r + 1 := ⟨p - 1, by omega⟩
    exact ext_head hs0 r
  obtain ⟨X0, hX0⟩ : ∃ X0, X0 = x0 2 sf := ⟨_, rfl⟩
  rw [← hX0] at hhd ⊢
  have HHD := Lib.hid hhd
  have HRP := Lib.hid (fun i q => (show rowP 2 sf i (q + 1) = rowP 2 sf i q ++ [sf q i] from if_neg (by decide)))
  have HEQ := Lib.hid (fun i => (show extL 2 sf s (i + 1) = extL 2 sf s i ++ rowP 2 sf i s by show _ ++ _ ++ _ = _; rw [if_neg (by decide), List.append_nil]))
  have HE0 := Lib.hid (show extL 2 sf s 0 = [] from if_pos rfl)
  have HEL := Lib.hid (fun i => ext_len 2 sf hs2 i)
  have HRL := Lib.hid (fun i q => row_len 2 sf i q)
  obtain ⟨L, hLL⟩ : ∃ L, L = extL 2 sf s p := ⟨_, rfl⟩
  have HLE := Lib.hid hLL
  rw [← hLL]
  clear hrows he hrow hhd hX0 hLL
  have hE0 := Ex.start (w := w) (kind := 2) (a1 := a1) (a2 := a2) (p := p) (cp := cp) (s := s) (cs := cs)
  go_enter Try.func14, Try.ntmps14
  have hE1 := hE0
  have hrow1 : RowL (w.alloc (.cells #[.int .i64 2, .slice a1 p cp, .slice a2 s cs] 25)) (w.heap.size + 1) 3 1 (.slice none 0 0) (extL 2 sf s 0).length ((extL 2 sf s 0).map (Value.int .i64)) := by rw [HE0.out]; exact RowL.nil _ _ _ _
  go_wp2_with fail
  go_loopw [4, 22] (fun lv iv wr => ∃ i : Nat, iv = .int .i64 i ∧ i ≤ p ∧ RowL wr (w.heap.size + 1) 3 1 lv (extL 2 sf s i).length ((extL 2 sf s i).map (Value.int .i64)) ∧ Ex w 2 a1 a2 p cp s cs wr) (fun _ iv _ => p - (intOf iv).toNat)
  case atStart => exact ⟨0, rfl, by omega, hrow1, hE1⟩
  case round =>
    clear hE1 hrow1 HE0
    obtain ⟨i, rfl, hi, hrow, hE⟩ := hrel
    obtain ⟨p0, p1, p2⟩ := hE.cel
    have hlt := hE.lt
    by_cases hip : i < p
    · go_wp2_with fail
      obtain ⟨wo, rfl⟩ : ∃ wo : World, wo = wr := ⟨_, rfl⟩
      go_loopw [4, 6, 28] (fun lv sv qv wr => ∃ q : Nat, qv = .int .i64 q ∧ q ≤ s ∧ RowL wr (w.heap.size + 1) 3 1 lv (extL 2 sf s i ++ rowP 2 sf i q).length ((extL 2 sf s i ++ rowP 2 sf i q).map (Value.int .i64)) ∧ sv = .int .i64 (sumQ sf i q) ∧ Ex w 2 a1 a2 p cp s cs wr) (fun _ _ qv _ => s - (intOf qv).toNat)
      case atStart => exact ⟨0, rfl, by omega, by rw [show rowP 2 sf i 0 = [] from rfl, List.append_nil]; exact hrow, rfl, hE⟩
      case round =>
        clear hrow hE p0 p1 p2 hlt
        obtain ⟨q, rfl, hq, hrow, rfl, hE⟩ := hrel
        obtain ⟨p0, p1, p2⟩ := hE.cel
        have hlt := hE.lt
        by_cases hqs : q < s
        · obtain ⟨b, off, rfl, hqq⟩ := HR.out wr hE.all hs0
          obtain ⟨d1, _, hi3⟩ := hqq q hqs
          have hsn := HN.out q hqs
          rw [hsn] at d1 hi3
          obtain ⟨b3, off3, hsa, hc3⟩ := hi3 (by omega)
          have d2 := hc3 i hip
          rw [hsa] at d1
          have hsb := sumQ_bd HO.out hip q hq
          have hvb := HO.out q hqs i hip
          have hlk := lowK_ge 2
          have hl1 := HEL.out i
          have hl2 := HRL.out i q
          have HL := Lib.hid (show extL 2 sf s i ++ rowP 2 sf i (q + 1) = (extL 2 sf s i ++ rowP 2 sf i q) ++ [sf q i] by rw [HRP.out, List.append_assoc])
          have HS := Lib.hid (show sumQ sf i (q + 1) = sumQ sf i q + sf q i from rfl)
          obtain ⟨x, hx⟩ : ∃ x, x = sf q i := ⟨_, rfl⟩
          obtain ⟨L, hL⟩ : ∃ L, L = extL 2 sf s i ++ rowP 2 sf i q := ⟨_, rfl⟩
          obtain ⟨S, hS⟩ : ∃ S, S = sumQ sf i q := ⟨_, rfl⟩
          have hll : L.length ≤ 3000 := by rw [hL, List.length_append]; omega
          rw [← hx] at d2 hvb HL HS
          rw [← hL] at HL hrow
          rw [← hS] at HS hsb ⊢
          obtain ⟨l, hl⟩ : ∃ l, l = L.length := ⟨_, rfl⟩
          have HLL := Lib.hid hl
          rw [← hl] at hrow hll
          clear hqq hsn hi3 hc3 hsa hx hL hS hl hl1 hl2
          go_wp2_with (at_builtin; go_loud (refine wpList_append_own _ rfl _ _ 50 rfl (w.heap.size + 1) 3 ii (.int .i64 0) 1 8 Try.underlying50 hii hz0 hz1 hz2 rfl (by decide) _ _ _ rfl ((hrow).alloc _) ⟨wr.heap.size, 0, none⟩ 1 1 [.int .i64 x] rfl rfl ?b1 ?b2 ?b3 ?b4 ?b5 ?_))
          case b1 =>
            intro j u hj
            match j, hj with
            | 0, hj => simp at hj; subst hj; simp [Addr.add]
          case b2 => intro u hu; simp at hu; subst hu; rfl
          case b3 => unfold maxLen; omega
          case b4 => omega
          case b5 => first | omega | (simp; done) | (simp; omega)
          intro v' w2 hown' hgrow _
          have hE2 : Ex w 2 a1 (some ⟨b, off, none⟩) p cp s cs w2 := ⟨below_grown hE.bel (by simpa using hlt) hrow hgrow⟩
          clear hgrow hrow hE
          go_wp2_with fail
          go_roundw
          case rel => exact ⟨q + 1, by go_num, by omega, by rw [HL.out, List.length_append, ← HLL.out]; simpa using hown', by rw [HS.out], hE2⟩
          case measure => simp [intOf]; omega
        · obtain rfl : s = q := by omega
          have HX := Lib.hid (HEQ.out i)
          go_wp2_with fail
          go_roundw
          case rel => exact ⟨i + 1, by go_num, by omega, by rw [HX.out]; exact hrow, hE⟩
          case measure => simp [intOf]; omega
    · obtain rfl : p = i := by omega
      have hL := HLE.out
      have hpos : 0 < L.length := by
        rcases Nat.eq_zero_or_pos L.length with h | h
        · exfalso
          have h1 := HHD.out
          rw [← hL, List.length_eq_zero_iff.1 h] at h1
          cases h1
        · exact h
      have hx0 : L[0]? = some X0 := by have := HHD.out; rw [← hL] at this; rw [← this, List.head?_eq_getElem?]
      have hll : L.length ≤ 3000 := by have := HEL.out p; rw [← hL] at this; omega
      rw [← hL] at hrow
      have HH0 := Lib.hid hx0
      clear hL HLE hx0 HHD HEL HRL HEQ HRP HO
      obtain ⟨l, hl⟩ : ∃ l, l = L.length := ⟨_, rfl⟩
      have HLL := Lib.hid hl
      rw [← hl] at hrow hll hpos
      clear hl
      go_wp2_with fail
      obtain ⟨g, cap, rfl, hg, hgl, hcap, hcm, hfz, hcells⟩ := RowL.at hrow hpos
      have c0 := hcells 0 (.int .i64 X0) (by rw [List.getElem?_map, HH0.out]; rfl)
      have HCL := Lib.hid hcells
      have HEX := Lib.hid hE.all
      clear hcells hfz hE
      go_quiet (fail)
      obtain ⟨wz, hwz⟩ : ∃ wz, wz = wr.drewN nq := ⟨_, rfl⟩
      have HW := Lib.hid hwz
      rw [← hwz]
      clear hwz c0
      go_wp2_with fail
      go_loopw [9, 10, 65] (fun lv hv iv wx => ∃ i : Nat, iv = .int .i64 i ∧ i ≤ l ∧ lv = .int .i64 (lowL X0 (L.take i)) ∧ hv = .int .i64 (highL X0 (L.take i)) ∧ wz = wx) (fun _ _ iv _ => l - (intOf iv).toNat)
      case atStart => exact ⟨0, rfl, by omega, rfl, rfl, rfl⟩
      case round =>
        obtain ⟨i, rfl, hi, rfl, rfl, rfl⟩ := hrel
        by_cases hil : i < l
        · obtain ⟨x, hx⟩ : ∃ x, L[i]? = some x := ⟨_, List.getElem?_eq_getElem (by rw [← HLL.out]; exact hil)⟩
          have dx : wz.cell? ⟨g, i, none⟩ = some (.int .i64 x) := by
            have := HCL.out i (.int .i64 x) (by rw [List.getElem?_map, hx]; rfl)
            rw [HW.out]; simpa using this
          have htk : L.take (i + 1) = L.take i ++ [x] := by
            obtain ⟨h1, h2⟩ := List.getElem?_eq_some_iff.1 hx
            rw [List.take_succ_eq_append_getElem h1, h2]
          have HL := Lib.hid (show lowL X0 (L.take (i + 1)) = min (lowL X0 (L.take i)) x by rw [htk, lowL_snoc])
          have HH := Lib.hid (show highL X0 (L.take (i + 1)) = max (highL X0 (L.take i)) x by rw [htk, highL_snoc])
          obtain ⟨lo, hlo⟩ : ∃ lo, lo = lowL X0 (L.take i) := ⟨_, rfl⟩
          obtain ⟨hh, hhh⟩ : ∃ hh, hh = highL X0 (L.take i) := ⟨_, rfl⟩
          rw [← hlo] at HL ⊢
          rw [← hhh] at HH ⊢
          clear hx htk hlo hhh
          go_wp2_with fail
          go_roundw
          case rel => exact ⟨i + 1, by go_num, by omega, by rw [HL.out], by rw [HH.out], trivial⟩
          case measure => simp [intOf]; omega
        · obtain rfl : l = i := by omega
          rw [List.take_of_length_le (show L.length ≤ l by rw [← HLL.out]; exact Nat.le_refl _)]
          go_wp2_with fail
          go_ret2
          exact ⟨rfl, by rw [HW.out]; exact below_drewN HEX.out nq⟩
set_option maxHeartbeats 8000000 in
theorem ext_1 (a1 a2 : Option Addr) (p cp s cs : Nat) (sa : Nat → Option Addr) (sn sc : Nat → Nat) (sf : Nat → Nat → Int) (w : World) (hrows : RowsF w a2 s sa sn sc sf) (he : chErr 1 p s sn sf = 0) :
    Calls Try.prog 14 #[.agg #[.int .i64 1, .slice a1 p cp, .slice a2 s cs]] w fun e w' => e = .returned (.tuple #[.int .i64 (lowL (x0 1 sf) (extL 1 sf s p)), .int .i64 (highL (x0 1 sf) (extL 1 sf s p))]) ∧ Below w.heap.size w w' := by
  obtain ⟨ii, hii, hz0, hz1, hz2⟩ := info_parts (show (Try.prog.info? 3).map (fun i => (i.zero, i.size, i.bytes)) = some (some (.int .i64 0), 1, 8) by kernel_rfl)
  have HR := Lib.hid (fun w1 (hb : Below w.heap.size w w1) => hrows.below (Nat.le_refl _) hb)
  have HO := Lib.hid (okV_of he)
  obtain ⟨_, hp0, hs0, hp2, hs2, _, hrow⟩ := chErr_zero he
  have HN := Lib.hid (fun q hq => (hrow q hq).1)
  have hmax : ∀ x y : Int, (if x < y then y else x) = max x y := fun x y => by omega
  have hmin : ∀ x y : Int, (if y < x then y else x) = min x y := fun x y => by omega
  have hhd : (extL 1 sf s p).head? = some (x0 1 sf) := by
    obtain ⟨r, rfl⟩ : ∃ r, p = r + 1 := ⟨p - 1, by omega⟩
    exact ext_head hs0 r
  obtain ⟨X0, hX0⟩ : ∃ X0, X0 = x0 1 sf := ⟨_, rfl⟩
  rw [← hX0] at hhd ⊢
  have HHD := Lib.hid hhd
  have HEQ := Lib.hid (fun i => (show extL 1 sf s (i + 1) = extL 1 sf s i ++ [sumQ sf i s] by
    have hr : ∀ q, rowP 1 sf i q = [] := by intro q; induction q with | zero => rfl | succ q ih => simp only [rowP, if_true]; exact ih
    simp only [extL, if_true]
    rw [hr, List.append_nil]))
  have HE0 := Lib.hid (show extL 1 sf s 0 = [0] from if_neg (by decide))
  have HEL := Lib.hid (fun i => ext_len 1 sf hs2 i)
  have HRL := Lib.hid (fun i q => row_len 1 sf i q)
  obtain ⟨L, hLL⟩ : ∃ L, L = extL 1 sf s p := ⟨_, rfl⟩
  have HLE := Lib.hid hLL
  rw [← hLL]
  clear hrows he hrow hhd hX0 hLL
  have hE0 := Ex.start (w := w) (kind := 1) (a1 := a1) (a2 := a2) (p := p) (cp := cp) (s := s) (cs := cs)
  go_enter Try.func14, Try.ntmps14
  have hr0 : RowL _ (w.heap.size + 1) 3 1 (.slice none 0 0) 0 [] := RowL.nil (w.alloc (.cells #[.int .i64 1, .slice a1 p cp, .slice a2 s cs] 25)) (w.heap.size + 1) 3 1
  go_wp2_with (at_builtin; go_loud (refine wpList_append_own _ rfl _ _ 50 rfl (w.heap.size + 1) 3 ii (.int .i64 0) 1 8 Try.underlying50 hii hz0 hz1 hz2 rfl (by decide) _ _ _ rfl ((hr0).alloc _) ⟨(w.heap.size + 1), 0, none⟩ 1 1 [.int .i64 0] rfl rfl ?a1 ?a2 ?a3 ?a4 ?a5 ?_))
  case a1 =>
    intro j u hj
    match j, hj with
    | 0, hj => simp at hj; subst hj; simp [Addr.add]
  case a2 => intro u hu; simp at hu; subst hu; rfl
  case a3 => unfold maxLen; omega
  case a4 => omega
  case a5 => first | omega | (simp; done) | (simp; omega)
  intro v' w2 hown' hgrow _
  have hE1 : Ex w 1 a1 a2 p cp s cs w2 := ⟨below_grown hE0.bel (by simp) hr0 hgrow⟩
  have hrow1 : RowL w2 (w.heap.size + 1) 3 1 v' (extL 1 sf s 0).length ((extL 1 sf s 0).map (Value.int .i64)) := by rw [HE0.out]; simpa using hown'
  obtain ⟨p0, p1, p2⟩ := hE1.cel
  clear hr0 hown' hgrow hE0
  go_wp2_with fail
  go_loopw [4, 22] (fun lv iv wr => ∃ i : Nat, iv = .int .i64 i ∧ i ≤ p ∧ RowL wr (w.heap.size + 1) 3 1 lv (extL 1 sf s i).length ((extL 1 sf s i).map (Value.int .i64)) ∧ Ex w 1 a1 a2 p cp s cs wr) (fun _ iv _ => p - (intOf iv).toNat)
  case atStart => exact ⟨0, rfl, by omega, hrow1, hE1⟩
  case round =>
    clear hE1 hrow1 p0 p1 p2 HE0
    obtain ⟨i, rfl, hi, hrow, hE⟩ := hrel
    obtain ⟨p0, p1, p2⟩ := hE.cel
    have hlt := hE.lt
    by_cases hip : i < p
    · go_wp2_with fail
      obtain ⟨wo, rfl⟩ : ∃ wo : World, wo = wr := ⟨_, rfl⟩
      go_loopw [4, 6, 28] (fun lv sv qv wr => ∃ q : Nat, qv = .int .i64 q ∧ q ≤ s ∧ RowL wr (w.heap.size + 1) 3 1 lv (extL 1 sf s i).length ((extL 1 sf s i).map (Value.int .i64)) ∧ sv = .int .i64 (sumQ sf i q) ∧ Ex w 1 a1 a2 p cp s cs wr) (fun _ _ qv _ => s - (intOf qv).toNat)
      case atStart => exact ⟨0, rfl, by omega, hrow, rfl, hE⟩
      case round =>
        clear hrow hE p0 p1 p2 hlt
        obtain ⟨q, rfl, hq, hrow, rfl, hE⟩ := hrel
        obtain ⟨p0, p1, p2⟩ := hE.cel
        have hlt := hE.lt
        by_cases hqs : q < s
        · obtain ⟨b, off, rfl, hqq⟩ := HR.out wr hE.all hs0
          obtain ⟨d1, _, hi3⟩ := hqq q hqs
          have hsn := HN.out q hqs
          rw [hsn] at d1 hi3
          obtain ⟨b3, off3, hsa, hc3⟩ := hi3 (by omega)
          have d2 := hc3 i hip
          rw [hsa] at d1
          have hsb := sumQ_bd HO.out hip q hq
          have hvb := HO.out q hqs i hip
          have hlk := lowK_ge 1
          have HS := Lib.hid (show sumQ sf i (q + 1) = sumQ sf i q + sf q i from rfl)
          obtain ⟨x, hx⟩ : ∃ x, x = sf q i := ⟨_, rfl⟩
          obtain ⟨S, hS⟩ : ∃ S, S = sumQ sf i q := ⟨_, rfl⟩
          rw [← hx] at d2 hvb HS
          rw [← hS] at HS hsb ⊢
          clear hqq hsn hi3 hc3 hsa hx hS
          go_wp2_with fail
          go_roundw
          case rel => exact ⟨q + 1, by go_num, by omega, hrow, by rw [HS.out], hE⟩
          case measure => simp [intOf]; omega
        · obtain rfl : s = q := by omega
          have HL := Lib.hid (HEQ.out i)
          have hsb := sumQ_bd HO.out hip s (Nat.le_refl _)
          have hl1 := HEL.out i
          obtain ⟨L, hL⟩ : ∃ L, L = extL 1 sf s i := ⟨_, rfl⟩
          obtain ⟨S, hS⟩ : ∃ S, S = sumQ sf i s := ⟨_, rfl⟩
          have hll : L.length ≤ 3000 := by rw [hL]; omega
          rw [← hL] at HL hrow
          rw [← hS] at HL hsb ⊢
          obtain ⟨l, hl⟩ : ∃ l, l = L.length := ⟨_, rfl⟩
          have HLL := Lib.hid hl
          rw [← hl] at hrow hll
          clear hL hS hl hl1
          go_wp2_with (at_builtin; go_loud (refine wpList_append_own _ rfl _ _ 50 rfl (w.heap.size + 1) 3 ii (.int .i64 0) 1 8 Try.underlying50 hii hz0 hz1 hz2 rfl (by decide) _ _ _ rfl ((hrow).alloc _) ⟨wr.heap.size, 0, none⟩ 1 1 [.int .i64 S] rfl rfl ?b1 ?b2 ?b3 ?b4 ?b5 ?_))
          case b1 =>
            intro j u hj
            match j, hj with
            | 0, hj => simp at hj; subst hj; simp [Addr.add]
          case b2 => intro u hu; simp at hu; subst hu; rfl
          case b3 => unfold maxLen; omega
          case b4 => omega
          case b5 => first | omega | (simp; done) | (simp; omega)
          intro v' w2 hown' hgrow _
          have hE2 : Ex w 1 a1 a2 p cp s cs w2 := ⟨below_grown hE.bel (by simpa using hlt) hrow hgrow⟩
          clear hgrow hrow hE
          go_wp2_with fail
          go_roundw
          case rel => exact ⟨i + 1, by go_num, by omega, by rw [HL.out, List.length_append, ← HLL.out]; simpa using hown', hE2⟩
          case measure => simp [intOf]; omega
    · obtain rfl : p = i := by omega
      have hL := HLE.out
      have hpos : 0 < L.length := by
        rcases Nat.eq_zero_or_pos L.length with h | h
        · exfalso
          have h1 := HHD.out
          rw [← hL, List.length_eq_zero_iff.1 h] at h1
          cases h1
        · exact h
      have hx0 : L[0]? = some X0 := by have := HHD.out; rw [← hL] at this; rw [← this, List.head?_eq_getElem?]
      have hll : L.length ≤ 3000 := by have := HEL.out p; rw [← hL] at this; omega
      rw [← hL] at hrow
      have HH0 := Lib.hid hx0
      clear hL HLE hx0 HHD HEL HRL HEQ HO
      obtain ⟨l, hl⟩ : ∃ l, l = L.length := ⟨_, rfl⟩
      have HLL := Lib.hid hl
      rw [← hl] at hrow hll hpos
      clear hl
      go_wp2_with fail
      obtain ⟨g, cap, rfl, hg, hgl, hcap, hcm, hfz, hcells⟩ := RowL.at hrow hpos
      have c0 := hcells 0 (.int .i64 X0) (by rw [List.getElem?_map, HH0.out]; rfl)
      have HCL := Lib.hid hcells
      have HEX := Lib.hid hE.all
      clear hcells hfz hE
      go_quiet (fail)
      obtain ⟨wz, hwz⟩ : ∃ wz, wz = wr.drewN nq := ⟨_, rfl⟩
      have HW := Lib.hid hwz
      rw [← hwz]
      clear hwz c0
      go_wp2_with fail
      go_loopw [9, 10, 65] (fun lv hv iv wx => ∃ i : Nat, iv = .int .i64 i ∧ i ≤ l ∧ lv = .int .i64 (lowL X0 (L.take i)) ∧ hv = .int .i64 (highL X0 (L.take i)) ∧ wz = wx) (fun _ _ iv _ => l - (intOf iv).toNat)
      case atStart => exact ⟨0, rfl, by omega, rfl, rfl, rfl⟩
      case round =>
        obtain ⟨i, rfl, hi, rfl, rfl, rfl⟩ := hrel
        by_cases hil : i < l
        · obtain ⟨x, hx⟩ : ∃ x, L[i]? = some x := ⟨_, List.getElem?_eq_getElem (by rw [← HLL.out]; exact hil)⟩
          have dx : wz.cell? ⟨g, i, none⟩ = some (.int .i64 x) := by
            have := HCL.out i (.int .i64 x) (by rw [List.getElem?_map, hx]; rfl)
            rw [HW.out]; simpa using this
          have htk : L.take (i + 1) = L.take i ++ [x] := by
            obtain ⟨h1, h2⟩ := List.getElem?_eq_some_iff.1 hx
            rw [List.take_succ_eq_append_getElem h1, h2]
          have HL := Lib.hid (show lowL X0 (L.take (i + 1)) = min (lowL X0 (L.take i)) x by rw [htk, lowL_snoc])
          have HH := Lib.hid (show highL X0 (L.take (i + 1)) = max (highL X0 (L.take i)) x by rw [htk, highL_snoc])
          obtain ⟨lo, hlo⟩ : ∃ lo, lo = lowL X0 (L.take i) := ⟨_, rfl⟩
          obtain ⟨hh, hhh⟩ : ∃ hh, hh = highL X0 (L.take i) := ⟨_, rfl⟩
          rw [← hlo] at HL ⊢
          rw [← hhh] at HH ⊢
          clear hx htk hlo hhh
          go_wp2_with fail
          go_roundw
          case rel => exact ⟨i + 1, by go_num, by omega, by rw [HL.out], by rw [HH.out], trivial⟩
          case measure => simp [intOf]; omega
        · obtain rfl : l = i := by omega
          rw [List.take_of_length_le (show L.length ≤ l by rw [← HLL.out]; exact Nat.le_refl _)]
          go_wp2_with fail
          go_ret2
          exact ⟨rfl, by rw [HW.out]; exact below_drewN HEX.out nq⟩
theorem ext_any (kind : Int) (a1 a2 : Option Addr) (p cp s cs : Nat) (sa : Nat → Option Addr) (sn sc : Nat → Nat) (sf : Nat → Nat → Int) (w : World) (hrows : RowsF w a2 s sa sn sc sf) (he : chErr kind p s sn sf = 0) :
    Calls Try.prog 14 #[.agg #[.int .i64 kind, .slice a1 p cp, .slice a2 s cs]] w fun e w' => e = .returned (.tuple #[.int .i64 (lowL (x0 kind sf) (extL kind sf s p)), .int .i64 (highL (x0 kind sf) (extL kind sf s p))]) ∧ Below w.heap.size w w' := by
  by_cases h1 : kind = 1
  · subst h1; exact ext_1 a1 a2 p cp s cs sa sn sc sf w hrows he
  · by_cases h2 : kind = 2
    · subst h2; exact ext_2 a1 a2 p cp s cs sa sn sc sf w hrows he
    · exact ext_03 kind a1 a2 p cp s cs sa sn sc sf w hrows he h1 h2
end Go.Proofs.Ytnigebnibikolaa.CB
