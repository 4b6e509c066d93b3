
/-
  A number or a range of pages.
-/
import Derived.Test.YtabnohphgegflaaDoorPgNum
namespace Go.Proofs.YtabnohphgegflaaDoor.PG
open Go.RowKit Go.Law Go.Law.Pg
set_option linter.unusedVariables false
set_option linter.unusedSimpArgs false
set_option maxRecDepth 100000
def dashI (s : ByteArray) : Int := Lib.indexByte s.data.toList 45
theorem dash_any (s : ByteArray) (w : World) : Calls Tryd.prog 61 #[.string s, .string ⟨#[45]⟩] w fun e w' => e = .returned (.int .i64 (dashI s)) ∧ w = w' :=
  (Any.stringslite_Index_one Tryd.lays219 s 45 w).mono fun _ _ ⟨h1, h2⟩ => ⟨h1, h2.symm⟩
theorem dash2_no (s : ByteArray) (w : World) (h : dashI s < 0) (hs : s.size ≤ 1048576) : Calls Tryd.prog 46 #[.string s, .string ⟨#[45]⟩] w fun e w' => e = .returned (.tuple #[.string s, .string ⟨#[]⟩, .bool false]) ∧ w = w' := by
  obtain ⟨I, hI⟩ : ∃ I, I = dashI s := ⟨_, rfl⟩
  have HI := Lib.hid hI
  rw [← hI] at h
  clear hI
  go_enter Tryd.func46, Tryd.ntmps46
  go_wp2_with fail
  refine (dash_any s w).mono ?_
  rintro e w1 ⟨rfl, rfl⟩
  rw [← HI.out]
  go_wp2_with fail
  go_ret3
  exact ⟨rfl, rfl⟩
theorem dash_some {s : ByteArray} {o : Nat} (h : dashI s = o) : o < s.size ∧ (∀ c ∈ (s.extract 0 o).data.toList, c.toNat ≠ 45) ∧ s.data.toList = (s.extract 0 o).data.toList ++ 45 :: (s.extract (o + 1) s.size).data.toList := by
  obtain ⟨h1, h2⟩ := Lib.indexByte_some h
  have hl : o < s.data.toList.length := (List.getElem?_eq_some_iff.1 h1).1
  have hs : s.data.toList.length = s.size := Array.length_toList
  have e3 : s.data.toList[o] = 45 := by
    have := List.getElem?_eq_getElem hl
    rw [h1] at this
    exact (Option.some.inj this).symm
  refine ⟨by omega, ?_, ?_⟩
  · rw [piece_bytes, List.drop_zero, Nat.sub_zero]
    intro c hc he
    obtain ⟨k, hk⟩ := List.getElem?_of_mem hc
    have hk2 : k < o := by
      have := (List.getElem?_eq_some_iff.1 hk).1
      simp at this
      omega
    rw [List.getElem?_take_of_lt hk2] at hk
    apply h2 k hk2
    rw [hk]
    congr 1
    exact UInt8.toNat.inj he
  · rw [piece_bytes, piece_bytes, List.drop_zero, Nat.sub_zero, List.take_of_length_le (show (s.data.toList.drop (o + 1)).length ≤ s.size - (o + 1) by simp)]
    conv => lhs; rw [← List.take_append_drop o s.data.toList]
    rw [List.drop_eq_getElem_cons hl, e3]
theorem dash_none {s : ByteArray} (h : dashI s < 0) : ∀ c ∈ s.data.toList, c.toNat ≠ 45 := by
  have h1 : Lib.indexByte s.data.toList 45 = -1 := by
    have := Lib.indexByte_ge s.data.toList 45
    unfold dashI at h
    omega
  intro c hc he
  obtain ⟨k, hk⟩ := List.getElem?_of_mem hc
  apply Lib.indexByte_none h1 k
  rw [hk]
  congr 1
  exact UInt8.toNat.inj he
theorem dash2_yes (s : ByteArray) (w : World) (o : Nat) (h : dashI s = o) (hs : s.size ≤ 1048576) : Calls Tryd.prog 46 #[.string s, .string ⟨#[45]⟩] w fun e w' => e = .returned (.tuple #[.string (s.extract 0 o), .string (s.extract (o + 1) s.size), .bool true]) ∧ ∃ k, w' = w.drewN k := by
  have ho := (dash_some h).1
  have HI := Lib.hid h
  clear h
  go_enter Tryd.func46, Tryd.ntmps46
  go_wp2_with fail
  refine (dash_any s w).mono ?_
  rintro e w1 ⟨rfl, rfl⟩
  rw [HI.out]
  have e1 : (o : Int) ≤ (s.size : Int) := by omega
  have e2 : (o : Int) + 1 ≤ (s.size : Int) := by omega
  have e3 : IntKind.i64.wrap ((o : Int) + 1) = (o : Int) + 1 := IntWalk.i64_in _ ⟨by omega, by omega⟩
  have e4 : ((o : Int) + 1).toNat = o + 1 := by omega
  have e5 : (0 : Int) ≤ (o : Int) + 1 := by omega
  go_wp2_with fail
  go_quiet (fail)
  go_wp2_with fail
  go_ret3
  exact ⟨rfl, _, rfl⟩
theorem dash_no (s : ByteArray) (w : World) (h : dashI s < 0) (hs : s.size ≤ 1048576) : Calls Tryd.prog 33 #[.string s, .string ⟨#[45]⟩] w fun e w' => e = .returned (.tuple #[.string s, .string ⟨#[]⟩, .bool false]) ∧ w = w' := by
  have H := Lib.hid (dash2_no s w h hs)
  clear h
  go_enter Tryd.func33, Tryd.ntmps33
  go_wp2_with fail
  refine H.out.mono ?_
  rintro e w1 ⟨rfl, rfl⟩
  go_wp2_with fail
  go_ret3
  exact ⟨rfl, rfl⟩
theorem dash_yes (s : ByteArray) (w : World) (o : Nat) (h : dashI s = o) (hs : s.size ≤ 1048576) : Calls Tryd.prog 33 #[.string s, .string ⟨#[45]⟩] w fun e w' => e = .returned (.tuple #[.string (s.extract 0 o), .string (s.extract (o + 1) s.size), .bool true]) ∧ ∃ k, w' = w.drewN k := by
  have H := Lib.hid (dash2_yes s w o h hs)
  clear h
  go_enter Tryd.func33, Tryd.ntmps33
  go_wp2_with fail
  refine H.out.mono ?_
  rintro e w1 ⟨rfl, k, rfl⟩
  go_wp2_with fail
  go_ret3
  exact ⟨rfl, _, rfl⟩
def tup3 (r : Int × Int × Int) : Value := .tuple #[.int .i64 r.1, .int .i64 r.2.1, .int .i64 r.2.2]
/-- an empty text, or none -/
theorem emp_cases (s : ByteArray) : (s = ⟨#[]⟩) ∨ (s.data.toList ≠ [] ∧ s.toList.isEmpty = false) := by
  by_cases h : s.data.toList = []
  · refine .inl ?_
    obtain ⟨d⟩ := s
    simp at h
    rw [h]
  · exact .inr ⟨h, by rw [Lib.toList_data]; exact isEmpty_no h⟩
set_option maxHeartbeats 4000000 in
theorem bounds_no (s : ByteArray) (pages : Int) (w : World) (hs : s.size ≤ 200) (hT : TEnv w) (hp : 1 ≤ pages) (hd : dashI s < 0) : Calls Tryd.prog 14 #[.string s, .int .i64 pages] w fun e w' => e = .returned (tup3 (bnds s.data.toList [] false pages)) ∧ Below w.heap.size w w' := by
  have HT := Lib.hid hT
  have HD := Lib.hid hd
  obtain ⟨R, hR⟩ : ∃ R, R = bnds s.data.toList [] false pages := ⟨_, rfl⟩
  have HR := Lib.hid hR
  rw [← hR]
  clear hT hd hR
  go_enter Tryd.func14, Tryd.ntmps14
  go_wp2_with fail
  refine (dash_no s w HD.out (by omega)).mono ?_
  rintro e w1 ⟨rfl, rfl⟩
  rcases emp_cases s with rfl | ⟨h1, h2⟩
  · have HR2 := Lib.hid (show R = (0, 0, 10) by rw [HR.out]; rfl)
    go_wp2_with fail
    refine (number_any ⟨#[]⟩ w (by decide) HT.out).mono ?_
    rintro e w1 ⟨v, rfl, hv, hb⟩
    have HB1 := Lib.hid hb
    have hn : (pnum (ByteArray.data ⟨#[]⟩).toList).isSome = false := by rfl
    rw [hn]
    clear hb hv
    go_wp2_with fail
    go_ret3
    exact ⟨by rw [HR2.out]; rfl, HB1.out⟩
  · have H1 := Lib.hid h1
    clear h1
    cases hpn : pnum s.data.toList with
    | none =>
      have HR2 := Lib.hid (show R = (0, 0, 10) by rw [HR.out]; unfold bnds; rw [if_pos rfl, hpn])
      have HPN := Lib.hid hpn
      clear hpn
      go_wp2_with fail
      refine (number_any s w hs HT.out).mono ?_
      rintro e w1 ⟨v, rfl, hv, hb⟩
      have HB1 := Lib.hid hb
      rw [show (pnum s.data.toList).isSome = false by rw [HPN.out]; rfl]
      clear hb hv
      go_wp2_with fail
      go_ret3
      exact ⟨by rw [HR2.out]; rfl, HB1.out⟩
    | some n =>
      have HPN := Lib.hid hpn
      clear hpn
      go_wp2_with fail
      refine (number_any s w hs HT.out).mono ?_
      rintro e w1 ⟨v, rfl, hv, hb⟩
      have HB1 := Lib.hid hb
      rw [show (pnum s.data.toList).isSome = true by rw [HPN.out]; rfl]
      obtain rfl : v = n := hv n HPN.out
      clear hb hv
      go_wp2_with fail
      refine (number_any s w1 hs (HT.out.below HB1.out (Nat.le_refl _))).mono ?_
      rintro e w2 ⟨v, rfl, hv, hb⟩
      have HB2 := Lib.hid (HB1.out.trans (hb.mono HB1.out.size))
      rw [show (pnum s.data.toList).isSome = true by rw [HPN.out]; rfl]
      obtain rfl : v = n := hv n HPN.out
      clear hb hv
      by_cases hg : pages < (n : Int)
      · have HR2 := Lib.hid (show R = (0, 0, 7) by rw [HR.out]; unfold bnds; rw [if_pos rfl, HPN.out]; simp only; rw [if_pos hg])
        go_wp2_with fail
        go_ret3
        exact ⟨by rw [HR2.out]; rfl, HB2.out⟩
      · have HR2 := Lib.hid (show R = ((n : Int), (n : Int), 0) by rw [HR.out]; unfold bnds; rw [if_pos rfl, HPN.out]; simp only; rw [if_neg hg])
        go_wp2_with fail
        go_ret3
        exact ⟨by rw [HR2.out]; rfl, HB2.out⟩
/-- what bnds says with a hyphen -/
theorem bnds_both {f t : List UInt8} {pages : Int} (h : f = [] ∧ t = []) : bnds f t true pages = (0, 0, 10) := by unfold bnds; rw [if_neg (by decide), if_pos h]
theorem bnds_f {f t : List UInt8} {pages : Int} (h : f ≠ []) (h2 : pnum f = none) : bnds f t true pages = (0, 0, 10) := by unfold bnds; rw [if_neg (by decide), if_neg (fun hh => h hh.1), if_pos ⟨h, h2⟩]
theorem bnds_t {f t : List UInt8} {pages : Int} (hf : f = [] ∨ ∃ n, pnum f = some n) (h : t ≠ []) (h2 : pnum t = none) : bnds f t true pages = (0, 0, 10) := by
  have h3 : ¬ (f ≠ [] ∧ pnum f = none) := by
    rintro ⟨h3, h4⟩
    rcases hf with h5 | ⟨n, h5⟩
    · exact h3 h5
    · rw [h4] at h5; cases h5
  unfold bnds
  rw [if_neg (by decide), if_neg (fun hh => h hh.2), if_neg h3, if_pos ⟨h, h2⟩]
theorem bnds_ok {f t : List UInt8} {pages a b : Int} (hf : (f = [] ∧ a = 1) ∨ ∃ n : Nat, pnum f = some n ∧ a = n) (ht : (t = [] ∧ b = pages) ∨ ∃ n : Nat, pnum t = some n ∧ b = n) (h : ¬ (f = [] ∧ t = [])) :
    bnds f t true pages = if a > pages ∨ b > pages then (0, 0, 7) else (a, b, 0) := by
  have hpf : ¬ (f ≠ [] ∧ pnum f = none) := by
    rintro ⟨h1, h2⟩
    rcases hf with ⟨h3, _⟩ | ⟨n, h3, _⟩
    · exact h1 h3
    · rw [h2] at h3; cases h3
  have hpt : ¬ (t ≠ [] ∧ pnum t = none) := by
    rintro ⟨h1, h2⟩
    rcases ht with ⟨h3, _⟩ | ⟨n, h3, _⟩
    · exact h1 h3
    · rw [h2] at h3; cases h3
  have ea : (if f = [] then (1 : Int) else ((pnum f).getD 0 : Nat)) = a := by
    rcases hf with ⟨h1, rfl⟩ | ⟨n, h1, rfl⟩
    · rw [if_pos h1]
    · rw [if_neg (pnum_some h1).1, h1]; rfl
  have eb : (if t = [] then pages else ((pnum t).getD 0 : Nat)) = b := by
    rcases ht with ⟨h1, rfl⟩ | ⟨n, h1, rfl⟩
    · rw [if_pos h1]
    · rw [if_neg (pnum_some h1).1, h1]; rfl
  unfold bnds
  rw [if_neg (by decide), if_neg h, if_neg hpf, if_neg hpt]
  simp only [ea, eb]
set_option maxHeartbeats 4000000 in
theorem bounds_yes (s : ByteArray) (pages : Int) (w : World) (o : Nat) (hs : s.size ≤ 200) (hT : TEnv w) (hp : 1 ≤ pages) (hd : dashI s = o) : Calls Tryd.prog 14 #[.string s, .int .i64 pages] w fun e w' => e = .returned (tup3 (bnds (s.extract 0 o).data.toList (s.extract (o + 1) s.size).data.toList true pages)) ∧ Below w.heap.size w w' := by
  have HT := Lib.hid hT
  have HD := Lib.hid hd
  obtain ⟨F, hF⟩ : ∃ F, F = s.extract 0 o := ⟨_, rfl⟩
  obtain ⟨T, hTT⟩ : ∃ T, T = s.extract (o + 1) s.size := ⟨_, rfl⟩
  have hfs : F.size ≤ 200 := by rw [hF]; simp; omega
  have hts : T.size ≤ 200 := by rw [hTT]; simp; omega
  obtain ⟨R, hR⟩ : ∃ R, R = bnds F.data.toList T.data.toList true pages := ⟨_, rfl⟩
  have HR := Lib.hid hR
  rw [← hF, ← hTT, ← hR]
  have HFF := Lib.hid hF
  have HTT := Lib.hid hTT
  clear hT hd hR hF hTT
  go_enter Tryd.func14, Tryd.ntmps14
  go_wp2_with fail
  refine (dash_yes s w o HD.out (by omega)).mono ?_
  rintro e w1 ⟨rfl, kq, hw1⟩
  have HB0 := Lib.hid (show Below w.heap.size w w1 by rw [hw1]; exact below_drewN (Below.refl _ _) kq)
  have HT1 := Lib.hid (HT.out.below HB0.out (Nat.le_refl _))
  rw [← HFF.out, ← HTT.out]
  clear hw1 HFF HTT
  rcases emp_cases F with rfl | ⟨h1, h2⟩
  · rcases emp_cases T with rfl | ⟨h3, h4⟩
    · have HR2 := Lib.hid (show R = (0, 0, 10) by rw [HR.out]; exact bnds_both ⟨rfl, rfl⟩)
      go_wp2_with fail
      go_ret3
      exact ⟨by rw [HR2.out]; rfl, HB0.out⟩
    · have H3 := Lib.hid h3
      clear h3
      go_wp2_with fail
      refine (number_any T w1 hts HT1.out).mono ?_
      rintro e w2 ⟨v, rfl, hv, hb⟩
      have HB := Lib.hid (HB0.out.trans (hb.mono HB0.out.size))
      cases hpn : pnum T.data.toList with
      | none =>
        have HPN := Lib.hid hpn
        have HR2 := Lib.hid (show R = (0, 0, 10) by rw [HR.out]; exact bnds_t (.inl rfl) H3.out hpn)
        clear hb hv hpn
        go_wp2_with fail
        go_ret3
        exact ⟨by rw [HR2.out]; rfl, HB.out⟩
      | some n =>
        have HPN := Lib.hid hpn
        have HRE := Lib.hid (show R = if (1 : Int) > pages ∨ (n : Int) > pages then (0, 0, 7) else (1, (n : Int), 0) by rw [HR.out]; exact bnds_ok (.inl ⟨rfl, rfl⟩) (.inr ⟨n, hpn, rfl⟩) (fun h => H3.out h.2))
        obtain rfl : v = n := hv n hpn
        clear hb hv hpn
        by_cases h1a : pages < 1
        · have HR2 := Lib.hid (show R = (0, 0, 7) by rw [HRE.out, if_pos (.inl h1a)])
          go_wp2_with fail
          go_ret3
          exact ⟨by rw [HR2.out]; rfl, HB.out⟩
        by_cases h2a : pages < (n : Int)
        · have HR2 := Lib.hid (show R = (0, 0, 7) by rw [HRE.out, if_pos (.inr h2a)])
          go_wp2_with fail
          go_ret3
          exact ⟨by rw [HR2.out]; rfl, HB.out⟩
        have HR2 := Lib.hid (show R = (1, (n : Int), 0) by rw [HRE.out, if_neg (by omega)])
        go_wp2_with fail
        go_ret3
        exact ⟨by rw [HR2.out]; rfl, HB.out⟩
  · have H1 := Lib.hid h1
    clear h1
    go_wp2_with fail
    refine (number_any F w1 hfs HT1.out).mono ?_
    rintro e w2 ⟨v, rfl, hv, hb⟩
    have HB := Lib.hid (HB0.out.trans (hb.mono HB0.out.size))
    have HT2 := Lib.hid (HT1.out.below hb (Nat.le_refl _))
    cases hpn : pnum F.data.toList with
    | none =>
      have HR2 := Lib.hid (show R = (0, 0, 10) by rw [HR.out]; exact bnds_f H1.out hpn)
      clear hb hv hpn
      rcases emp_cases T with rfl | ⟨h3, h4⟩
      · go_wp2_with fail
        go_ret3
        exact ⟨by rw [HR2.out]; rfl, HB.out⟩
      · clear h3
        go_wp2_with fail
        go_ret3
        exact ⟨by rw [HR2.out]; rfl, HB.out⟩
    | some n =>
      have HPN := Lib.hid hpn
      obtain rfl : v = n := hv n hpn
      clear hb hv hpn
      rcases emp_cases T with rfl | ⟨h3, h4⟩
      · have HRE := Lib.hid (show R = if (n : Int) > pages ∨ pages > pages then (0, 0, 7) else ((n : Int), pages, 0) by rw [HR.out]; exact bnds_ok (.inr ⟨n, HPN.out, rfl⟩) (.inl ⟨rfl, rfl⟩) (fun h => H1.out h.1))
        by_cases h1b : pages < (n : Int)
        · have HR2 := Lib.hid (show R = (0, 0, 7) by rw [HRE.out, if_pos (.inl h1b)])
          go_wp2_with fail
          go_ret3
          exact ⟨by rw [HR2.out]; rfl, HB.out⟩
        by_cases h2b : pages < pages
        · have HR2 := Lib.hid (show R = (0, 0, 7) by rw [HRE.out, if_pos (.inr h2b)])
          go_wp2_with fail
          go_ret3
          exact ⟨by rw [HR2.out]; rfl, HB.out⟩
        have HR2 := Lib.hid (show R = ((n : Int), pages, 0) by rw [HRE.out, if_neg (by omega)])
        go_wp2_with fail
        go_ret3
        exact ⟨by rw [HR2.out]; rfl, HB.out⟩
      · have H3 := Lib.hid h3
        clear h3
        go_wp2_with fail
        refine (number_any T w2 hts HT2.out).mono ?_
        rintro e w3 ⟨v2, rfl, hv, hb⟩
        have HB3 := Lib.hid (HB.out.trans (hb.mono HB.out.size))
        cases hpn : pnum T.data.toList with
        | none =>
          have HR2 := Lib.hid (show R = (0, 0, 10) by rw [HR.out]; exact bnds_t (.inr ⟨n, HPN.out⟩) H3.out hpn)
          clear hb hv hpn
          go_wp2_with fail
          go_ret3
          exact ⟨by rw [HR2.out]; rfl, HB3.out⟩
        | some m =>
          have HRE := Lib.hid (show R = if (n : Int) > pages ∨ (m : Int) > pages then (0, 0, 7) else ((n : Int), (m : Int), 0) by rw [HR.out]; exact bnds_ok (.inr ⟨n, HPN.out, rfl⟩) (.inr ⟨m, hpn, rfl⟩) (fun h => H1.out h.1))
          obtain rfl : v2 = m := hv m hpn
          clear hb hv hpn HB
          have HB := HB3
          clear HB3
          by_cases h1c : pages < (n : Int)
          · have HR2 := Lib.hid (show R = (0, 0, 7) by rw [HRE.out, if_pos (.inl h1c)])
            go_wp2_with fail
            go_ret3
            exact ⟨by rw [HR2.out]; rfl, HB.out⟩
          by_cases h2c : pages < (m : Int)
          · have HR2 := Lib.hid (show R = (0, 0, 7) by rw [HRE.out, if_pos (.inr h2c)])
            go_wp2_with fail
            go_ret3
            exact ⟨by rw [HR2.out]; rfl, HB.out⟩
          have HR2 := Lib.hid (show R = ((n : Int), (m : Int), 0) by rw [HRE.out, if_neg (by omega)])
          go_wp2_with fail
          go_ret3
          exact ⟨by rw [HR2.out]; rfl, HB.out⟩
/-- number or range, as the reference reads it -/
theorem bounds_any (s : ByteArray) (pages : Int) (w : World) (hs : s.size ≤ 200) (hT : TEnv w) (hp : 1 ≤ pages) : Calls Tryd.prog 14 #[.string s, .int .i64 pages] w fun e w' => e = .returned (tup3 (refB (rdr s.data.toList) pages)) ∧ Below w.heap.size w w' := by
  by_cases hd : dashI s < 0
  · rw [ref_plain pages (dash_none hd)]
    exact bounds_no s pages w hs hT hp hd
  · have hd2 : dashI s = ((dashI s).toNat : Int) := by omega
    obtain ⟨h1, h2, h3⟩ := dash_some hd2
    have e := ref_range (t := (s.extract ((dashI s).toNat + 1) s.size).data.toList) pages hp h2
    rw [← h3] at e
    rw [e]
    exact bounds_yes s pages w _ hs hT hp hd2
end Go.Proofs.YtabnohphgegflaaDoor.PG
