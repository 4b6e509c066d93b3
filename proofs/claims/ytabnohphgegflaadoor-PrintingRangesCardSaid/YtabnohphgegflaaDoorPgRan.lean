
/-
  Ranges reads ranges of pages.
-/
import Derived.Test.YtabnohphgegflaaDoorPgBnd
namespace Go.Law.Pg
open Go.RowKit Go.Law
theorem idx_no : ∀ l : List UInt8, (∀ d ∈ l, d ≠ 44) → Lib.indexByte l 44 = -1
  | [], _ => rfl
  | b :: l, h => by
    have h1 := h b (List.mem_cons_self ..)
    unfold Lib.indexByte
    rw [if_neg (by simpa using h1), idx_no l (fun d hd => h d (List.mem_cons_of_mem _ hd))]
    rfl
theorem idx_at : ∀ (f t : List UInt8), (∀ d ∈ f, d ≠ 44) → Lib.indexByte (f ++ 44 :: t) 44 = f.length
  | [], t, _ => rfl
  | b :: f, t, h => by
    have h1 := h b (List.mem_cons_self ..)
    have h2 := idx_at f t (fun d hd => h d (List.mem_cons_of_mem _ hd))
    rw [List.cons_append]
    unfold Lib.indexByte
    rw [if_neg (by simpa using h1), h2, if_neg (by simp)]
    simp
theorem split_pieces : ∀ (n : Nat) (l : List UInt8), l.length ≤ n → Lib.splitK [44] 0 (Lib.count l [44]) l = pieces l := by
  intro n
  induction n with
  | zero =>
    intro l hl
    obtain rfl : l = [] := List.length_eq_zero_iff.1 (by omega)
    rfl
  | succ n ih =>
    intro l hl
    rcases at_mark 44 l with h | ⟨f, t, rfl, h⟩
    · have hi : Lib.index l [44] = -1 := by rw [Lib.index_one, idx_no l h]
      rw [Lib.count_miss hi, pieces_plain l h]
      rfl
    · have hi : Lib.index (f ++ 44 :: t) [44] = f.length := by rw [Lib.index_one, idx_at f t h]
      have hd : (f ++ 44 :: t).drop (f.length + 1) = t := by rw [List.drop_append]; simp
      have hc : Lib.count (f ++ 44 :: t) [44] = Lib.count t [44] + 1 := by
        rw [Lib.count_hit (by simp) hi, show f.length + [(44 : UInt8)].length = f.length + 1 from rfl, hd]; omega
      rw [hc, pieces_cut f t h, Lib.splitK, if_neg (by rw [hi]; simp), hi]
      have e1 : ((f.length : Nat) : Int).toNat + [(44 : UInt8)].length = f.length + 1 := rfl
      rw [e1, hd, ih t (by simp at hl; omega)]
      congr 1
      simp
theorem pieces_count : ∀ (l : List UInt8), (pieces l).length ≤ l.length + 1
  | [] => by simp [pieces]
  | c :: l => by
    have ih := pieces_count l
    simp only [pieces]
    split
    · simp; omega
    · split
      · simp
      · rename_i q qs hq
        rw [hq] at ih
        simp at ih ⊢
        omega
theorem pieces_len : ∀ (l : List UInt8), ∀ p ∈ pieces l, p.length ≤ l.length
  | [], p, hp => by simp [pieces] at hp; subst hp; simp
  | c :: l, p, hp => by
    have ih := pieces_len l
    simp only [pieces] at hp
    split at hp
    · rcases List.mem_cons.1 hp with rfl | hp
      · simp
      · have := ih p hp; simp; omega
    · split at hp
      · simp at hp; subst hp; simp
      · rename_i q qs hq
        rw [hq] at ih
        rcases List.mem_cons.1 hp with rfl | hp
        · have := ih q (List.mem_cons_self ..); simp; omega
        · have := ih p (List.mem_cons_of_mem _ hp); simp; omega
end Go.Law.Pg
namespace Go.Proofs.YtabnohphgegflaaDoor.PG
open Go.RowKit Go.Law Go.Law.Pg
set_option linter.unusedVariables false
set_option linter.unusedSimpArgs false
set_option maxRecDepth 100000
theorem sIndex_any (s : ByteArray) (w : World) : Calls Tryd.prog 45 #[.string s, .string ⟨#[44]⟩] w fun e w' => e = .returned (.int .i64 (Lib.indexB s ⟨#[44]⟩)) ∧ w' = w := by
  go_enter Tryd.func45, Tryd.ntmps45
  go_wp2_with fail
  refine (Any.stringslite_Index_one Tryd.lays219 s 44 w).mono ?_
  rintro e w1 ⟨rfl, rfl⟩
  go_wp2_with fail
  go_ret
  refine ⟨?_, rfl⟩
  show _ = Ending.returned (Value.int .i64 (Lib.index s.data.toList [44]))
  rw [Lib.index_one]
  rfl
theorem sCount_any (s : ByteArray) (w : World) : Calls Tryd.prog 44 #[.string s, .string ⟨#[44]⟩] w fun e w' => e = .returned (.int .i64 (Lib.countB s ⟨#[44]⟩)) ∧ w' = w := by
  refine (Any.strings_Count_one Tryd.lays138 s 44 w).mono fun e w' ⟨he, hw⟩ => ⟨?_, hw⟩
  rw [he]
  show _ = Ending.returned (Value.int .i64 ((Lib.count s.data.toList [44] : Nat) : Int))
  rw [Lib.count_one]
  rfl
theorem split_any (s : ByteArray) (w : World) (hs : s.size ≤ 200) : Calls Tryd.prog 13 #[.string s, .string ⟨#[44]⟩] w fun e w' =>
    ∃ ps : List ByteArray, ps.map (·.data.toList) = pieces s.data.toList ∧ (∀ p ∈ ps, p.size ≤ 200) ∧ ps.length ≤ 201 ∧ e = .returned (.slice (some ⟨w.heap.size, 0, none⟩) ps.length ps.length) ∧ w' = w.alloc (.cells (ps.map Value.string).toArray 9) := by
  obtain ⟨sep, hsep⟩ : ∃ sep : ByteArray, sep = ⟨#[44]⟩ := ⟨_, rfl⟩
  have h1 : 1 ≤ sep.size := by rw [hsep]; decide
  have hle := Lib.countB_le sep h1 s.size s (Nat.le_refl _)
  have hlen := Lib.splitB_all sep h1 0 _ s rfl
  have c := Any.strings_genSplit_core Tryd.lays221 (by kernel_rfl) s sep 0 (-1) (Lib.countB s sep + 1) w (by omega) h1 (Nat.zero_le _)
    (fun x c hx => by rw [hsep]; exact sIndex_any x _) (by rw [hsep]; exact sCount_any s w) (by decide) (by decide) (by rw [if_pos (by decide)]; omega)
  rw [Nat.add_sub_cancel, hlen] at c
  have e2 : Lib.cellsOf (Lib.splitB sep 0 (Lib.countB s sep) s) (Lib.countB s sep + 1) = ((Lib.splitB sep 0 (Lib.countB s sep) s).map Value.string).toArray := by rw [← hlen]; exact Lib.cellsOf_full _
  rw [e2] at c
  obtain ⟨ps, hps⟩ : ∃ ps, ps = Lib.splitB sep 0 (Lib.countB s sep) s := ⟨_, rfl⟩
  have hpl : Lib.countB s sep + 1 = ps.length := by rw [hps]; exact hlen.symm
  have hpm : ps.map (·.data.toList) = pieces s.data.toList := by
    rw [hps, Lib.splitB_data, hsep]
    exact split_pieces _ _ (Nat.le_refl _)
  have hpz : ∀ p ∈ ps, p.size ≤ 200 := by
    intro p hp
    have h2 := pieces_len s.data.toList p.data.toList (by rw [← hpm]; exact List.mem_map_of_mem hp)
    have h3 : p.data.toList.length = p.size := Array.length_toList
    have h4 : s.data.toList.length = s.size := Array.length_toList
    omega
  have hpc : ps.length ≤ 201 := by
    have h1 := pieces_count s.data.toList
    rw [← hpm, List.length_map] at h1
    have h4 : s.data.toList.length = s.size := Array.length_toList
    omega
  rw [← hps, hpl] at c
  rw [hsep] at c
  have HC := Lib.hid c
  clear c e2 hlen hle hsep hps hpl
  go_enter Tryd.func13, Tryd.ntmps13
  go_wp2_with fail
  refine HC.out.mono ?_
  rintro e w1 ⟨rfl, rfl⟩
  go_wp2_with fail
  go_ret
  exact ⟨ps, hpm, hpz, hpc, rfl, rfl⟩
theorem getElem_map {ps : List ByteArray} {i : Nat} (h : i < ps.length) : (ps.map Value.string).toArray[i]? = some (.string ps[i]) := by
  simp [h]
set_option maxHeartbeats 8000000 in
theorem ranges_any (s : ByteArray) (pages : Int) (w : World) (hT : TEnv w) : Calls Tryd.prog 5 #[.string s, .int .i64 pages] w (ZPost 3 w (rangesL s.data.toList pages)) := by
  have hsl : s.data.toList.length = s.size := Array.length_toList
  obtain ⟨L, hL⟩ : ∃ L, L = s.data.toList := ⟨_, rfl⟩
  rw [← hL] at hsl ⊢
  have HSL := Lib.hid hsl
  have HL := Lib.hid hL
  have HT := Lib.hid hT
  clear hsl hL hT
  obtain ⟨R, hR⟩ : ∃ R, R = rangesL L pages := ⟨_, rfl⟩
  rw [← hR]
  by_cases hlen : 200 < s.size
  · have HR := Lib.hid (show R = ([], 3) by rw [hR]; unfold rangesL; rw [if_pos (by have := HSL.out; omega)])
    have e1 : (200 : Int) < (s.size : Int) := by omega
    clear hR
    go_enter Tryd.func5, Tryd.ntmps5
    go_wp2_with fail
    go_ret2
    rw [HR.out]
    exact ZPost.fail (Below.refl _ _)
  have e1 : ¬ (200 : Int) < (s.size : Int) := by omega
  by_cases hp1 : pages < 1
  · have HR := Lib.hid (show R = ([], 2) by rw [hR]; unfold rangesL; rw [if_neg (by have := HSL.out; omega), if_pos (.inl hp1)])
    clear hR
    go_enter Tryd.func5, Tryd.ntmps5
    go_wp2_with fail
    go_ret2
    rw [HR.out]
    exact ZPost.fail (Below.refl _ _)
  by_cases hp2 : 500 < pages
  · have HR := Lib.hid (show R = ([], 2) by rw [hR]; unfold rangesL; rw [if_neg (by have := HSL.out; omega), if_pos (.inr hp2)])
    clear hR
    go_enter Tryd.func5, Tryd.ntmps5
    go_wp2_with fail
    go_ret2
    rw [HR.out]
    exact ZPost.fail (Below.refl _ _)
  have HR := Lib.hid (show R = run pages (pieces L) [] by rw [hR]; unfold rangesL; rw [if_neg (by have := HSL.out; omega), if_neg (by omega)])
  clear hR
  have hpa : 1 ≤ pages := by omega
  have hpb : pages ≤ 500 := by omega
  have hs200 : s.size ≤ 200 := by omega
  have HSP := Lib.hid (split_any s w hs200)
  go_enter Tryd.func5, Tryd.ntmps5
  go_wp2_with fail
  refine HSP.out.mono ?_
  rintro e w1 ⟨ps, hpm, hpz, hpc, rfl, hw1⟩
  have HPM := Lib.hid (show ps.map (·.data.toList) = pieces L by rw [hpm, HL.out])
  have HPZ := Lib.hid hpz
  obtain ⟨w2, hw2⟩ : ∃ w2, w2 = w.alloc (.cells (ps.map Value.string).toArray 9) := ⟨_, rfl⟩
  rw [hw1, ← hw2]
  obtain ⟨G, hG⟩ : ∃ G, G = w.heap.size := ⟨_, rfl⟩
  have hGl : G + 1 ≤ w2.heap.size ∧ w2.heap.size ≤ G + 1 := by rw [hw2, hG]; simp
  have HG := Lib.hid (show ∀ i, (h : i < ps.length) → w2.cell? ⟨G, i, none⟩ = some (.string ps[i]) by
    intro i h
    rw [hw2, hG]
    exact (Blk.new w _ _).cell (getElem_map h))
  have HB2 := Lib.hid (show Below w.heap.size w w2 by rw [hw2]; exact (Below.refl _ _).alloc (Nat.le_refl _) _)
  have HT2 := Lib.hid (HT.out.below HB2.out (Nat.le_refl _))
  have HGE := Lib.hid (show w.heap.size ≤ w2.heap.size by omega)
  rw [← hG]
  clear hpm hpz hw1 hw2 hG HSP
  go_wp2_with fail
  go_loopw [6, 26] (fun v iv wr => ∃ (i : Nat) (acc : List Int), iv = .int .i64 i ∧ i ≤ ps.length ∧ run pages ((ps.drop i).map (·.data.toList)) acc = R ∧ acc.length ≤ 10000 ∧ RowZ wr w2.heap.size 3 v acc ∧ Below w2.heap.size w2 wr) (fun _ iv _ => ps.length - (intOf iv).toNat)
  case atStart => exact ⟨0, [], rfl, by omega, by rw [List.drop_zero, HPM.out, HR.out], by simp, RowZ.nil _ _ _, Below.refl _ _⟩
  case round =>
    obtain ⟨i, acc, rfl, hi, hrun, hacc, hrow, hbel⟩ := hrel
    have HRUN := Lib.hid hrun
    have HROW := Lib.hid hrow
    have HBEL := Lib.hid hbel
    have hsz := hbel.size
    clear hrun hrow hbel HR
    by_cases hip : i < ps.length
    · have hip2 : (i : Int) < (ps.length : Int) := by omega
      obtain ⟨p, hp⟩ : ∃ p, p = ps[i] := ⟨_, rfl⟩
      have y0 : wr.cell? ⟨G, i, none⟩ = some (.string p) := by rw [hp]; exact (HBEL.out.cell (by show G < w2.heap.size; omega)).trans (HG.out i hip)
      have HPS := Lib.hid (show p.size ≤ 200 by rw [hp]; exact HPZ.out _ (List.getElem_mem _))
      have HRUN2 := Lib.hid (show run pages (p.data.toList :: (ps.drop (i + 1)).map (·.data.toList)) acc = R by rw [← HRUN.out, List.drop_eq_getElem_cons hip, List.map_cons, hp])
      have HTW := Lib.hid (HT2.out.below HBEL.out (Nat.le_refl _))
      clear hp HRUN
      go_wp2_with fail
      refine (bounds_any p pages wr HPS.out HTW.out hpa).mono ?_
      rintro e w3 ⟨rfl, hb3⟩
      have HB3 := Lib.hid (HBEL.out.trans (hb3.mono hsz))
      have HR3 := Lib.hid (HROW.out.below hb3 (Nat.le_refl _))
      clear hb3 HBEL HROW
      obtain ⟨A, B, E, hABE⟩ : ∃ A B E, refB (rdr p.data.toList) pages = (A, B, E) := ⟨_, _, _, rfl⟩
      rw [hABE]
      simp only [tup3]
      have HABE := Lib.hid hABE
      clear hABE
      by_cases hE : E = 0
      · subst hE
        have hbd := refB_bd (rdr_ok p.data.toList) hpa (by rw [HABE.out])
        rw [HABE.out] at hbd
        obtain ⟨hA0, hA1, hB0, hB1⟩ := hbd
        simp only at hA0 hA1 hB0 hB1
        have HOV := Lib.hid (show ∀ h : 10000 < acc.length + (B - A).natAbs + 1, R = ([], 19) from fun h => HRUN2.out.symm.trans (run_over HABE.out h))
        have HOK := Lib.hid (show ∀ h : acc.length + (B - A).natAbs + 1 ≤ 10000, run pages ((ps.drop (i + 1)).map (·.data.toList)) (acc ++ steps A B) = R from fun h => (run_ok HABE.out h).symm.trans HRUN2.out)
        clear HABE HRUN2
        go_upto_if 42 with fail
        go_cut [12] from 43 to 43 (fun sv wx => sv = .int .i64 (if B < A then -1 else 1) ∧ w3 = wx)
        case first =>
          by_cases hBA : B < A
          · go_wp2_with fail
            go_meet
            exact ⟨by rw [if_pos hBA], rfl⟩
          · go_wp2_with fail
            go_meet
            exact ⟨by rw [if_neg (by omega)], rfl⟩
        case rest =>
        obtain ⟨rfl, hw⟩ := hcut
        obtain rfl : w3 = wc := hw
        obtain ⟨SG, hSG⟩ : ∃ SG : Int, SG = (if B < A then -1 else 1) := ⟨_, rfl⟩
        have hsg1 : B < A ∧ SG = -1 ∨ ¬ B < A ∧ SG = 1 := by rw [hSG]; split <;> omega
        rw [← hSG]
        have HI := Lib.hid (info_parts (show (Tryd.prog.info? 3).map (fun i => (i.zero, i.size, i.bytes)) = some (some (.int .i64 0), 1, 8) by kernel_rfl))
        clear hSG
        go_wp2_with fail
        go_loopw [6, 13] (fun v av wx => ∃ j : Nat, av = .int .i64 (if A ≤ B then A + (j : Int) else A - (j : Int)) ∧ j ≤ (B - A).natAbs ∧ acc.length + j ≤ 10000 ∧ RowZ wx w2.heap.size 3 v (acc ++ (steps A B).take j) ∧ Below w2.heap.size w2 wx) (fun _ av _ => (B - intOf av).natAbs)
        case atStart => exact ⟨0, by simp, by omega, by omega, by rw [List.take_zero, List.append_nil]; exact HR3.out, HB3.out⟩
        case round =>
          obtain ⟨j, rfl, hj, hjl, hrow, hbel⟩ := hrel
          obtain ⟨X, hX⟩ : ∃ X, X = (if A ≤ B then A + (j : Int) else A - (j : Int)) := ⟨_, rfl⟩
          have hXd : 1 ≤ X ∧ X ≤ 500 := by rw [hX]; split <;> omega
          have hXB : (X = B ↔ j = (B - A).natAbs) ∧ (X < B → A ≤ B) ∧ (B < X → ¬ A ≤ B) := by rw [hX]; split <;> omega
          have HXS := Lib.hid hX
          have HQN := Lib.hid (steps_next (acc := acc) hj)
          rw [← hX] at HQN ⊢
          obtain ⟨Q, hQ⟩ : ∃ Q, Q = acc ++ (steps A B).take j := ⟨_, rfl⟩
          have hq3 : Q.length = acc.length + j := by rw [hQ]; exact taken_len (by omega)
          have hql : Q.length ≤ acc.length + j ∧ acc.length + j ≤ Q.length := by omega
          rw [← hQ] at hrow HQN
          have HX := Lib.hid hrow
          have HBEL := Lib.hid hbel
          have HLOW := Lib.hid hbel.size
          obtain ⟨av, cv, hv, _, _⟩ := RowL.slice hrow
          subst hv
          clear hX hQ hrow hbel HR3 HB3 hq3
          by_cases hfull : Q.length = 10000
          · have f1 : ((Q.length : Int) == 10000) = true := by simp; omega
            have HE := Lib.hid (HOV.out (by omega))
            go_wp2_with fail
            go_ret2
            rw [HE.out]
            exact ZPost.fail (HB2.out.trans (HBEL.out.mono HGE.out))
          have f1 : ((Q.length : Int) == 10000) = false := by simp; omega
          obtain ⟨ii, hii, hz0, hz1, hz2⟩ := HI.out
          go_wp2_with (at_builtin; go_loud (refine wpList_append_own _ rfl _ _ 22 rfl (w2.heap.size) 3 ii _ 1 8 Tryd.underlying22 hii hz0 hz1 hz2 rfl (by decide) _ _ _ rfl (RowL.alloc HX.out _) ⟨wr.heap.size, 0, none⟩ 1 1 [.int .i64 X] rfl rfl ?k1a ?k2a ?k3a ?k4a ?k5a ?_))
          try (case k1a =>
            intro j u hj
            match j, hj with
            | 0, hj => (simp at hj; subst hj; simp [Addr.add]))
          try (case k2a => first | rfl | (intro u hu; simp at hu; subst hu; rfl))
          try (case k3a => unfold maxLen; (try simp); (try omega))
          try (case k4a => (try simp); (try omega))
          try (case k5a => have := HLOW.out; (try simp); (try omega))
          intro v6 w6 hown hgrow _
          have HB8 := Lib.hid (Below.grown (HBEL.out.alloc HLOW.out _) hgrow (by have := HLOW.out; simp; omega) (fun k hk => RowL.ge HX.out k hk))
          have HR8 := Lib.hid (show RowZ w6 w2.heap.size 3 v6 (acc ++ (steps A B).take (j + 1)) by rw [← HQN.out]; exact RowZ.push hown)
          clear hown hgrow hii hz0 hz1 hz2 HQN HX
          by_cases hxb : X = B
          · have f2 : (X == B) = true := by simpa using hxb
            have HJ := Lib.hid (hXB.1.1 hxb)
            have HXB := Lib.hid hxb
            have HE := Lib.hid (HOK.out (by rw [← HJ.out]; omega))
            clear hxb hXB hsg1
            go_wp2_with fail
            go_roundw
            case rel =>
              refine ⟨i + 1, acc ++ steps A B, by go_num, by omega, HE.out, ?_, ?_, HB8.out⟩
              · rw [List.length_append, steps_len]; have := HJ.out; omega
              · have := HR8.out
                rw [HJ.out, steps_all] at this
                exact this
            case measure => simp [intOf]; omega
          · have f2 : (X == B) = false := by simpa using hxb
            have hnx : (A ≤ B ∧ SG = 1 ∧ X < B) ∨ (¬ A ≤ B ∧ SG = -1 ∧ B < X) := by
              rcases hsg1 with ⟨h1, h2⟩ | ⟨h1, h2⟩
              · have := HXS.out
                rw [if_neg (by omega)] at this
                omega
              · have := HXS.out
                rw [if_pos (by omega)] at this
                omega
            have HNX := Lib.hid hnx
            have e9 : IntKind.i64.wrap (X + SG) = X + SG := IntWalk.i64_in _ ⟨by omega, by omega⟩
            have HSG1 := Lib.hid hsg1
            clear hsg1 hnx hXB
            go_wp2_with fail
            go_roundw
            case rel =>
              refine ⟨j + 1, ?_, ?_, ?_, HR8.out, HB8.out⟩
              · have h1 := HXS.out
                have h2 := HNX.out
                congr 1
                split at h1 <;> (rename_i h5; first | rw [if_pos h5] | rw [if_neg h5]) <;> omega
              · have h1 := HXS.out
                have h2 := HNX.out
                split at h1 <;> omega
              · omega
            case measure =>
              have h2 := HNX.out
              simp [intOf]
              omega
      · have HE := Lib.hid ((run_err (ps := (ps.drop (i + 1)).map (·.data.toList)) (acc := acc) (e := E) (by rw [HABE.out]) hE).symm.trans HRUN2.out)
        have f1 : (E != 0) = true := by simpa using hE
        go_wp2_with fail
        go_ret2
        rw [← HE.out]
        exact ZPost.fail (HB2.out.trans (HB3.out.mono HGE.out))
    · obtain rfl : i = ps.length := by omega
      have hip2 : ¬ ((ps.length : Nat) : Int) < (ps.length : Int) := by omega
      have HE := Lib.hid (show R = (acc, 0) by rw [← HRUN.out, List.drop_length]; rfl)
      go_wp2_with fail
      go_ret2
      rw [HE.out]
      exact ⟨_, rfl, HROW.out.mono HGE.out, HB2.out.trans (HBEL.out.mono HGE.out)⟩
end Go.Proofs.YtabnohphgegflaaDoor.PG
