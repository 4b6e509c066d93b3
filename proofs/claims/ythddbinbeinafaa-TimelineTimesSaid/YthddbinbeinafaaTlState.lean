

/-
  State: the effects, one after the other.
-/
import Derived.Test.YthddbinbeinafaaTlStateP
import Derived.Test.YthddbinbeinafaaTlSortS
import Derived.Test.YthddbinbeinafaaTlSmall
import Derived.Test.YthddbinbeinafaaTlCheck
import Derived.Test.YthddbinbeinafaaTlTimes
import Derived.StillTailTactics
import Derived.Deep.CutRange
import Derived.Deep.CutBlock
namespace Go.Proofs.Ythddbinbeinafaa.TL
open Go.RowKit Go.Law Go.Law.Tl Ref
set_option linter.unusedVariables false
set_option linter.unusedSimpArgs false
set_option maxRecDepth 100000
theorem still_of {P : Program} {f : FuncId} {args : Array Value} {w : World} {v : Value} (h : Calls P f args w fun e w' => e = .returned v ∧ w = w') : Calls P f args w fun e w'' => e = .returned v ∧ w'' = w :=
  h.mono fun _ _ ⟨he, hm⟩ => ⟨he, hm.symm⟩
theorem part_bd {x p : Int} (hx : -1048576 ≤ x ∧ x ≤ 1048576) (hp : 0 ≤ p ∧ p ≤ 1000) : -1048576000 ≤ (x * p).tdiv 1000 ∧ (x * p).tdiv 1000 ≤ 1048576000 := by
  have a1 : x * p ≤ 1048576000 := by
    have h1 := Int.mul_le_mul_of_nonneg_right hx.2 hp.1
    have h2 := Int.mul_le_mul_of_nonneg_left hp.2 (show (0 : Int) ≤ 1048576 by omega)
    omega
  have a2 : -1048576000 ≤ x * p := by
    have h1 := Int.mul_le_mul_of_nonneg_right hx.1 hp.1
    have h2 := Int.mul_le_mul_of_nonneg_left hp.2 (show (0 : Int) ≤ 1048576 by omega)
    omega
  obtain ⟨q, hq⟩ : ∃ q, q = x * p := ⟨_, rfl⟩
  rw [← hq] at a1 a2 ⊢
  rcases Int.lt_or_le q 0 with h0 | h0
  · have e : q.tdiv 1000 = -((-q).tdiv 1000) := by rw [Int.neg_tdiv]; omega
    rw [e, Int.tdiv_eq_ediv_of_nonneg (by omega)]
    omega
  · rw [Int.tdiv_eq_ediv_of_nonneg h0]; omega
abbrev SS (w : World) (n : Nat) (L : Nat → Eff) (click at' : Int) (tv ov kv : Value) (l : List Int) (V K : Nat → Nat → Value) (wr : World) : Prop :=
  StS 33 4 44 36 w.heap.size w n L click at' tv ov kv l V K wr
theorem index_any (l : List Int) (V : Nat → Nat → Int) (a : Option Addr) (c q : Nat) (I : Int) (w : World) (ha : CellsF w a l.length 4 (SV (fun k => l.getD k 0) V)) (hn : l.length ≤ 1000) (hq : w.cell? ⟨q, 0, none⟩ = some (.int .i64 I)) :
    Calls Try.prog 16 #[.slice a l.length c, .func (.func 17) #[] #[.pointer (some ⟨q, 0, none⟩)]] w fun e w' => ∃ r : Int, e = .returned (.int .i64 r) ∧ ((0 ≤ r ∧ r.toNat < l.length ∧ l.getD r.toNat 0 = I) ∨ (r = -1 ∧ I ∉ l)) ∧ Below w.heap.size w w' := by
  rcases first_at (fun k => l.getD k 0) I l.length with ⟨k, h1, h2, h3⟩ | h
  · exact (index_found l.length (fun k => l.getD k 0) V a c q k I w ha hn hq h1 h2 h3).mono fun _ _ ⟨he, hb⟩ => ⟨k, he, .inl ⟨by omega, by rw [Int.toNat_natCast]; exact ⟨h1, h2⟩⟩, hb⟩
  · refine (index_none l.length (fun k => l.getD k 0) V a c q I w ha hn hq h).mono fun _ _ ⟨he, hb⟩ => ⟨-1, he, .inr ⟨rfl, fun hm => ?_⟩, hb⟩
    obtain ⟨k, hk, hx⟩ := mem_at hm
    exact h k hk hx
def StPost (w : World) (n : Nat) (L : Nat → Eff) (click at' : Int) (e : Ending) (w' : World) : Prop :=
  ∃ (l' : List Int) (a : Option Addr) (c : Nat), e = .returned (.tuple #[.slice a l'.length c, .int .i64 0]) ∧ l'.Perm (itsF L n) ∧ (∀ a b, a < b → b < l'.length → l'.getD a 0 < l'.getD b 0) ∧ CellsF w' a l'.length 4 (OV L click at' l' n) ∧ Below w.heap.size w w'
set_option maxHeartbeats 8000000 in
theorem state_ok (n : Nat) (L : Nat → Eff) (a : Option Addr) (c : Nat) (click at' : Int) (w : World) (ha : CellsF w a n 7 (fun i => (L i).V)) (hC : SortC Try.prog 20 21) (hE : effsE n L = 0) (hck : 0 ≤ click ∧ click ≤ 200) (hat : 0 ≤ at' ∧ at' ≤ 10000000) :
    Calls Try.prog 6 #[.slice a n c, .int .i64 click, .int .i64 at'] w (StPost w n L click at') := by
  obtain ⟨hn, hok⟩ := effsE_zero hE
  have HA := Lib.hid ha
  have HE := Lib.hid hE
  have HOK := Lib.hid hok
  have hmax : ∀ x y : Int, (if x < y then y else x) = max x y := fun x y => by omega
  have HIO := Lib.hid (info_parts (show (Try.prog.info? 33).map (fun i => (i.zero, i.size, i.bytes)) = some (some (.agg #[.int .i64 0, .int .i64 0, .int .i64 0, .int .i64 0]), 4, 32) by kernel_rfl))
  have HIK := Lib.hid (info_parts (show (Try.prog.info? 4).map (fun i => (i.zero, i.size, i.bytes)) = some (some (.bool false), 1, 1) by kernel_rfl))
  clear ha hE hok
  go_enter Try.func6, Try.ntmps6
  go_wp2_with fail
  refine (check_any n L a c w HA.out (by omega)).mono ?_
  rintro e w2 ⟨rfl, hb2⟩
  rw [HE.out]
  have HB2 := Lib.hid hb2
  clear hb2
  go_wp2_with fail
  refine (times_any n L a c w2 (HA.out.below (Nat.le_refl _) HB2.out) hn HOK.out).mono ?_
  rintro e w4 ⟨tv, rfl, hrow, hb4⟩
  obtain ⟨ta, tc, htv, _, _⟩ := RowI.slice hrow
  subst htv
  have HS4 := Lib.hid (show SS w n L click at' (.slice ta n tc) (.slice none 0 0) (.slice none 0 0) (itsF L 0) (OV L click at' (itsF L 0) 0) (KV L click at' (itsF L 0) 0) w4 from
    ⟨HB2.out.trans (hb4.mono HB2.out.size), Nat.le_trans HB2.out.size hb4.size, hrow.mono HB2.out.size, RowV.nil _ _ _ _ _, RowV.nil _ _ _ _ _, by decide⟩)
  clear hrow hb4 HB2
  go_wp2_with fail
  go_loopw [9, 10, 39] (fun ov kv iv wr => ∃ i : Nat, iv = .int .i64 i ∧ i ≤ n ∧ SS w n L click at' (.slice ta n tc) ov kv (itsF L i) (OV L click at' (itsF L i) i) (KV L click at' (itsF L i) i) wr) (fun _ _ iv _ => n - (intOf iv).toNat)
  case atStart => exact ⟨0, rfl, by omega, HS4.out⟩
  case round =>
    obtain ⟨i, rfl, hi, hS⟩ := hrel
    have HS := Lib.hid hS
    obtain ⟨oa, oc, hov, hocel⟩ := hS.out.cells
    subst hov
    obtain ⟨ka, kc, hkv, _, _⟩ := hS.kno.slice
    subst hkv
    have HOC := Lib.hid hocel
    clear hS HS4 hocel
    by_cases hin : i < n
    · have hok := HOK.out i hin
      have htb := tm_bd HOK.out hn hin
      have hil := itsF_len (L := L) i
      have hkd := hok.kind
      have hx1 := hok.x
      have hy1 := hok.y
      have hib := hok.item
      obtain ⟨b, off, rfl, hcell⟩ := HA.out.below (Nat.le_refl _) HS.out.below (by omega)
      have d0 : wr.cell? ⟨b, off + i * 7 + 0, none⟩ = some ((L i).V 0) := hcell i (by omega) 0 (by omega)
      have d1 : wr.cell? ⟨b, off + i * 7 + 1, none⟩ = some ((L i).V 1) := hcell i (by omega) 1 (by omega)
      have d2 : wr.cell? ⟨b, off + i * 7 + 2, none⟩ = some ((L i).V 2) := hcell i (by omega) 2 (by omega)
      have d3 : wr.cell? ⟨b, off + i * 7 + 3, none⟩ = some ((L i).V 3) := hcell i (by omega) 3 (by omega)
      have d4 : wr.cell? ⟨b, off + i * 7 + 4, none⟩ = some ((L i).V 4) := hcell i (by omega) 4 (by omega)
      have d5 : wr.cell? ⟨b, off + i * 7 + 5, none⟩ = some ((L i).V 5) := hcell i (by omega) 5 (by omega)
      have d6 : wr.cell? ⟨b, off + i * 7 + 6, none⟩ = some ((L i).V 6) := hcell i (by omega) 6 (by omega)
      have zb := lt_of_cell d0
      simp only at zb
      clear hcell
      obtain ⟨g, cap, htv, _, _, _, _, _, hgc⟩ := RowI.at HS.out.tm (by omega)
      obtain ⟨rfl, rfl⟩ : ta = some ⟨g, 0, none⟩ ∧ tc = cap := by cases htv; exact ⟨rfl, rfl⟩
      clear htv hgc
      obtain ⟨p, hp⟩ : ∃ p, p = L i := ⟨_, rfl⟩
      rw [← hp] at d0 d1 d2 d3 d4 d5 d6 hkd hx1 hy1 hib
      have HP := Lib.hid hp
      clear hp hok
      obtain ⟨I, KI, S, D, T, X, Y⟩ := p
      simp only [Eff.V] at d0 d1 d2 d3 d4 d5 d6
      simp only at hkd hx1 hy1 hib
      rw [Nat.add_zero] at d0
      have HIT := Lib.hid (show (L i).item = I by rw [← HP.out])
      go_upto_region 12 with fail
      obtain ⟨wz, hwz⟩ : ∃ wz, wz = wr.alloc (Obj.cells #[.int .i64 I, .int .i64 KI, .int .i64 S, .int .i64 D, .int .i64 T, .int .i64 X, .int .i64 Y] 36) := ⟨_, rfl⟩
      have qz : Blk wz wr.heap.size #[.int .i64 I, .int .i64 KI, .int .i64 S, .int .i64 D, .int .i64 T, .int .i64 X, .int .i64 Y] 36 := by rw [hwz]; exact Blk.new _ _ _
      have hbz : Below wr.heap.size wr wz := by rw [hwz]; exact (Below.refl _ _).alloc (Nat.le_refl _) _
      have HSZ := Lib.hid (HS.out.under hbz)
      have HOZ := Lib.hid (HOC.out.below (Nat.le_refl _) hbz)
      rw [← hwz]
      obtain ⟨q, hq⟩ : ∃ q, q = wr.heap.size := ⟨_, rfl⟩
      rw [← hq] at qz ⊢
      have HQZ := Lib.hid qz
      clear hwz hq d0 d1 d2 d3 d4 d5 d6 zb qz hbz HS HOC
      go_wp2_with fail
      refine (index_any (itsF L i) (fun k j => if j = 1 then seenF (staF L click at' ((itsF L i).getD k 0) i) else if j = 2 then (staF L click at' ((itsF L i).getD k 0) i).x else (staF L click at' ((itsF L i).getD k 0) i).y) oa oc q I wz HOZ.out (by omega) (HQZ.out.cell (i := 0) rfl)).mono ?_
      rintro e w5 ⟨r, rfl, hr, hb5⟩
      have HS5 := Lib.hid (HSZ.out.under hb5)
      have HQ5 := Lib.hid (HQZ.out.below hb5 HQZ.out.lt)
      have HRR := Lib.hid hr
      clear hb5 HSZ HQZ HOZ hr
      go_upto_if 48 with fail
      go_cut [9, 10, 14, 39] from 39 to 150 (fun ov kv kx iv wx => iv = .int .i64 i ∧ ∃ k : Nat, kx = .int .i64 k ∧ k < (itsF L (i + 1)).length ∧ (itsF L (i + 1)).getD k 0 = I ∧ Blk wx q #[.int .i64 I, .int .i64 KI, .int .i64 S, .int .i64 D, .int .i64 T, .int .i64 X, .int .i64 Y] 36 ∧ SS w n L click at' (.slice (some ⟨g, 0, none⟩) n tc) ov kv (itsF L (i + 1)) (OV L click at' (itsF L (i + 1)) i) (KV L click at' (itsF L (i + 1)) i) wx)
      case first =>
        rcases HRR.out with ⟨hr0, hr1, hr2⟩ | ⟨hr0, hr1⟩
        · obtain ⟨k, rfl⟩ : ∃ k : Nat, r = k := ⟨r.toNat, by omega⟩
          rw [Int.toNat_natCast] at hr1 hr2
          have hm : (L i).item ∈ itsF L i := by
            rw [HIT.out, ← hr2]
            simp only [List.getD, List.getElem?_eq_getElem hr1, Option.getD_some]
            exact List.getElem_mem _
          have he : itsF L (i + 1) = itsF L i := by rw [itsF, if_pos hm]
          have HEE := Lib.hid he
          have HR2 := Lib.hid hr2
          clear he hm hr2 HRR
          go_wp2_with fail
          go_meet
          exact ⟨rfl, k, rfl, by rw [HEE.out]; exact hr1, by rw [HEE.out]; exact HR2.out, HQ5.out, by rw [HEE.out]; exact HS5.out⟩
        · subst hr0
          have he : itsF L (i + 1) = itsF L i ++ [I] := by rw [itsF, if_neg (by rw [HIT.out]; exact hr1), HIT.out]
          have hst : staF L click at' I i = ⟨-1, 0, 0⟩ := staF_none hr1
          have HEE := Lib.hid he
          have HST := Lib.hid hst
          clear he hst hr1 HRR
          go_upto_region 15 with fail
          have y0 := HQ5.out.cell (i := 0) rfl
          have zq := HQ5.out.lt
          obtain ⟨xs, ho0, hxl, hxs⟩ := HS5.out.out.own
          have HX := Lib.hid ho0
          have HXL := Lib.hid hxl
          have HXS := Lib.hid hxs
          obtain ⟨ii, hii, hz0, hz1, hz2⟩ := HIO.out
          clear ho0 hxl hxs
          go_wp2_with (at_builtin; go_loud (refine wpList_append_own _ rfl _ _ 24 rfl (w.heap.size) 33 ii _ 4 32 Try.underlying24 hii hz0 hz1 hz2 rfl (by decide) _ _ _ rfl (RowL.alloc HX.out _) ⟨w5.heap.size, 0, none⟩ 1 1 [.int .i64 I, .int .i64 1000, .int .i64 0, .int .i64 0] rfl rfl ?k1 ?k2 ?k3 ?k4 ?k5 ?_))
          try (case k1 =>
            intro j u hj
            have e : Addr.add ⟨w5.heap.size, 0, none⟩ j = ⟨w5.heap.size, j, none⟩ := by simp [Addr.add]; omega
            rw [e]
            exact cellNew (by simpa using hj))
          try (case k2 => first | exact ⟨rfl, rfl, rfl, rfl⟩ | (intro u hu; simp at hu; rcases hu with rfl | rfl | rfl | rfl <;> rfl))
          try (case k3 => unfold maxLen; (try simp); (try omega))
          try (case k4 => (try simp); (try omega))
          try (case k5 => have := HS5.out.low; (try simp); (try omega))
          intro v6 w6 hown6 hgrow6 _
          have HO6 := Lib.hid hown6
          have HG6 := Lib.hid hgrow6
          obtain ⟨xs2, hk0, hkl, hks⟩ := (HS5.out.kno1 hgrow6).own
          have HX2 := Lib.hid hk0
          have HXL2 := Lib.hid hkl
          have HXS2 := Lib.hid hks
          have hs6 := hgrow6.size
          have hlow := HS5.out.low
          rw [World.size_alloc] at hs6
          clear hown6 hgrow6 hk0 hkl hks hii hz0 hz1 hz2
          obtain ⟨ii, hii, hz0, hz1, hz2⟩ := HIK.out
          go_wp2_with (at_builtin; go_loud (refine wpList_append_own _ rfl _ _ 47 rfl (w.heap.size) 4 ii _ 1 1 Try.underlying47 hii hz0 hz1 hz2 rfl (by decide) _ _ _ rfl (RowL.alloc HX2.out _) ⟨w6.heap.size, 0, none⟩ 1 1 [.bool false] rfl rfl ?l1 ?l2 ?l3 ?l4 ?l5 ?_))
          try (case l1 =>
            intro j u hj
            match j, hj with
            | 0, hj => (simp at hj; subst hj; simp [Addr.add]))
          try (case l2 => first | rfl | (intro u hu; simp at hu; subst hu; rfl))
          try (case l3 => unfold maxLen; (try simp); (try omega))
          try (case l4 => (try simp); (try omega))
          try (case l5 => (try simp); (try omega))
          intro v7 w7 hown7 hgrow7 _
          have hn1 : (itsF L i ++ [I]).length = (itsF L i).length + 1 := by simp
          have hS7 := HS5.out.both (l' := itsF L i ++ [I]) (V' := OV L click at' (itsF L i ++ [I]) i) (K' := KV L click at' (itsF L i ++ [I]) i) HG6.out
            (by rw [hn1]; exact RowV.push HO6.out HXL.out HXS.out (fun j hj => OV_new HST.out j hj) (fun a ha b _ => OV_push i a ha b)) hgrow7
            (by rw [hn1]; exact RowV.push hown7 HXL2.out HXS2.out (fun j hj => KV_new HST.out j hj) (fun a ha b _ => KV_push i a ha b))
          have HQ7 := Lib.hid (HS5.out.box HQ5.out HG6.out hgrow7)
          have HS7 := Lib.hid hS7
          clear hown7 hgrow7 hS7 hii hz0 hz1 hz2 HX HXS HXL HX2 HXL2 HXS2 HO6 HG6 y0 zq hn1
          go_wp2_with fail
          go_meet
          refine ⟨rfl, (itsF L i).length, rfl, by rw [HEE.out]; simp, by rw [HEE.out]; exact getD_last _ _, HQ7.out, by rw [HEE.out]; exact HS7.out⟩
      case rest =>
      obtain ⟨rfl, k, rfl, hk, hIk, hQ, hS⟩ := hcut
      have hnd := itsF_nodup (L := L) (i + 1)
      obtain ⟨go, co, hov, hgo, _, _, _, hfo, hoc⟩ := RowV.at hS.out (by omega)
      obtain ⟨gk, ck, hkv, hgk, _, _, _, hfk, hkc⟩ := RowV.at hS.kno (by omega)
      subst hov hkv
      have hne : go ≠ gk := fun e => hS.out.apart hS.kno hS.kinds.1 (k := go) (by simp [Value.ownBlock]) (by rw [e]; simp [Value.ownBlock])
      obtain ⟨g', cap', htv, _, _, _, _, _, hgc⟩ := RowI.at hS.tm (by omega)
      obtain ⟨rfl, rfl⟩ : g = g' ∧ tc = cap' := by cases htv; exact ⟨rfl, rfl⟩
      have t0 := hgc (i * 3) (by omega)
      have t1 := hgc (i * 3 + 1) (by omega)
      have t2 := hgc (i * 3 + 2) (by omega)
      rw [(TF_at L i).1] at t0
      rw [(TF_at L i).2.1] at t1
      rw [(TF_at L i).2.2] at t2
      have zt := lt_of_cell t0
      simp only at zt
      have HS6 := Lib.hid hS
      have HQ6 := Lib.hid hQ
      have HIK2 := Lib.hid hIk
      have HND := Lib.hid hnd
      have hsb := sta_bd (click := click) (at' := at') HOK.out hn I (i := i) (by omega)
      obtain ⟨b1, b2, b3, b4, b5, b6, b7⟩ := htb
      obtain ⟨PP, hPP⟩ : ∃ y, y = prI L click at' i := ⟨_, rfl⟩
      have hpb : 0 ≤ PP ∧ PP ≤ 1000 := by rw [hPP]; exact prg_bd b4.1
      have HPP := Lib.hid (show prg (tmC L i) (tmF L i) (tmT L i) click at' = PP from hPP.symm)
      have HPP2 := Lib.hid hPP
      obtain ⟨TC, hTC⟩ : ∃ y, y = tmC L i := ⟨_, rfl⟩
      obtain ⟨TF', hTF⟩ : ∃ y, y = tmF L i := ⟨_, rfl⟩
      obtain ⟨TT, hTT⟩ : ∃ y, y = tmT L i := ⟨_, rfl⟩
      rw [← hTC] at t0 b1 HPP
      rw [← hTF] at t1 b2 b4 HPP
      rw [← hTT] at t2 b3 b4 HPP
      clear hgc htv hnd hIk hQ hS hPP hTC hTF hTT hfo hoc hfk hkc HS5 HQ5 HRR
      go_wp2_with fail
      refine (progress_any TC TF' TT click at' wc b1 b2 ⟨b4.1, b3.2⟩ hck hat).mono ?_
      rintro e w8 ⟨rfl, hb8⟩
      rw [HPP.out]
      have hS8 := HS6.out.under hb8
      have hQ8 := HQ6.out.below hb8 HQ6.out.lt
      obtain ⟨go', co', hov, _, _, _, _, hfo, hoc⟩ := RowV.at hS8.out (by omega)
      obtain ⟨rfl, rfl⟩ : go = go' ∧ co = co' := by cases hov; exact ⟨rfl, rfl⟩
      obtain ⟨gk', ck', hkv, _, _, _, _, hfk, hkc⟩ := RowV.at hS8.kno (by omega)
      obtain ⟨rfl, rfl⟩ : gk = gk' ∧ ck = ck' := by cases hkv; exact ⟨rfl, rfl⟩
      obtain ⟨SS0, hSS⟩ : ∃ y, y = staF L click at' I i := ⟨_, rfl⟩
      have o1 : w8.cell? ⟨go, k * 4 + 1, none⟩ = some (.int .i64 (seenF SS0)) := by
        have h := hoc k hk 1 (by omega)
        unfold OV at h
        rw [HIK2.out, ← hSS] at h
        exact h
      have o2 : w8.cell? ⟨go, k * 4 + 2, none⟩ = some (.int .i64 SS0.x) := by
        have h := hoc k hk 2 (by omega)
        unfold OV at h
        rw [HIK2.out, ← hSS] at h
        exact h
      have o3 : w8.cell? ⟨go, k * 4 + 3, none⟩ = some (.int .i64 SS0.y) := by
        have h := hoc k hk 3 (by omega)
        unfold OV at h
        rw [HIK2.out, ← hSS] at h
        exact h
      have kb : w8.cell? ⟨gk, k, none⟩ = some (.bool (decide (0 ≤ SS0.seen))) := by
        have h := hkc k hk 0 (by omega)
        unfold KV at h
        rw [HIK2.out, ← hSS, Nat.mul_one, Nat.add_zero] at h
        exact h
      have f1 := hfo (k * 4 + 1)
      have f2 := hfo (k * 4 + 2)
      have f3 := hfo (k * 4 + 3)
      have fk := hfk k
      have zo := lt_of_cell o1
      have zk := lt_of_cell kb
      simp only at zo zk
      rw [← hSS] at hsb
      have y1 := hQ8.cell (i := 1) rfl
      have y5 := hQ8.cell (i := 5) rfl
      have y6 := hQ8.cell (i := 6) rfl
      have zq := hQ8.lt
      have HS8 := Lib.hid hS8
      have HQNK := Lib.hid (show q ≠ gk from fun e => hS8.kno.notblk hQ8 hS8.kinds.2.2.2.2 (by rw [e]; simp [Value.ownBlock]))
      have HQNE := Lib.hid (show q ≠ go from fun e => hS8.out.notblk hQ8 hS8.kinds.2.2.2.1 (by rw [e]; simp [Value.ownBlock]))
      have HST := Lib.hid (show staF L click at' (L i).item i = SS0 by rw [HIT.out, hSS])
      have HLI := Lib.hid (show (itsF L (i + 1)).getD k 0 = (L i).item by rw [HIK2.out, HIT.out])
      have hkl : (k : Int) < ((itsF L (i + 1)).length : Int) := by omega
      clear hb8 hov hkv hfo hoc hfk hkc hS8 hQ8 hSS t0 t1 t2 zt HS6 HQ6 HIK2 HPP b1 b2 b3 b4 b5 b6 b7
      obtain ⟨s, sx, sy⟩ := SS0
      simp only at o1 o2 o3 kb hsb
      by_cases hk2 : KI = 2
      · subst hk2
        have HSTEP := Lib.hid (show stepS (staF L click at' (L i).item i) (L i) (prI L click at' i) = ⟨s, sx + (X * PP).tdiv 1000, sy + (Y * PP).tdiv 1000⟩ by
          rw [HST.out, ← HPP2.out, step_by (by rw [← HP.out]), ← HP.out])
        obtain ⟨a1, a2⟩ := part_bd hx1 hpb
        obtain ⟨c1, c2⟩ := part_bd hy1 hpb
        have hc1 := still_of (part_any X PP w8.drew hx1 hpb)
        obtain ⟨PX, hPX⟩ : ∃ y, y = (X * PP).tdiv 1000 := ⟨_, rfl⟩
        obtain ⟨PY, hPY⟩ : ∃ y, y = (Y * PP).tdiv 1000 := ⟨_, rfl⟩
        rw [← hPX] at a1 a2 hc1 HSTEP
        rw [← hPY] at c1 c2 HSTEP
        have g1 : IntKind.i64.wrap (sx + PX) = sx + PX := IntWalk.i64_in _ ⟨by omega, by omega⟩
        have g2 : IntKind.i64.wrap (sy + PY) = sy + PY := IntWalk.i64_in _ ⟨by omega, by omega⟩
        have HC1 := Lib.hid hc1
        have HPY := Lib.hid hPY
        have HG1 := Lib.hid g1
        have HG2 := Lib.hid g2
        clear hPX hPY hc1 g1 g2
        go_upto_region 18 with fail
        have g1 := HG1.out
        go_wp2_with fail
        refine wp_region_still_tail 12 (by kernel_rfl) (by kernel_rfl) ?_
        simp only [List.take_succ_cons, List.take_zero, List.drop_succ_cons, List.drop_zero]
        repeat still_step
        (refine wpStill_step (fun K hK => ?_); go_simp; with_reducible refine ⟨_, HC1.out, hK _ ?_⟩; clear hK K)
        repeat still_step
        try refine wpStill_nil ?_
        change wpList _ _ _ _ _ w8.drew
        obtain ⟨w9, hw9⟩ : ∃ w9, w9 = w8.drew := ⟨_, rfl⟩
        have HS9 := Lib.hid (HS8.out.under (w' := w9) (by rw [hw9]; exact (Below.refl _ _).drew))
        have e3 : w9.cell? ⟨go, k * 4 + 3, none⟩ = some (.int .i64 sy) := by rw [hw9]; exact o3
        have h2 : w9.frozen? ⟨go, k * 4 + 2, none⟩ = false := by rw [hw9]; exact f2
        have h3 : w9.frozen? ⟨go, k * 4 + 3, none⟩ = false := by rw [hw9]; exact f3
        have e2 : w9.cell? ⟨go, k * 4 + 2, none⟩ = some (.int .i64 sx) := by rw [hw9]; exact o2
        have v6 : w9.cell? ⟨q, 6, none⟩ = some (.int .i64 Y) := by rw [hw9]; exact y6
        have u1 : go < w9.heap.size := by rw [hw9]; exact zo
        have u2 : q < w9.heap.size := by rw [hw9]; exact zq
        have HQN := Lib.hid (show q ≠ go from HQNE.out)
        rw [← hw9]
        clear hw9 o1 o2 o3 f1 f2 f3 y1 y5 y6 zo zq HS8 g1 kb fk zk
        go_upto_region 19 with fail
        obtain ⟨w10, hw10⟩ : ∃ w10, w10 = w9.setCell ⟨go, k * 4 + 2, none⟩ (.int .i64 (sx + PX)) := ⟨_, rfl⟩
        have HS10 := Lib.hid (show SS w n L click at' _ _ _ _ _ _ w10 by rw [hw10]; exact HS9.out.setO hk (by omega) (.int .i64 (sx + PX)))
        have r3 : w10.cell? ⟨go, k * 4 + 3, none⟩ = some (.int .i64 sy) := by
          rw [hw10]; exact (World.cell?_setCell_other w9 ⟨go, k * 4 + 2, none⟩ ⟨go, k * 4 + 3, none⟩ _ (by simp)).trans e3
        have k3 : w10.frozen? ⟨go, k * 4 + 3, none⟩ = false := by rw [hw10]; simpa using h3
        have q6 : w10.cell? ⟨q, 6, none⟩ = some (.int .i64 Y) := by
          rw [hw10]; exact (World.cell?_setCell_other w9 ⟨go, k * 4 + 2, none⟩ ⟨q, 6, none⟩ _ (by intro e; injection e with e; exact HQN.out e.symm)).trans v6
        have u3 : go < w10.heap.size := by rw [hw10]; simpa [World.setCell] using u1
        have u4 : q < w10.heap.size := by rw [hw10]; simpa [World.setCell] using u2
        rw [← hw10]
        clear hw10 e2 e3 h2 h3 v6 u1 u2 HS9
        have HC2 := Lib.hid (show Calls Try.prog 19 #[.int .i64 Y, .int .i64 PP] w10.drew fun e w'' => e = .returned (.int .i64 PY) ∧ w'' = w10.drew by rw [HPY.out]; exact still_of (part_any Y PP w10.drew hy1 hpb))
        have g2 := HG2.out
        go_wp2_with fail
        refine wp_region_still_tail 12 (by kernel_rfl) (by kernel_rfl) ?_
        simp only [List.take_succ_cons, List.take_zero, List.drop_succ_cons, List.drop_zero]
        repeat still_step
        (refine wpStill_step (fun K hK => ?_); go_simp; with_reducible refine ⟨_, HC2.out, hK _ ?_⟩; clear hK K)
        repeat still_step
        try refine wpStill_nil ?_
        change wpList _ _ _ _ _ w10.drew
        obtain ⟨w11, hw11⟩ : ∃ w11, w11 = w10.drew := ⟨_, rfl⟩
        have HS11 := Lib.hid (HS10.out.under (w' := w11) (by rw [hw11]; exact (Below.refl _ _).drew))
        have e3 : w11.cell? ⟨go, k * 4 + 3, none⟩ = some (.int .i64 sy) := by rw [hw11]; exact r3
        have h3 : w11.frozen? ⟨go, k * 4 + 3, none⟩ = false := by rw [hw11]; exact k3
        have u1 : go < w11.heap.size := by rw [hw11]; exact u3
        rw [← hw11]
        clear hw11 r3 k3 q6 u3 u4 HS10 g2
        go_wp2_with fail
        go_roundw
        case rel =>
          refine ⟨i + 1, by go_num, by omega, (HS11.out.setO hk (j := 3) (by omega) (.int .i64 (sy + PY))).congr (OV_step HND.out hk HLI.out ?v1 ?v2 ?v3 ?v4) (KV_step HND.out hk HLI.out ?v5 ?v6)⟩
          case v1 =>
            intro a' ha' b' hb' hab
            unfold updV
            rw [if_neg (by omega), if_neg (by omega)]
          case v2 =>
            unfold updV
            rw [if_neg (by omega), if_neg (by omega), HSTEP.out]
            unfold OV
            rw [if_neg (by omega), if_pos rfl, HLI.out, HST.out]
            rfl
          case v3 =>
            unfold updV
            rw [if_neg (by omega), if_pos ⟨rfl, rfl⟩, HSTEP.out]
          case v4 =>
            unfold updV
            rw [if_pos ⟨rfl, rfl⟩, HSTEP.out]
          case v5 => intro a' ha' hak; rfl
          case v6 =>
            unfold KV
            rw [HLI.out, HSTEP.out, HST.out]
        case measure => simp [intOf]; omega
      · have hkn : (KI == 2) = false := by simpa using hk2
        have hk01 : KI = 0 ∨ KI = 1 := by omega
        have HGK := Lib.hid hne
        clear o2 o3 f2 f3 y5 y6 hk2
        have q1 : go ≠ q := fun e => HQNE.out e.symm
        have q2 : gk ≠ q := fun e => HQNK.out e.symm
        have q3 : q ≠ go := HQNE.out
        have q4 : q ≠ gk := HQNK.out
        have q5 : gk ≠ go := fun e => hne e.symm
        have HO1 := Lib.hid (show OV L click at' (itsF L (i + 1)) i k 1 = .int .i64 (seenF ⟨s, sx, sy⟩) by unfold OV; rw [if_neg (by omega), if_pos rfl, HLI.out, HST.out])
        have HO2 := Lib.hid (show OV L click at' (itsF L (i + 1)) i k 2 = .int .i64 sx by unfold OV; rw [if_neg (by omega), if_neg (by omega), if_pos rfl, HLI.out, HST.out])
        have HO3 := Lib.hid (show OV L click at' (itsF L (i + 1)) i k 3 = .int .i64 sy by unfold OV; rw [if_neg (by omega), if_neg (by omega), if_neg (by omega), HLI.out, HST.out])
        rcases hk01 with rfl | rfl
        · have HSTEP := Lib.hid (show stepS (staF L click at' (L i).item i) (L i) (prI L click at' i) = ⟨if PP = 0 then (if s < 0 then 0 else s) else max (if s < 0 then 0 else s) PP, sx, sy⟩ by
            rw [HST.out, ← HPP2.out, step_in (by rw [← HP.out]) hpb.1])
          by_cases hs : s < 0
          · have hsk : decide (0 ≤ s) = false := decide_eq_false (by omega)
            have hsf : seenF ⟨s, sx, sy⟩ = 1000 := if_pos hs
            rw [hsk] at kb
            rw [hsf] at o1
            by_cases hp0 : PP = 0
            · subst hp0
              have HSEEN := Lib.hid (show stepS (staF L click at' (L i).item i) (L i) (prI L click at' i) = ⟨0, sx, sy⟩ by rw [HSTEP.out, if_pos rfl, if_pos hs])
              clear hsk hsf HSTEP
              have HRS := Lib.hid (show seenF ⟨0, sx, sy⟩ = 0 from if_neg (by show ¬ (0) < 0; omega))
              have HRK := Lib.hid (show decide (0 ≤ (Sta.mk (0) sx sy).seen) = true from decide_eq_true (by show 0 ≤ 0; omega))
              go_wp2_with fail
              go_roundw
              case rel =>
                refine ⟨i + 1, by go_num, by omega, ((HS8.out.setO hk (j := 1) (by omega) (.int .i64 0)).setK hk (.bool true)).congr (OV_step HND.out hk HLI.out ?v1a ?v2a ?v3a ?v4a) (KV_step HND.out hk HLI.out ?v5a ?v6a)⟩
                case v1a =>
                  intro a' ha' b' hb' hab
                  (try unfold updV)
                  repeat rw [if_neg (by omega)]
                  try rfl
                case v2a =>
                  rw [HSEEN.out, HRS.out]
                  (try unfold updV)
                  first | rfl | (rw [if_pos ⟨rfl, rfl⟩])
                case v3a =>
                  rw [HSEEN.out]
                  (try unfold updV)
                  repeat rw [if_neg (by omega)]
                  rw [HO2.out]
                case v4a =>
                  rw [HSEEN.out]
                  (try unfold updV)
                  repeat rw [if_neg (by omega)]
                  rw [HO3.out]
                case v5a =>
                  intro a' ha' hak
                  (try unfold updV)
                  repeat rw [if_neg (by omega)]
                case v6a =>
                  rw [HSEEN.out, HRK.out]
                  (try unfold updV)
                  rw [if_pos ⟨rfl, rfl⟩]
              case measure => simp [intOf]; omega
            · have HSEEN := Lib.hid (show stepS (staF L click at' (L i).item i) (L i) (prI L click at' i) = ⟨max 0 PP, sx, sy⟩ by rw [HSTEP.out, if_neg hp0, if_pos hs])
              have hp1 : 0 < PP := by omega
              clear hsk hsf HSTEP hp0
              have HRS := Lib.hid (show seenF ⟨max 0 PP, sx, sy⟩ = max 0 PP from if_neg (by show ¬ (max 0 PP) < 0; omega))
              have HRK := Lib.hid (show decide (0 ≤ (Sta.mk (max 0 PP) sx sy).seen) = true from decide_eq_true (by show 0 ≤ max 0 PP; omega))
              go_wp2_with fail
              go_roundw
              case rel =>
                refine ⟨i + 1, by go_num, by omega, (((HS8.out.setO hk (j := 1) (by omega) (.int .i64 0)).setK hk (.bool true)).setO hk (j := 1) (by omega) (.int .i64 (max 0 PP))).congr (OV_step HND.out hk HLI.out ?v1b ?v2b ?v3b ?v4b) (KV_step HND.out hk HLI.out ?v5b ?v6b)⟩
                case v1b =>
                  intro a' ha' b' hb' hab
                  (try unfold updV)
                  repeat rw [if_neg (by omega)]
                  try rfl
                case v2b =>
                  rw [HSEEN.out, HRS.out]
                  (try unfold updV)
                  first | rfl | (rw [if_pos ⟨rfl, rfl⟩])
                case v3b =>
                  rw [HSEEN.out]
                  (try unfold updV)
                  repeat rw [if_neg (by omega)]
                  rw [HO2.out]
                case v4b =>
                  rw [HSEEN.out]
                  (try unfold updV)
                  repeat rw [if_neg (by omega)]
                  rw [HO3.out]
                case v5b =>
                  intro a' ha' hak
                  (try unfold updV)
                  repeat rw [if_neg (by omega)]
                case v6b =>
                  rw [HSEEN.out, HRK.out]
                  (try unfold updV)
                  rw [if_pos ⟨rfl, rfl⟩]
              case measure => simp [intOf]; omega
          · have hsk : decide (0 ≤ s) = true := decide_eq_true (by omega)
            have hsf : seenF ⟨s, sx, sy⟩ = s := if_neg hs
            rw [hsk] at kb
            rw [hsf] at o1
            rw [hsf] at HO1
            by_cases hp0 : PP = 0
            · subst hp0
              have HSEEN := Lib.hid (show stepS (staF L click at' (L i).item i) (L i) (prI L click at' i) = ⟨s, sx, sy⟩ by rw [HSTEP.out, if_pos rfl, if_neg hs])
              clear hsk hsf HSTEP
              have HRS := Lib.hid (show seenF ⟨s, sx, sy⟩ = s from if_neg (by show ¬ (s) < 0; omega))
              have HRK := Lib.hid (show decide (0 ≤ (Sta.mk (s) sx sy).seen) = true from decide_eq_true (by show 0 ≤ s; omega))
              go_wp2_with fail
              go_roundw
              case rel =>
                refine ⟨i + 1, by go_num, by omega, (HS8.out.setK hk (.bool true)).congr (OV_step HND.out hk HLI.out ?v1c ?v2c ?v3c ?v4c) (KV_step HND.out hk HLI.out ?v5c ?v6c)⟩
                case v1c =>
                  intro a' ha' b' hb' hab
                  (try unfold updV)
                  repeat rw [if_neg (by omega)]
                  try rfl
                case v2c =>
                  rw [HSEEN.out, HRS.out]
                  (try unfold updV)
                  first | rfl | (rw [HO1.out])
                case v3c =>
                  rw [HSEEN.out]
                  (try unfold updV)
                  repeat rw [if_neg (by omega)]
                  rw [HO2.out]
                case v4c =>
                  rw [HSEEN.out]
                  (try unfold updV)
                  repeat rw [if_neg (by omega)]
                  rw [HO3.out]
                case v5c =>
                  intro a' ha' hak
                  (try unfold updV)
                  repeat rw [if_neg (by omega)]
                case v6c =>
                  rw [HSEEN.out, HRK.out]
                  (try unfold updV)
                  rw [if_pos ⟨rfl, rfl⟩]
              case measure => simp [intOf]; omega
            · have HSEEN := Lib.hid (show stepS (staF L click at' (L i).item i) (L i) (prI L click at' i) = ⟨max s PP, sx, sy⟩ by rw [HSTEP.out, if_neg hp0, if_neg hs])
              have hp1 : 0 < PP := by omega
              clear hsk hsf HSTEP hp0
              have HRS := Lib.hid (show seenF ⟨max s PP, sx, sy⟩ = max s PP from if_neg (by show ¬ (max s PP) < 0; omega))
              have HRK := Lib.hid (show decide (0 ≤ (Sta.mk (max s PP) sx sy).seen) = true from decide_eq_true (by show 0 ≤ max s PP; omega))
              go_wp2_with fail
              go_roundw
              case rel =>
                refine ⟨i + 1, by go_num, by omega, ((HS8.out.setK hk (.bool true)).setO hk (j := 1) (by omega) (.int .i64 (max s PP))).congr (OV_step HND.out hk HLI.out ?v1d ?v2d ?v3d ?v4d) (KV_step HND.out hk HLI.out ?v5d ?v6d)⟩
                case v1d =>
                  intro a' ha' b' hb' hab
                  (try unfold updV)
                  repeat rw [if_neg (by omega)]
                  try rfl
                case v2d =>
                  rw [HSEEN.out, HRS.out]
                  (try unfold updV)
                  first | rfl | (rw [if_pos ⟨rfl, rfl⟩])
                case v3d =>
                  rw [HSEEN.out]
                  (try unfold updV)
                  repeat rw [if_neg (by omega)]
                  rw [HO2.out]
                case v4d =>
                  rw [HSEEN.out]
                  (try unfold updV)
                  repeat rw [if_neg (by omega)]
                  rw [HO3.out]
                case v5d =>
                  intro a' ha' hak
                  (try unfold updV)
                  repeat rw [if_neg (by omega)]
                case v6d =>
                  rw [HSEEN.out, HRK.out]
                  (try unfold updV)
                  rw [if_pos ⟨rfl, rfl⟩]
              case measure => simp [intOf]; omega
        · have HSTEP := Lib.hid (show stepS (staF L click at' (L i).item i) (L i) (prI L click at' i) = ⟨if PP = 0 then (if s < 0 then 1000 else s) else min (if s < 0 then 1000 else s) (1000 - PP), sx, sy⟩ by
            rw [HST.out, ← HPP2.out, step_out (by rw [← HP.out])])
          have hmin : ∀ x y : Int, (if y < x then y else x) = min x y := fun x y => by omega
          obtain ⟨s1, hs1⟩ : ∃ s1, s1 = seenF ⟨s, sx, sy⟩ := ⟨_, rfl⟩
          have hse : (if s < 0 then 1000 else s) = s1 := by rw [hs1]; rfl
          have hsb1 : 0 ≤ s1 ∧ s1 ≤ 1000 := by rw [← hse]; split <;> omega
          rw [hse] at HSTEP
          rw [← hs1] at o1 HO1
          obtain ⟨kn, hkn2⟩ : ∃ kn, kn = decide (0 ≤ s) := ⟨_, rfl⟩
          rw [← hkn2] at kb
          clear hs1 hse hkn2
          by_cases hp0 : PP = 0
          · subst hp0
            have HSEEN := Lib.hid (show stepS (staF L click at' (L i).item i) (L i) (prI L click at' i) = ⟨s1, sx, sy⟩ by rw [HSTEP.out, if_pos rfl])
            clear HSTEP
            cases kn
            · have HRS := Lib.hid (show seenF ⟨s1, sx, sy⟩ = s1 from if_neg (by show ¬ (s1) < 0; omega))
              have HRK := Lib.hid (show decide (0 ≤ (Sta.mk (s1) sx sy).seen) = true from decide_eq_true (by show 0 ≤ s1; omega))
              go_wp2_with fail
              go_roundw
              case rel =>
                refine ⟨i + 1, by go_num, by omega, (HS8.out.setK hk (.bool true)).congr (OV_step HND.out hk HLI.out ?v1e ?v2e ?v3e ?v4e) (KV_step HND.out hk HLI.out ?v5e ?v6e)⟩
                case v1e =>
                  intro a' ha' b' hb' hab
                  (try unfold updV)
                  repeat rw [if_neg (by omega)]
                  try rfl
                case v2e =>
                  rw [HSEEN.out, HRS.out]
                  (try unfold updV)
                  first | rfl | (rw [HO1.out])
                case v3e =>
                  rw [HSEEN.out]
                  (try unfold updV)
                  repeat rw [if_neg (by omega)]
                  rw [HO2.out]
                case v4e =>
                  rw [HSEEN.out]
                  (try unfold updV)
                  repeat rw [if_neg (by omega)]
                  rw [HO3.out]
                case v5e =>
                  intro a' ha' hak
                  (try unfold updV)
                  repeat rw [if_neg (by omega)]
                case v6e =>
                  rw [HSEEN.out, HRK.out]
                  (try unfold updV)
                  rw [if_pos ⟨rfl, rfl⟩]
              case measure => simp [intOf]; omega
            · have HRS := Lib.hid (show seenF ⟨s1, sx, sy⟩ = s1 from if_neg (by show ¬ (s1) < 0; omega))
              have HRK := Lib.hid (show decide (0 ≤ (Sta.mk (s1) sx sy).seen) = true from decide_eq_true (by show 0 ≤ s1; omega))
              go_wp2_with fail
              go_roundw
              case rel =>
                refine ⟨i + 1, by go_num, by omega, (HS8.out.setK hk (.bool true)).congr (OV_step HND.out hk HLI.out ?v1f ?v2f ?v3f ?v4f) (KV_step HND.out hk HLI.out ?v5f ?v6f)⟩
                case v1f =>
                  intro a' ha' b' hb' hab
                  (try unfold updV)
                  repeat rw [if_neg (by omega)]
                  try rfl
                case v2f =>
                  rw [HSEEN.out, HRS.out]
                  (try unfold updV)
                  first | rfl | (rw [HO1.out])
                case v3f =>
                  rw [HSEEN.out]
                  (try unfold updV)
                  repeat rw [if_neg (by omega)]
                  rw [HO2.out]
                case v4f =>
                  rw [HSEEN.out]
                  (try unfold updV)
                  repeat rw [if_neg (by omega)]
                  rw [HO3.out]
                case v5f =>
                  intro a' ha' hak
                  (try unfold updV)
                  repeat rw [if_neg (by omega)]
                case v6f =>
                  rw [HSEEN.out, HRK.out]
                  (try unfold updV)
                  rw [if_pos ⟨rfl, rfl⟩]
              case measure => simp [intOf]; omega
          · have HSEEN := Lib.hid (show stepS (staF L click at' (L i).item i) (L i) (prI L click at' i) = ⟨min s1 (1000 - PP), sx, sy⟩ by rw [HSTEP.out, if_neg hp0])
            have hp1 : 0 < PP := by omega
            clear HSTEP hp0
            cases kn
            · have HRS := Lib.hid (show seenF ⟨min s1 (1000 - PP), sx, sy⟩ = min s1 (1000 - PP) from if_neg (by show ¬ (min s1 (1000 - PP)) < 0; omega))
              have HRK := Lib.hid (show decide (0 ≤ (Sta.mk (min s1 (1000 - PP)) sx sy).seen) = true from decide_eq_true (by show 0 ≤ min s1 (1000 - PP); omega))
              go_wp2_with fail
              go_roundw
              case rel =>
                refine ⟨i + 1, by go_num, by omega, ((HS8.out.setK hk (.bool true)).setO hk (j := 1) (by omega) (.int .i64 (min s1 (1000 - PP)))).congr (OV_step HND.out hk HLI.out ?v1g ?v2g ?v3g ?v4g) (KV_step HND.out hk HLI.out ?v5g ?v6g)⟩
                case v1g =>
                  intro a' ha' b' hb' hab
                  (try unfold updV)
                  repeat rw [if_neg (by omega)]
                  try rfl
                case v2g =>
                  rw [HSEEN.out, HRS.out]
                  (try unfold updV)
                  first | rfl | (rw [if_pos ⟨rfl, rfl⟩])
                case v3g =>
                  rw [HSEEN.out]
                  (try unfold updV)
                  repeat rw [if_neg (by omega)]
                  rw [HO2.out]
                case v4g =>
                  rw [HSEEN.out]
                  (try unfold updV)
                  repeat rw [if_neg (by omega)]
                  rw [HO3.out]
                case v5g =>
                  intro a' ha' hak
                  (try unfold updV)
                  repeat rw [if_neg (by omega)]
                case v6g =>
                  rw [HSEEN.out, HRK.out]
                  (try unfold updV)
                  rw [if_pos ⟨rfl, rfl⟩]
              case measure => simp [intOf]; omega
            · have HRS := Lib.hid (show seenF ⟨min s1 (1000 - PP), sx, sy⟩ = min s1 (1000 - PP) from if_neg (by show ¬ (min s1 (1000 - PP)) < 0; omega))
              have HRK := Lib.hid (show decide (0 ≤ (Sta.mk (min s1 (1000 - PP)) sx sy).seen) = true from decide_eq_true (by show 0 ≤ min s1 (1000 - PP); omega))
              go_wp2_with fail
              go_roundw
              case rel =>
                refine ⟨i + 1, by go_num, by omega, ((HS8.out.setK hk (.bool true)).setO hk (j := 1) (by omega) (.int .i64 (min s1 (1000 - PP)))).congr (OV_step HND.out hk HLI.out ?v1h ?v2h ?v3h ?v4h) (KV_step HND.out hk HLI.out ?v5h ?v6h)⟩
                case v1h =>
                  intro a' ha' b' hb' hab
                  (try unfold updV)
                  repeat rw [if_neg (by omega)]
                  try rfl
                case v2h =>
                  rw [HSEEN.out, HRS.out]
                  (try unfold updV)
                  first | rfl | (rw [if_pos ⟨rfl, rfl⟩])
                case v3h =>
                  rw [HSEEN.out]
                  (try unfold updV)
                  repeat rw [if_neg (by omega)]
                  rw [HO2.out]
                case v4h =>
                  rw [HSEEN.out]
                  (try unfold updV)
                  repeat rw [if_neg (by omega)]
                  rw [HO3.out]
                case v5h =>
                  intro a' ha' hak
                  (try unfold updV)
                  repeat rw [if_neg (by omega)]
                case v6h =>
                  rw [HSEEN.out, HRK.out]
                  (try unfold updV)
                  rw [if_pos ⟨rfl, rfl⟩]
              case measure => simp [intOf]; omega
    · obtain rfl : n = i := by omega
      have hil := itsF_len (L := L) n
      have hitb : ∀ x ∈ itsF L n, 0 ≤ x ∧ x ≤ 1073741824 := fun x hx => by
        obtain ⟨i, hi, rfl⟩ := itsF_mem.1 hx
        have := (HOK.out i hi).item
        omega
      have HSORT := Lib.hid (sort_row (w := wr) hC HS.out.out HS.out.low (by omega) hitb (itsF_nodup n))
      have HB := Lib.hid HS.out.below
      have HL := Lib.hid HS.out.low
      clear hitb HS
      go_wp2_with fail
      refine HSORT.out.mono ?_
      rintro e w9 ⟨rfl, hb9, l', a9, c9, hov, h1, h2, h3, h4⟩
      have HP := Lib.hid (And.intro h2 (And.intro h3 h4))
      have HB9 := Lib.hid hb9
      clear h2 h3 h4 hb9 HSORT
      go_wp2_with fail
      go_ret2
      exact ⟨l', a9, c9, by rw [h1]; rfl, HP.out.1, HP.out.2.1, HP.out.2.2, HB.out.trans HB9.out⟩
end Go.Proofs.Ythddbinbeinafaa.TL
