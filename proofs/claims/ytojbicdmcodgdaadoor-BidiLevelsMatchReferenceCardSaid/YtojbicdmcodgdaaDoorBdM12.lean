/-
  BdPairsW, BdBrackP.
-/
import Derived.Test.YtojbicdmcodgdaaDoorBdM03
import Derived.Test.YtojbicdmcodgdaaDoorBdM08
import Derived.Deep.CutRange
import Derived.Deep.CutBlock
import Derived.BigRegion
namespace Go.Law.Bd
open Go Go.Law Go.RowKit
set_option linter.unusedVariables false
theorem bel_cell {w w' : World} {a : Addr} {v : Value} (h : Below w.heap.size w w') (hc : w.cell? a = some v) : w'.cell? a = some v := (h.cell (lt_of_cell hc)).trans hc
theorem cellNew2 {w : World} {cs : List Value} {e : TypeId} {j : Nat} {u : Value} (h : cs[j]? = some u) : (w.alloc (Obj.cells cs.toArray e)).cell? ⟨w.heap.size, j, none⟩ = some u := by
  rw [World.cell?_alloc_new]; simpa using h
/-- the rows of open brackets and of pairs, of the call's own -/
structure PrS (T : Nat → Int) (w wr : World) (ov uv : Value) (s : Bkt) : Prop where
  bel : Below w.heap.size w wr
  op : RowV wr w.heap.size 84 2 ov s.op.length (opV T s.op)
  pr : RowV wr w.heap.size 69 2 uv s.pr.length (prV fun i => s.pr.getD i (0, 0))
section
variable {T : Nat → Int} {w wr w' w1 : World} {ov uv v' : Value} {s : Bkt} {o : Obj} {xs : List Value} {k : Nat}
theorem PrS.under (h : PrS T w wr ov uv s) (hb : Below wr.heap.size wr w') : PrS T w w' ov uv s :=
  ⟨h.bel.trans (hb.mono h.bel.size), h.op.below hb (Nat.le_refl _), h.pr.below hb (Nat.le_refl _)⟩
theorem PrS.pushO (h : PrS T w wr ov uv s) (hg : (wr.alloc o).grownBy w1 ov.ownBlock) (hown : w1.ownsRow w.heap.size 84 2 v' (s.op.length + 1) (xs ++ [.int .i64 (clOf (T k)), .int .i64 (k : Nat)]))
    (hl : xs.length = s.op.length * 2) (hx : ∀ i, i < s.op.length → ∀ j, j < 2 → xs[i * 2 + j]? = some (opV T s.op i j)) : PrS T w w1 v' uv ⟨k :: s.op, s.pr⟩ := by
  have ha := h.under (w' := wr.alloc o) ((Below.refl _ _).alloc (Nat.le_refl _) _)
  refine ⟨Below.grown ha.bel hg (by have := ha.bel.size; omega) (fun k hk => ha.op.ge k hk), RowV.push hown hl hx (fun j hj => ?_) (fun i hi j _ => opV_push T s.op k hi j), ?_⟩
  · match j, hj with
    | 0, _ => rw [opV_last]; rfl
    | 1, _ => rw [opV_last]; rfl
  · exact ha.pr.block fun b hb => hg.block b (ha.pr.lt hb) (fun e => ha.op.apart ha.pr (by decide) e.symm hb)
theorem PrS.pushP (h : PrS T w wr ov uv s) {x : Nat} (hg : (wr.alloc o).grownBy w1 uv.ownBlock) (hown : w1.ownsRow w.heap.size 69 2 v' (s.pr.length + 1) (xs ++ [.int .i64 (x : Nat), .int .i64 (k : Nat)]))
    (hl : xs.length = s.pr.length * 2) (hx : ∀ i, i < s.pr.length → ∀ j, j < 2 → xs[i * 2 + j]? = some (prV (fun i => s.pr.getD i (0, 0)) i j)) : PrS T w w1 ov v' ⟨s.op, s.pr ++ [(x, k)]⟩ := by
  have ha := h.under (w' := wr.alloc o) ((Below.refl _ _).alloc (Nat.le_refl _) _)
  refine ⟨Below.grown ha.bel hg (by have := ha.bel.size; omega) (fun k hk => ha.pr.ge k hk), ?_, ?_⟩
  · exact ha.op.block fun b hb => hg.block b (ha.op.lt hb) (fun e => ha.pr.apart ha.op (by decide) e.symm hb)
  · rw [show (s.pr ++ [(x, k)]).length = s.pr.length + 1 by simp]
    refine RowV.push hown hl hx (fun j hj => ?_) (fun i hi j _ => ?_)
    · have e : (s.pr ++ [(x, k)]).getD s.pr.length (0, 0) = (x, k) := by rw [List.getD_eq_getElem?_getD, List.getElem?_append_right (Nat.le_refl _)]; simp
      match j, hj with
      | 0, _ => show _ = some (prV _ _ _); unfold prV; simp only []; rw [e]; rfl
      | 1, _ => show _ = some (prV _ _ _); unfold prV; simp only []; rw [e]; rfl
    · unfold prV
      simp only []
      rw [show (s.pr ++ [(x, k)]).getD i (0, 0) = s.pr.getD i (0, 0) by rw [List.getD_eq_getElem?_getD, List.getElem?_append_left hi, List.getD_eq_getElem?_getD]]
theorem PrS.cut {a : Option Addr} {n cap : Nat} {l1 l : List Nat} {P : List (Nat × Nat)} (h : PrS T w wr (.slice a n cap) uv ⟨l1 ++ l, P⟩) (hn : n = l1.length + l.length) : PrS T w wr (.slice a l.length cap) uv ⟨l, P⟩ := by
  subst hn
  refine ⟨h.bel, ?_, h.pr⟩
  have := h.op
  rw [show (Bkt.op ⟨l1 ++ l, P⟩).length = l1.length + l.length by simp] at this
  exact (RowV.take this (k := l.length) (by omega)).congr fun i hi j _ => opV_pre T l1 l hi j
end
end Go.Law.Bd
namespace Go.Proofs.YtojbicdmcodgdaaDoor.BD
open Go.RowKit Go.Law Go.Law.Bd
set_option linter.unusedVariables false
set_option linter.unusedSimpArgs false
set_option maxRecDepth 100000
section
variable {p : SqP} {C0 V Tx : Nat → Int} {w0 w : World} {ta : Option Addr} {tc : Nat}
def PairsPost (p : SqP) (T V : Nat → Int) (w : World) (e : Ending) (w' : World) : Prop :=
  ∃ v c P, e = .returned v ∧ RowV w' w.heap.size 69 2 v c (prV P) ∧ (List.range c).map P = (match bkAt T V p.m with | some s => ordB s.pr p.m | none => []) ∧ Below w.heap.size w w'
set_option maxHeartbeats 8000000 in
theorem spairs_any (ok : SqOk p) (h : Sq p C0 w0 w V) (ht : p.tv = .slice ta p.n tc) (hT : IntsF w ta p.n Tx) (hB : TabC w 2 2 bracketsT) :
    Calls Tryd.prog 41 #[.pointer (some ⟨p.sz, 0, none⟩)] w (PairsPost p (fun k => Tx (p.A k)) V w) := by
  have H := Lib.hid h
  have OK := Lib.hid ok
  have HTX := Lib.hid hT
  obtain ⟨bb, boff, bcap, hg1, hg2, hg3⟩ := hB
  rw [show bracketsT.length = 7 from rfl] at hg1 hg2 hg3
  have hg4 : (4 : Int) ≤ (bcap : Int) := by omega
  have HG1 := Lib.hid hg1
  have HG3 := Lib.hid hg3
  have hm2 := ok.mn
  have hn2 := ok.n2
  have hmc := ok.mc
  obtain ⟨T, hTd⟩ : ∃ T : Nat → Int, T = fun k => Tx (p.A k) := ⟨_, rfl⟩
  have HTD := Lib.hid (show ∀ k, T k = Tx (p.A k) from fun k => by rw [hTd])
  rw [← hTd]
  have s1 : w.cell? ⟨p.sz, 1, none⟩ = _ := h.st.sb.cell (i := 1) rfl
  have HIO := Lib.hid (info_parts (show (Tryd.prog.info? 84).map (fun i => (i.zero, i.size, i.bytes)) = some (some (.agg #[.int .i64 0, .int .i64 0]), 2, 16) by kernel_rfl))
  have HIP := Lib.hid (info_parts (show (Tryd.prog.info? 69).map (fun i => (i.zero, i.size, i.bytes)) = some (some (.agg #[.int .i64 0, .int .i64 0]), 2, 16) by kernel_rfl))
  have HTV := Lib.hid ht
  clear h ok hT hg1 hg2 hg3 hTd ht
  go_enter Tryd.func41, Tryd.ntmps41
  go_wp2_with fail
  go_loopw [3, 4, 18] (fun ov uv iv wr => ∃ (k : Nat) (s : Bkt), iv = .int .i64 k ∧ k ≤ p.m ∧ bkAt T V k = some s ∧ PrS T w wr ov uv s) (fun _ _ iv _ => p.m - (intOf iv).toNat)
  case atStart => exact ⟨0, ⟨[], []⟩, rfl, by omega, rfl, Below.refl _ _, RowV.nil _ _ _ _ _, RowV.nil _ _ _ _ _⟩
  case round =>
    clear s1
    obtain ⟨k, s, rfl, hk, hs, hp⟩ := hrel
    have HP := Lib.hid hp
    have HS := Lib.hid hs
    have hok := bk_ok k s hs
    have hop63 := hok.len
    have HOKS := Lib.hid hok
    obtain ⟨oa, oc, hov, hoc1, hoc2⟩ := hp.op.slice
    obtain ⟨ua, uc, huv, huc1, huc2⟩ := hp.pr.slice
    subst hov huv
    have HQ := Lib.hid (H.out.under hp.bel (Nat.le_refl _))
    clear hp hs hok
    by_cases hkm : k < p.m
    · have a1 := HQ.out.st.at_ k hkm
      have HG := Lib.hid (getk0_any OK.out HQ.out k hkm)
      by_cases h13 : V k = 13
      · rw [h13] at HG
        go_wp2_with fail
        refine HG.out.mono ?_
        rintro e w2 ⟨rfl, q, hw2⟩
        have HP2 := Lib.hid (show PrS T w w2 (.slice oa s.op.length oc) (.slice ua s.pr.length uc) s by rw [hw2]; exact HP.out.under (below_drewN (Below.refl _ _) q))
        clear hw2 HP HQ HG a1
        have HQ := Lib.hid (H.out.under HP2.out.bel (Nat.le_refl _))
        obtain ⟨tb, toff, hta, htx⟩ := (HTX.out.below (Nat.le_refl _) HP2.out.bel) (by omega)
        have hA := OK.out.lt k hkm
        have hA2 : ((p.A k : Nat) : Int) < (p.n : Int) := by omega
        have tx := htx (p.A k) hA
        rw [← HTD.out] at tx
        have s0 : w2.cell? ⟨p.sz, 0, none⟩ = _ := HQ.out.st.sb.cell (i := 0) rfl
        have p0 : w2.cell? ⟨p.pz, 0, none⟩ = some p.tv := HQ.out.st.pb.cell (i := 0) rfl
        rw [HTV.out, hta] at p0
        have hg1 := bel_cell HP2.out.bel HG1.out
        clear htx
        go_wp2_with fail
        obtain ⟨c0, hc0⟩ : ∃ c0, c0 = T k := ⟨_, rfl⟩
        rw [← hc0]
        have HC0 := Lib.hid hc0
        clear hc0 s0 p0 tx hg1 hA2 HQ
        go_loopw [3, 4, 40] (fun ov uv iv wr => ∃ (j : Nat) (s1 : Bkt), iv = .int .i64 j ∧ j ≤ 4 ∧ (if bi c0 < j then bkStep T V k s else some s) = some s1 ∧ PrS T w wr ov uv s1) (fun _ _ iv _ => 4 - (intOf iv).toNat)
        case atStart => exact ⟨0, s, rfl, by omega, by rw [if_neg (by omega)], HP2.out⟩
        case round =>
          clear HP2
          obtain ⟨j, s1, rfl, hj, hs1, hp⟩ := hrel
          have HP := Lib.hid hp
          have HS1 := Lib.hid hs1
          obtain ⟨oa, oc, hov, hoc1, hoc2⟩ := hp.op.slice
          obtain ⟨ua, uc, huv, huc1, huc2⟩ := hp.pr.slice
          subst hov huv
          have hsz := hp.bel.size
          clear hp hs1
          by_cases hj4 : j < 4
          · have d0 : wr.cell? ⟨bb, boff + j * 2, none⟩ = some (.int .i64 (ent bracketsT j 0)) := bel_cell HP.out.bel (HG3.out j 0 (by omega) (by omega))
            have d1 : wr.cell? ⟨bb, boff + j * 2 + 1, none⟩ = some (.int .i64 (ent bracketsT j 1)) := bel_cell HP.out.bel (HG3.out j 1 (by omega) (by omega))
            obtain ⟨x0, hx0⟩ : ∃ x, x = ent bracketsT j 0 := ⟨_, rfl⟩
            obtain ⟨x1, hx1⟩ : ∃ x, x = ent bracketsT j 1 := ⟨_, rfl⟩
            rw [← hx0] at d0
            rw [← hx1] at d1
            have HX0 := Lib.hid hx0
            have HX1 := Lib.hid hx1
            clear hx0 hx1
            obtain ⟨wz, hwz⟩ : ∃ wz, wz = wr.alloc (Obj.cells #[.int .i64 x0, .int .i64 x1] 69) := ⟨_, rfl⟩
            have HPZ := Lib.hid (HP.out.under (w' := wz) (by rw [hwz]; exact (Below.refl _ _).alloc (Nat.le_refl _) _))
            have qz : Blk wz wr.heap.size #[.int .i64 x0, .int .i64 x1] 69 := by rw [hwz]; exact Blk.new _ _ _
            go_upto_region 11 with fail
            rw [← hwz]
            have y0 : wz.cell? ⟨wr.heap.size, 0, none⟩ = some (.int .i64 x0) := qz.cell (i := 0) rfl
            have y1 : wz.cell? ⟨wr.heap.size, 1, none⟩ = some (.int .i64 x1) := qz.cell (i := 1) rfl
            have zq := qz.lt
            have HQZ := Lib.hid qz
            obtain ⟨g, hg⟩ : ∃ g, g = wr.heap.size := ⟨_, rfl⟩
            rw [← hg] at y0 y1 zq HQZ ⊢
            clear hwz hg d0 d1 HP qz
            by_cases ho : c0 = x0
            · have hb := bi_open hj4 (ho.trans HX0.out)
              have e0 : (c0 == x0) = true := by simpa using ho
              have e1 : (c0 != x1) = true := by have := hb.2.2.2; rw [HX1.out]; simpa using this
              have hss : s1 = s := by have := HS1.out; rw [if_neg (by omega)] at this; exact (Option.some.inj this).symm
              subst hss
              have HBK := Lib.hid (bk_open (s := s1) hj4 h13 (show T k = _ from HC0.out.symm.trans (ho.trans HX0.out)))
              have HCL := Lib.hid (show clOf (T k) = x1 by rw [← HC0.out, hb.2.1, HX1.out])
              by_cases h63 : s1.op.length = 63
              · have HN := Lib.hid (show bkAt T V (k + 1) = none by rw [bkAt, HS.out]; exact HBK.out.trans (if_pos h63))
                have h63' : ((s1.op.length : Int) == 63) = true := by simp; omega
                have HBL := Lib.hid HPZ.out.bel
                clear ho hb HBK h63 HPZ
                go_wp2_with fail
                go_ret
                refine ⟨_, 0, fun _ => (0, 0), rfl, RowV.nil _ _ _ _ _, ?_, HBL.out⟩
                rw [show p.m = (k + 1) + (p.m - (k + 1)) by omega, bk_none HN.out (p.m - (k + 1))]
                rfl
              · have HN := Lib.hid (HBK.out.trans (if_neg h63))
                have h63' : ((s1.op.length : Int) == 63) = false := by simp; omega
                have hbj := hb.1
                obtain ⟨xs, hown0, hxl, hxs⟩ := HPZ.out.op.own
                have HX := Lib.hid hown0
                have HXL := Lib.hid hxl
                have HXS := Lib.hid hxs
                obtain ⟨ii, hii, hz0, hz1, hz2⟩ := HIO.out
                clear ho hb HBK h63 hown0 hxl hxs
                go_wp2_with (at_builtin; go_loud (refine wpList_append_own _ rfl _ _ 82 rfl (w.heap.size) 84 ii _ 2 16 Tryd.underlying82 hii hz0 hz1 hz2 rfl (by decide) _ _ _ rfl (RowL.alloc HX.out _) ⟨wz.heap.size, 0, none⟩ 1 1 [.int .i64 x1, .int .i64 (k : Int)] rfl rfl ?k1 ?k2 ?k3 ?k4 ?k5 ?_))
                try (case k1 =>
                  intro j u hj
                  have e : Addr.add ⟨wz.heap.size, 0, none⟩ j = ⟨wz.heap.size, j, none⟩ := by simp [Addr.add] <;> omega
                  rw [e]
                  exact cellNew2 (by simpa using hj))
                try (case k2 => first | exact ⟨rfl, rfl⟩ | (intro u hu; simp at hu; rcases hu with rfl | rfl <;> rfl))
                try (case k3 => unfold maxLen; (try simp); (try omega))
                try (case k4 => (try simp); (try omega))
                try (case k5 => have := HPZ.out.bel.size; (try simp); (try omega))
                intro v5 w5 hown hgrow _
                have HP5 := Lib.hid (HPZ.out.pushO hgrow (k := k) (by rw [HCL.out]; exact hown) HXL.out HXS.out)
                have y5 : w5.cell? ⟨g, 1, none⟩ = some (.int .i64 x1) := ((HQZ.out.alloc _).block (hgrow.block g (by simp; omega) (fun e => HPZ.out.op.notblk HQZ.out (by decide) e.symm))).cell (i := 1) rfl
                have zq5 : g < w5.heap.size := lt_of_cell y5
                clear hown hgrow hii hz0 hz1 hz2 HX HXS HXL y0 y1 zq HPZ
                go_wp2_with fail
                go_roundw
                case rel => exact ⟨j + 1, ⟨k :: s1.op, s1.pr⟩, by go_num, by omega, by rw [if_pos (by omega)]; exact HN.out, HP5.out⟩
                case measure => simp [intOf]; omega
            · have e0 : (c0 == x0) = false := by simpa using ho
              by_cases hc : c0 = x1
              · have hb := bi_close hj4 (hc.trans HX1.out)
                have e1 : (c0 != x1) = false := by simpa using hc
                have hss : s1 = s := by have := HS1.out; rw [if_neg (by omega)] at this; exact (Option.some.inj this).symm
                subst hss
                have HBK := Lib.hid (bk_close (s := s1) hj4 h13 (show T k = _ from HC0.out.symm.trans (hc.trans HX1.out)))
                rw [← HX0.out] at HBK
                have hbj := hb.1
                have HCQ := Lib.hid (show ∀ y, clOf y = c0 ↔ y = x0 from fun y => by rw [hc, HX0.out, HX1.out]; exact cl_eq hj4)
                clear ho hb hc
                go_wp2_with fail
                go_loopw [3, 4, 10] (fun ov uv nv wx => ov = .slice oa s1.op.length oc ∧ uv = .slice ua s1.pr.length uc ∧ ∃ l1 l2 : List Nat, s1.op = l1 ++ l2 ∧ nv = .int .i64 ((l2.length : Int) - 1) ∧ (∀ x, x ∈ l1 → T x ≠ x0) ∧ wx = wz) (fun _ _ nv _ => (intOf nv + 1).toNat)
                case atStart => exact ⟨rfl, rfl, [], s1.op, rfl, rfl, by simp, rfl⟩
                case round =>
                  obtain ⟨rfl, rfl, l1, l2, hl, rfl, hno, hwr⟩ := hrel
                  obtain rfl : wz = wr := hwr.symm
                  clear hwr
                  cases l2 with
                  | nil =>
                    have HN := Lib.hid (show bkStep T V k s1 = some s1 by
                      rw [HBK.out, hl, popTo_app hno]; rfl)
                    clear hl hno
                    go_wp2_with fail
                    go_roundw
                    case rel => exact ⟨j + 1, s1, by go_num, by omega, by rw [if_pos (by omega)]; exact HN.out, HPZ.out⟩
                    case measure => simp [intOf]; omega
                  | cons x t =>
                    have hlen : s1.op.length = l1.length + t.length + 1 := by rw [hl]; simp; omega
                    obtain ⟨g5, cap5, hv5, _, _, _, _, _, hcc⟩ := RowV.at HPZ.out.op (by omega)
                    cases hv5
                    have m0 := hcc t.length (by omega) 0 (by omega)
                    have m1 := hcc t.length (by omega) 1 (by omega)
                    rw [hl, opV_pre T l1 (x :: t) (by simp), opV_last, if_pos rfl] at m0
                    rw [hl, opV_pre T l1 (x :: t) (by simp), opV_last, if_neg (by omega)] at m1
                    rw [Nat.add_zero] at m0
                    have e2 : (((x :: t).length : Nat) : Int) - 1 = t.length := by simp
                    rw [e2]
                    have ht0 : (0 : Int) ≤ (t.length : Int) := by omega
                    have ht1 : (t.length : Int) < (s1.op.length : Int) := by omega
                    have ht2 : (t.length : Int) ≤ (oc : Int) := by omega
                    obtain ⟨cx, hcx⟩ : ∃ c, c = clOf (T x) := ⟨_, rfl⟩
                    rw [← hcx] at m0
                    have HL := Lib.hid hl
                    have HNO := Lib.hid hno
                    clear hcc hl hno e2
                    by_cases hx : cx = c0
                    · have hxx : (cx == c0) = true := by simpa using hx
                      have hTx : T x = x0 := (HCQ.out (T x)).1 (by rw [← hcx]; exact hx)
                      have HN := Lib.hid (show bkStep T V k s1 = some ⟨t, s1.pr ++ [(x, k)]⟩ by
                        rw [HBK.out, HL.out, popTo_app HNO.out, popTo_hit hTx])
                      obtain ⟨xs, hown0, hxl, hxs⟩ := HPZ.out.pr.own
                      have HX := Lib.hid hown0
                      have HXL := Lib.hid hxl
                      have HXS := Lib.hid hxs
                      obtain ⟨ii, hii, hz0, hz1, hz2⟩ := HIP.out
                      clear hx hTx hcx hown0 hxl hxs
                      have hpk : s1.pr.length ≤ k := bk_prlen k s1 HS.out
                      go_wp2_with (at_builtin; go_loud (refine wpList_append_own _ rfl _ _ 67 rfl (w.heap.size) 69 ii _ 2 16 Tryd.underlying67 hii hz0 hz1 hz2 rfl (by decide) _ _ _ rfl (RowL.alloc HX.out _) ⟨wz.heap.size, 0, none⟩ 1 1 [.int .i64 (x : Int), .int .i64 (k : Int)] rfl rfl ?l1 ?l2 ?l3 ?l4 ?l5 ?_))
                      try (case l1 =>
                        intro j u hj
                        have e : Addr.add ⟨wz.heap.size, 0, none⟩ j = ⟨wz.heap.size, j, none⟩ := by simp [Addr.add] <;> omega
                        rw [e]
                        exact cellNew2 (by simpa using hj))
                      try (case l2 => first | exact ⟨rfl, rfl⟩ | (intro u hu; simp at hu; rcases hu with rfl | rfl <;> rfl))
                      try (case l3 => unfold maxLen; (try simp); (try omega))
                      try (case l4 => (try simp); (try omega))
                      try (case l5 => have := HPZ.out.bel.size; (try simp); (try omega))
                      intro v5 w5 hown hgrow _
                      have hp5 := HPZ.out.pushP hgrow (k := k) (x := x) hown HXL.out HXS.out
                      have HP5 := Lib.hid (show PrS T w w5 (.slice (some ⟨g5, 0, none⟩) t.length oc) v5 ⟨t, s1.pr ++ [(x, k)]⟩ from
                        PrS.cut (l1 := l1 ++ [x]) (l := t) (n := s1.op.length) (by rw [show (l1 ++ [x]) ++ t = s1.op by rw [HL.out]; simp]; exact hp5) (by simp; omega))
                      have y5 : w5.cell? ⟨g5, 0, none⟩ = w5.cell? ⟨g5, 0, none⟩ := rfl
                      clear hown hgrow hii hz0 hz1 hz2 HX HXS HXL y0 y1 zq HPZ hp5 y5 m0 m1
                      go_wp2_with fail
                      go_roundw
                      case rel => exact ⟨j + 1, ⟨t, s1.pr ++ [(x, k)]⟩, by go_num, by omega, by rw [if_pos (by omega)]; exact HN.out, HP5.out⟩
                      case measure => simp [intOf]; omega
                    · have hxx : (cx == c0) = false := by simpa using hx
                      have hTx : T x ≠ x0 := fun e => hx (by rw [hcx]; exact (HCQ.out (T x)).2 e)
                      have HNO2 := Lib.hid (show ∀ y, y ∈ l1 ++ [x] → T y ≠ x0 from fun y hy => by
                        rcases List.mem_append.1 hy with h | h
                        · exact HNO.out y h
                        · simp at h; subst h; exact hTx)
                      clear hx hTx hcx
                      go_wp2_with fail
                      go_roundw
                      case rel => exact ⟨rfl, rfl, l1 ++ [x], t, by rw [HL.out]; simp, by first | rfl | simp, HNO2.out, trivial⟩
                      case measure => simp [intOf]
              · have hb := bi_no hj4 (fun e => ho (e.trans HX0.out.symm)) (fun e => hc (e.trans HX1.out.symm))
                have e1 : (c0 != x1) = true := by simpa using hc
                have HN := Lib.hid (show (if bi c0 < j + 1 then bkStep T V k s else some s) = some s1 by
                  rw [← HS1.out]
                  by_cases h : bi c0 < j
                  · rw [if_pos h, if_pos (by omega)]
                  · rw [if_neg h, if_neg (by omega)])
                clear ho hb hc
                go_wp2_with fail
                go_roundw
                case rel => exact ⟨j + 1, s1, by go_num, by omega, HN.out, HPZ.out⟩
                case measure => simp [intOf]; omega
          · obtain rfl : j = 4 := by omega
            have HN := Lib.hid (show bkAt T V (k + 1) = some s1 by
              rw [bkAt, HS.out]
              have := HS1.out
              by_cases hb4 : bi c0 < 4
              · rw [if_pos hb4] at this; exact this
              · rw [if_neg hb4] at this
                have h4 : bi (T k) = 4 := by have := bi_le c0; rw [← HC0.out]; omega
                have h5 := bk_four (C := V) (s := s) h4
                rw [this] at h5; exact h5)
            go_wp2_with fail
            go_roundw
            case rel => exact ⟨k + 1, s1, by go_num, by omega, HN.out, HP.out⟩
            case measure => simp [intOf]; omega
      · have h13' : (V k != 13) = true := by simpa using h13
        have HS2 := Lib.hid (show bkAt T V (k + 1) = some s by rw [bkAt, HS.out]; exact bk_no h13)
        clear h13
        go_wp2_with fail
        refine HG.out.mono ?_
        rintro e w2 ⟨rfl, q, rfl⟩
        go_wp2_with fail
        go_roundw
        case rel => exact ⟨k + 1, s, by go_num, by omega, HS2.out, HP.out.under (below_drewN (Below.refl _ _) q)⟩
        case measure => simp [intOf]; omega
    · obtain rfl : k = p.m := by omega
      have HN := Lib.hid (show (match bkAt T V p.m with | some s => ordB s.pr p.m | none => []) = ordB s.pr p.m by rw [HS.out])
      have HPK := Lib.hid (show ∀ x, x ∈ s.pr → x.1 < p.m from fun x hx => by have := HOKS.out.pr x hx; omega)
      have HND := Lib.hid (show (s.pr.map (·.1)).Nodup from (List.nodup_append.1 HOKS.out.nd).1)
      have hpk := bk_prlen p.m s HS.out
      obtain ⟨c, hc⟩ : ∃ c, c = s.pr.length := ⟨_, rfl⟩
      have hr := HP.out.pr
      rw [← hc] at hr hpk huc1 ⊢
      have HR := Lib.hid hr
      have HB1 := Lib.hid HP.out.bel
      have HPM := Lib.hid (show ((List.range c).map fun i => s.pr.getD i (0, 0)).Perm s.pr by rw [hc, range_getD])
      have hub : ∀ b, (Value.slice ua c uc).ownBlock = some b → w.heap.size ≤ b := hr.ge
      have HUB := Lib.hid hub
      clear hr hc HP HQ hub hop63 HOKS
      go_wp2_with fail
      go_loopw [93] (fun iv wr => ∃ (i : Nat) (A : Nat → Nat × Nat), iv = .int .i64 i ∧ i ≤ c ∧ Below w.heap.size w wr ∧ RowV wr w.heap.size 69 2 (.slice ua c uc) c (prV A) ∧ ((List.range c).map A).Perm s.pr ∧ ∀ a b, a < b → b < i → (A a).1 < (A b).1) (fun iv _ => c - (intOf iv).toNat)
      case atStart => exact ⟨0, fun i => s.pr.getD i (0, 0), rfl, by omega, HB1.out, HR.out, HPM.out, fun a b h1 h2 => by omega⟩
      case round =>
        clear HB1 HR HPM
        obtain ⟨i, A, rfl, hic, hbel, hrow, hperm, hord⟩ := hrel
        have HB := Lib.hid hbel
        have HR := Lib.hid hrow
        have HPM := Lib.hid hperm
        have HO := Lib.hid hord
        clear hbel hrow hperm hord
        by_cases hi : i < c
        · go_wp2_with fail
          go_loopw [12] (fun jv wx => ∃ (j : Nat) (A : Nat → Nat × Nat), jv = .int .i64 j ∧ j ≤ i ∧ Below w.heap.size w wx ∧ RowV wx w.heap.size 69 2 (.slice ua c uc) c (prV A) ∧ ((List.range c).map A).Perm s.pr ∧ InsG A i j) (fun jv _ => (intOf jv).toNat)
          case atStart => exact ⟨i, A, rfl, Nat.le_refl _, HB.out, HR.out, HPM.out, insG_start HO.out⟩
          case round =>
            clear HB HR HPM HO
            obtain ⟨j, A, rfl, hji, hbel, hrow, hperm, hins⟩ := hrel
            have HB := Lib.hid hbel
            have HR := Lib.hid hrow
            have HPM := Lib.hid hperm
            have HI := Lib.hid hins
            clear hbel hrow hperm hins
            by_cases hj0 : j = 0
            · subst hj0
              have HSE := Lib.hid (insG_end HI.out (by omega) (.inl rfl))
              go_wp2_with fail
              go_quiet (fail)
              go_wp2_with fail
              go_roundw
              case rel => exact ⟨i + 1, A, by go_num, by omega, below_drewN HB.out _, HR.out.block (fun _ _ => rfl), HPM.out, HSE.out⟩
              case measure => simp [intOf]; omega
            · obtain ⟨g, cap, hv, hgB, hlt, _, _, hfz, hcc⟩ := RowV.at HR.out (by omega)
              cases hv
              have c1 := hcc j (by omega) 0 (by omega)
              have c1b := hcc j (by omega) 1 (by omega)
              have c2 := hcc (j - 1) (by omega) 0 (by omega)
              have c2b := hcc (j - 1) (by omega) 1 (by omega)
              rw [Nat.add_zero] at c1 c2
              have hj1 : (0 : Int) < (j : Int) := by omega
              have hj2 : 0 < j := by omega
              have hjc : (j : Int) < (c : Int) := by omega
              have e1 : (j : Int) - 1 = ((j - 1 : Nat) : Int) := by omega
              have hjc2 : ((j - 1 : Nat) : Int) < (c : Int) := by omega
              have hj4 : (0 : Int) ≤ ((j - 1 : Nat) : Int) := by omega
              have hw1 := IntWalk.i64_in ((j - 1 : Nat) : Int) (by omega)
              obtain ⟨v, hv⟩ : ∃ v, v = A j := ⟨_, rfl⟩
              obtain ⟨u, hu⟩ : ∃ v, v = A (j - 1) := ⟨_, rfl⟩
              have HVV := Lib.hid hv
              have HUU := Lib.hid hu
              rw [show prV A j 0 = .int .i64 v.1 by rw [hv]; rfl] at c1
              rw [show prV A j 1 = .int .i64 v.2 by rw [hv]; rfl] at c1b
              rw [show prV A (j - 1) 0 = .int .i64 u.1 by rw [hu]; rfl] at c2
              rw [show prV A (j - 1) 1 = .int .i64 u.2 by rw [hu]; rfl] at c2b
              have hne : v.1 ≠ u.1 := by rw [hv, hu]; exact fun e => key_ne HPM.out HND.out (j - 1) j (by omega) (by omega) e.symm
              obtain ⟨v1, v2⟩ := v
              obtain ⟨u1, u2⟩ := u
              simp only at c1 c1b c2 c2b hne
              clear hcc hv hu
              by_cases hlt2 : v1 < u1
              · have hl3 : (v1 : Int) < (u1 : Int) := by omega
                have HSW := Lib.hid (insG_swap HI.out hj2 hji (by rw [← HVV.out, ← HUU.out]; exact hlt2))
                have HPS := Lib.hid ((swG_perm (A := A) hj2 (show j < c by omega)).trans HPM.out)
                have g1 := hfz (j * 2)
                have g1b := hfz (j * 2 + 1)
                have g2 := hfz ((j - 1) * 2)
                have g2b := hfz ((j - 1) * 2 + 1)
                clear hfz
                go_wp2_with fail
                go_quiet (fail)
                go_wp2_with fail
                obtain ⟨w5, hw5⟩ : ∃ w5, w5 = wr.drewN nq := ⟨_, rfl⟩
                have k1 : w5.cell? ⟨g, j * 2, none⟩ = some (.int .i64 v1) := by rw [hw5]; exact c1
                have k1b : w5.cell? ⟨g, j * 2 + 1, none⟩ = some (.int .i64 v2) := by rw [hw5]; exact c1b
                have k2 : w5.cell? ⟨g, (j - 1) * 2, none⟩ = some (.int .i64 u1) := by rw [hw5]; exact c2
                have k2b : w5.cell? ⟨g, (j - 1) * 2 + 1, none⟩ = some (.int .i64 u2) := by rw [hw5]; exact c2b
                have r1 : w5.frozen? ⟨g, j * 2, none⟩ = false := by rw [hw5]; exact g1
                have r1b : w5.frozen? ⟨g, j * 2 + 1, none⟩ = false := by rw [hw5]; exact g1b
                have r2 : w5.frozen? ⟨g, (j - 1) * 2, none⟩ = false := by rw [hw5]; exact g2
                have r2b : w5.frozen? ⟨g, (j - 1) * 2 + 1, none⟩ = false := by rw [hw5]; exact g2b
                have HB5 := Lib.hid (show Below w.heap.size w w5 by rw [hw5]; exact below_drewN HB.out nq)
                have HR5 := Lib.hid (show RowV w5 w.heap.size 69 2 (.slice (some ⟨g, 0, none⟩) c uc) c (prV A) by rw [hw5]; exact HR.out.block (fun _ _ => rfl))
                rw [← hw5]
                clear hw5 c1 c1b c2 c2b g1 g1b g2 g2b HB HR
                refine wp_region_until 15 (fun w' => w'.cell? ⟨g, j * 2, none⟩ = some (.int .i64 v1) ∧ w'.cell? ⟨g, j * 2 + 1, none⟩ = some (.int .i64 v2) ∧ w'.cell? ⟨g, (j - 1) * 2, none⟩ = some (.int .i64 u1) ∧ w'.cell? ⟨g, (j - 1) * 2 + 1, none⟩ = some (.int .i64 u2)) (by kernel_rfl) (by exact ⟨by rw [World.cell?_drew]; exact k1, by rw [World.cell?_drew]; exact k1b, by rw [World.cell?_drew]; exact k2, by rw [World.cell?_drew]; exact k2b⟩) ?_
                intro hHeld
                refine moveU (i := 0) (oi := { dst := some 115, op := _, type := _, pos := _, after := _, guard := _ }) (d := some 115) (v := ?vvz115) rfl rfl (by kernel_rfl) (by kernel_rfl) (by kernel_rfl) (by rfl) ?ddz115 (by rfl) ?yyz115 hHeld ?rrz115
                case ddz115 => first | exact fun _ _ _ h => h | exact fun _ _ _ h => HQ.out _ _ _ _ (by rfl) h
                case yyz115 => (intro wx; go_simp; try (with_reducible rfl))
                clear hHeld; intro hHeld
                try simp only [Act.put, List.setIfInBounds_toArray, List.set_cons_zero, List.set_cons_succ]
                refine moveU (i := 1) (oi := { dst := some 116, op := _, type := _, pos := _, after := _, guard := _ }) (d := some 116) (v := ?vvz116) rfl rfl (by kernel_rfl) (by kernel_rfl) (by kernel_rfl) (by rfl) ?ddz116 (by rfl) ?yyz116 hHeld ?rrz116
                case ddz116 => first | exact fun _ _ _ h => h | exact fun _ _ _ h => HQ.out _ _ _ _ (by rfl) h
                case yyz116 => (intro wx; go_simp; try (with_reducible rfl))
                clear hHeld; intro hHeld
                try simp only [Act.put, List.setIfInBounds_toArray, List.set_cons_zero, List.set_cons_succ]
                refine moveU (i := 2) (oi := { dst := some 117, op := _, type := _, pos := _, after := _, guard := _ }) (d := some 117) (v := ?vvz117) rfl rfl (by kernel_rfl) (by kernel_rfl) (by kernel_rfl) (by rfl) ?ddz117 (by rfl) ?yyz117 hHeld ?rrz117
                case ddz117 => first | exact fun _ _ _ h => h | exact fun _ _ _ h => HQ.out _ _ _ _ (by rfl) h
                case yyz117 => (intro wx; go_simp; try (with_reducible rfl))
                clear hHeld; intro hHeld
                try simp only [Act.put, List.setIfInBounds_toArray, List.set_cons_zero, List.set_cons_succ]
                refine moveU (i := 3) (oi := { dst := some 118, op := _, type := _, pos := _, after := _, guard := _ }) (d := some 118) (v := ?vvz118) rfl rfl (by kernel_rfl) (by kernel_rfl) (by kernel_rfl) (by rfl) ?ddz118 (by rfl) ?yyz118 hHeld ?rrz118
                case ddz118 => first | exact fun _ _ _ h => h | exact fun _ _ _ h => HQ.out _ _ _ _ (by rfl) h
                case yyz118 => (intro wx; go_simp; try (with_reducible rfl))
                clear hHeld; intro hHeld
                try simp only [Act.put, List.setIfInBounds_toArray, List.set_cons_zero, List.set_cons_succ]
                refine moveU (i := 4) (oi := { dst := some 119, op := _, type := _, pos := _, after := _, guard := _ }) (d := some 119) (v := ?vvz119) rfl rfl (by kernel_rfl) (by kernel_rfl) (by kernel_rfl) (by rfl) ?ddz119 (by rfl) ?yyz119 hHeld ?rrz119
                case ddz119 => first | exact fun _ _ _ h => h | exact fun _ _ _ h => HQ.out _ _ _ _ (by rfl) h
                case yyz119 => (intro wx; go_simp; try (with_reducible rfl))
                clear hHeld; intro hHeld
                try simp only [Act.put, List.setIfInBounds_toArray, List.set_cons_zero, List.set_cons_succ]
                refine moveU (i := 5) (oi := { dst := some 120, op := _, type := _, pos := _, after := _, guard := _ }) (d := some 120) (v := ?vvz120) rfl rfl (by kernel_rfl) (by kernel_rfl) (by kernel_rfl) (by rfl) ?ddz120 (by rfl) ?yyz120 hHeld ?rrz120
                case ddz120 => first | exact fun _ _ _ h => h | exact fun _ _ _ h => HQ.out _ _ _ _ (by rfl) h
                case yyz120 => (intro wx; go_simp; try (with_reducible rfl))
                clear hHeld; intro hHeld
                try simp only [Act.put, List.setIfInBounds_toArray, List.set_cons_zero, List.set_cons_succ]
                refine moveU (i := 6) (oi := { dst := some 121, op := _, type := _, pos := _, after := _, guard := _ }) (d := some 121) (v := ?vvz121) rfl rfl (by kernel_rfl) (by kernel_rfl) (by kernel_rfl) (by rfl) ?ddz121 (by rfl) ?yyz121 hHeld ?rrz121
                case ddz121 => first | exact fun _ _ _ h => h | exact fun _ _ _ h => HQ.out _ _ _ _ (by rfl) h
                case yyz121 => (intro wx; go_simp; try (with_reducible rfl))
                clear hHeld; intro hHeld
                try simp only [Act.put, List.setIfInBounds_toArray, List.set_cons_zero, List.set_cons_succ]
                refine moveU (i := 7) (oi := { dst := some 122, op := _, type := _, pos := _, after := _, guard := _ }) (d := some 122) (v := ?vvz122) rfl rfl (by kernel_rfl) (by kernel_rfl) (by kernel_rfl) (by rfl) ?ddz122 (by rfl) ?yyz122 hHeld ?rrz122
                case ddz122 => first | exact fun _ _ _ h => h | exact fun _ _ _ h => HQ.out _ _ _ _ (by rfl) h
                case yyz122 => (intro wx; go_simp; try (with_reducible rfl))
                clear hHeld; intro hHeld
                try simp only [Act.put, List.setIfInBounds_toArray, List.set_cons_zero, List.set_cons_succ]
                refine moveU (i := 8) (oi := { dst := some 123, op := _, type := _, pos := _, after := _, guard := _ }) (d := some 123) (v := ?vvz123) rfl rfl (by kernel_rfl) (by kernel_rfl) (by kernel_rfl) (by rfl) ?ddz123 (by rfl) ?yyz123 hHeld ?rrz123
                case ddz123 => first | exact fun _ _ _ h => h | exact fun _ _ _ h => HQ.out _ _ _ _ (by rfl) h
                case yyz123 => (intro wx; go_simp; try (with_reducible rfl))
                clear hHeld; intro hHeld
                try simp only [Act.put, List.setIfInBounds_toArray, List.set_cons_zero, List.set_cons_succ]
                refine takeU [15] (i := 9) (oi := { dst := some 124, op := _, type := _, pos := _, after := _, guard := _ }) (d := some 124) (v := ?vvz124) rfl rfl (by kernel_rfl) (by kernel_rfl) (by kernel_rfl) (by kernel_rfl) ?ddz124 (by rfl) ?yyz124 hHeld ?rrz124
                case ddz124 => first | exact fun _ _ _ h => h | exact fun _ _ _ h => HQ.out _ _ _ _ (by rfl) h
                case yyz124 => (intro wx hSw; obtain ⟨y0, y1, y2, y3⟩ := hSw; go_simp; try (with_reducible rfl))
                clear hHeld; intro hHeld
                try simp only [Act.put, List.setIfInBounds_toArray, List.set_cons_zero, List.set_cons_succ]
                refine moveU (i := 10) (oi := { dst := some 125, op := _, type := _, pos := _, after := _, guard := _ }) (d := some 125) (v := ?vvz125) rfl rfl (by kernel_rfl) (by kernel_rfl) (by kernel_rfl) (by rfl) ?ddz125 (by rfl) ?yyz125 hHeld ?rrz125
                case ddz125 => first | exact fun _ _ _ h => h | exact fun _ _ _ h => HQ.out _ _ _ _ (by rfl) h
                case yyz125 => (intro wx; go_simp; try (with_reducible rfl))
                clear hHeld; intro hHeld
                try simp only [Act.put, List.setIfInBounds_toArray, List.set_cons_zero, List.set_cons_succ]
                refine moveU (i := 11) (oi := { dst := some 126, op := _, type := _, pos := _, after := _, guard := _ }) (d := some 126) (v := ?vvz126) rfl rfl (by kernel_rfl) (by kernel_rfl) (by kernel_rfl) (by rfl) ?ddz126 (by rfl) ?yyz126 hHeld ?rrz126
                case ddz126 => first | exact fun _ _ _ h => h | exact fun _ _ _ h => HQ.out _ _ _ _ (by rfl) h
                case yyz126 => (intro wx; go_simp; try (with_reducible rfl))
                clear hHeld; intro hHeld
                try simp only [Act.put, List.setIfInBounds_toArray, List.set_cons_zero, List.set_cons_succ]
                refine moveU (i := 12) (oi := { dst := some 127, op := _, type := _, pos := _, after := _, guard := _ }) (d := some 127) (v := ?vvz127) rfl rfl (by kernel_rfl) (by kernel_rfl) (by kernel_rfl) (by rfl) ?ddz127 (by rfl) ?yyz127 hHeld ?rrz127
                case ddz127 => first | exact fun _ _ _ h => h | exact fun _ _ _ h => HQ.out _ _ _ _ (by rfl) h
                case yyz127 => (intro wx; go_simp; try (with_reducible rfl))
                clear hHeld; intro hHeld
                try simp only [Act.put, List.setIfInBounds_toArray, List.set_cons_zero, List.set_cons_succ]
                refine takeU [15] (i := 13) (oi := { dst := some 128, op := _, type := _, pos := _, after := _, guard := _ }) (d := some 128) (v := ?vvz128) rfl rfl (by kernel_rfl) (by kernel_rfl) (by kernel_rfl) (by kernel_rfl) ?ddz128 (by rfl) ?yyz128 hHeld ?rrz128
                case ddz128 => first | exact fun _ _ _ h => h | exact fun _ _ _ h => HQ.out _ _ _ _ (by rfl) h
                case yyz128 => (intro wx hSw; obtain ⟨y0, y1, y2, y3⟩ := hSw; go_simp; try (with_reducible rfl))
                clear hHeld; intro hHeld
                try simp only [Act.put, List.setIfInBounds_toArray, List.set_cons_zero, List.set_cons_succ]
                refine moveU (i := 14) (oi := { dst := some 129, op := _, type := _, pos := _, after := _, guard := _ }) (d := some 129) (v := ?vvz129) rfl rfl (by kernel_rfl) (by kernel_rfl) (by kernel_rfl) (by rfl) ?ddz129 (by rfl) ?yyz129 hHeld ?rrz129
                case ddz129 => first | exact fun _ _ _ h => h | exact fun _ _ _ h => HQ.out _ _ _ _ (by rfl) h
                case yyz129 => (intro wx; go_simp; try (with_reducible rfl))
                clear hHeld; intro hHeld
                try simp only [Act.put, List.setIfInBounds_toArray, List.set_cons_zero, List.set_cons_succ]
                refine wpAnyU_ready (rs := [15]) (by kernel_rfl) (by simp) ?_
                refine AllReadyU.cons (o := { dst := none, op := _, type := _, pos := _, after := _, guard := _ }) rfl (fun K hK => ?_) AllReadyU.nil
                have p1 : w5.drew.cell? ⟨g, j * 2, none⟩ = some (.int .i64 v1) := by rw [World.cell?_drew]; exact k1
                have p1b : w5.drew.cell? ⟨g, j * 2 + 1, none⟩ = some (.int .i64 v2) := by rw [World.cell?_drew]; exact k1b
                have p2 : w5.drew.frozen? ⟨g, j * 2, none⟩ = false := r1
                have p2b : w5.drew.frozen? ⟨g, j * 2 + 1, none⟩ = false := r1b
                go_simp
                obtain ⟨w6, hw6⟩ : ∃ v' : World, v' = ((w5.setCell ⟨g, j * 2, none⟩ (.int .i64 u1)).setCell ⟨g, j * 2 + 1, none⟩ (.int .i64 u2)).drew := ⟨_, rfl⟩
                have hr6 : RowV w6 w.heap.size 69 2 (.slice (some ⟨g, 0, none⟩) c uc) c (prV fun k => if k = j then (u1, u2) else A k) := by
                  rw [hw6]
                  exact (RowV.setP HR5.out j (by omega) (u1, u2) (fun k _ => rfl)).block (fun _ _ => rfl)
                have HB6 := Lib.hid (show Below w.heap.size w w6 by
                  rw [hw6]
                  exact ((HB5.out.setCell (by simpa using hgB) _).setCell (by simpa using hgB) _).drew)
                have HR6 := Lib.hid hr6
                have m1 := RowV.frozenAt hr6 (by omega) ((j - 1) * 2)
                have m2 := RowV.frozenAt hr6 (by omega) ((j - 1) * 2 + 1)
                have m3 := RowV.cellAt hr6 (i := j - 1) (j := 0) (by omega) (by omega)
                have m4 := RowV.cellAt hr6 (i := j - 1) (j := 1) (by omega) (by omega)
                rw [Nat.add_zero, show prV (fun k => if k = j then (u1, u2) else A k) (j - 1) 0 = .int .i64 u1 by show Value.int .i64 (((if j - 1 = j then (u1, u2) else A (j - 1)).1 : Nat) : Int) = _; rw [if_neg (by omega), ← HUU.out]] at m3
                rw [show prV (fun k => if k = j then (u1, u2) else A k) (j - 1) 1 = .int .i64 u2 by show Value.int .i64 (((if j - 1 = j then (u1, u2) else A (j - 1)).2 : Nat) : Int) = _; rw [if_neg (by omega), ← HUU.out]] at m4
                rw [← hw6]
                clear hr6 hw6 p1 p1b p2 p2b k1 k1b k2 k2b r1 r1b r2 r2b HB5 HR5
                refine hK.out _ _ (fun h => absurd h (by decide)) (fun hHeld2 => ?_)
                clear hK K hHeld
                try simp only [Act.put, List.setIfInBounds_toArray, List.set_cons_zero, List.set_cons_succ]
                refine moveU (i := 16) (oi := { dst := some 130, op := _, type := _, pos := _, after := _, guard := _ }) (d := some 130) (v := ?vvy130) rfl rfl (by kernel_rfl) (by kernel_rfl) (by kernel_rfl) (by rfl) ?ddy130 (by rfl) ?yyy130 hHeld2 ?rry130
                case ddy130 => first | exact fun _ _ _ h => h | exact fun _ _ _ h => HQ.out _ _ _ _ (by rfl) h
                case yyy130 => (intro wx; go_simp; try (with_reducible rfl))
                clear hHeld2; intro hHeld2
                try simp only [Act.put, List.setIfInBounds_toArray, List.set_cons_zero, List.set_cons_succ]
                refine wpAnyU_ready (rs := [17]) (by kernel_rfl) (by simp) ?_
                refine AllReadyU.cons (o := { dst := none, op := _, type := _, pos := _, after := _, guard := _ }) rfl (fun K hK => ?_) AllReadyU.nil
                go_simp
                obtain ⟨w7, hw7⟩ : ∃ v' : World, v' = (w6.setCell ⟨g, (j - 1) * 2, none⟩ (.int .i64 v1)).setCell ⟨g, (j - 1) * 2 + 1, none⟩ (.int .i64 v2) := ⟨_, rfl⟩
                have HR7 := Lib.hid (show RowV w7 w.heap.size 69 2 (.slice (some ⟨g, 0, none⟩) c uc) c (prV (swG A j)) by
                  rw [hw7]
                  refine RowV.setP HR6.out (j - 1) (by omega) (v1, v2) (fun k hk => ?_)
                  unfold swG
                  by_cases q1 : k = j
                  · rw [if_pos q1, if_neg (by omega), if_pos q1, ← HUU.out]
                  · by_cases q2 : k = j - 1
                    · rw [if_neg q1, if_pos q2, if_pos q2, ← HVV.out]
                    · rw [if_neg q1, if_neg q2, if_neg q2, if_neg q1])
                have HB7 := Lib.hid (show Below w.heap.size w w7 by
                  rw [hw7]
                  exact (HB6.out.setCell (by simpa using hgB) _).setCell (by simpa using hgB) _)
                rw [← hw7]
                clear hw7 m1 m2 m3 m4 HB6 HR6
                refine hK.out _ _ (fun h => absurd h (by decide)) (fun hHeld => ?_)
                clear hK K hHeld2 hHeld
                try simp only [Act.put, List.setIfInBounds_toArray, List.set_cons_zero, List.set_cons_succ]
                refine wpAnyU_done (by kernel_rfl) ?_ _
                go_wp2_with fail
                go_roundw
                case rel => exact ⟨j - 1, swG A j, rfl, by omega, HB7.out, HR7.out, HPS.out, HSW.out⟩
                case measure => simp [intOf]; omega
              · have hl3 : ¬ (v1 : Int) < (u1 : Int) := by omega
                have HSE := Lib.hid (insG_end HI.out hji (.inr (by rw [← HVV.out, ← HUU.out]; show u1 < v1; omega)))
                clear hfz
                go_wp2_with fail
                go_quiet (fail)
                go_wp2_with fail
                go_roundw
                case rel => exact ⟨i + 1, A, by go_num, by omega, below_drewN HB.out _, HR.out.block (fun _ _ => rfl), HPM.out, HSE.out⟩
                case measure => simp [intOf]; omega
        · obtain rfl : i = c := by omega
          have HD := Lib.hid (ord_done HPM.out HND.out HO.out HPK.out)
          go_wp2_with fail
          go_ret
          exact ⟨_, i, A, rfl, HR.out, HD.out.trans HN.out.symm, HB.out⟩
end
end Go.Proofs.YtojbicdmcodgdaaDoor.BD
namespace Go.Law.Bd
open Go Go.Law Go.RowKit
set_option linter.unusedVariables false
theorem ord_mem {T C : Nat → Int} {m i : Nat} {s : Bkt} (h : bkAt T C i = some s) {x : Nat × Nat} (hx : x ∈ ordB s.pr m) : x.1 < x.2 ∧ x.2 < i := by
  unfold ordB at hx
  obtain ⟨a, ha, he⟩ := List.mem_filterMap.1 hx
  cases hb : mtB s.pr a with
  | none => rw [hb] at he; cases he
  | some b =>
    rw [hb] at he
    simp at he
    subst he
    have hok := bk_ok i s h
    have := (mtB_some (List.nodup_append.1 hok.nd).1).1 hb
    exact hok.pr _ this
/-- the pairs of a row, whatever its state -/
theorem pairs_mem {T C : Nat → Int} {m c : Nat} {P : Nat → Nat × Nat} (h : (List.range c).map P = (match bkAt T C m with | some s => ordB s.pr m | none => [])) {i : Nat} (hi : i < c) : (P i).1 < (P i).2 ∧ (P i).2 < m := by
  have hm : P i ∈ (List.range c).map P := List.mem_map.2 ⟨i, by simpa using hi, rfl⟩
  rw [h] at hm
  cases hb : bkAt T C m with
  | none => rw [hb] at hm; simp at hm
  | some s => rw [hb] at hm; exact ord_mem hb hm
theorem pairs_len {T C : Nat → Int} {m c : Nat} {P : Nat → Nat × Nat} (h : (List.range c).map P = (match bkAt T C m with | some s => ordB s.pr m | none => [])) : c ≤ m := by
  have h1 := congrArg List.length h
  rw [List.length_map, List.length_range] at h1
  cases hb : bkAt T C m with
  | none => rw [hb] at h1; simp at h1; omega
  | some s =>
    rw [hb] at h1
    have h2 : (ordB s.pr m).length ≤ m := by
      unfold ordB
      have := List.length_filterMap_le (fun a => (mtB s.pr a).map fun b => (a, b)) (List.range m)
      rwa [List.length_range] at this
    simp only at h1
    omega
/-- the classes behind i pairs -/
def afB (Ow : Nat → Int) (bef own : Int) (P : Nat → Nat × Nat) (V : Nat → Int) : Nat → Nat → Int
  | 0 => V
  | i + 1 => bkSet Ow bef own (afB Ow bef own P V i) (P i)
theorem afB_fold (Ow : Nat → Int) (bef own : Int) (P : Nat → Nat × Nat) (V : Nat → Int) : ∀ c, ((List.range c).map P).foldl (bkSet Ow bef own) V = afB Ow bef own P V c := by
  intro c
  induction c with
  | zero => rfl
  | succ c ih => rw [List.range_succ, List.map_append, List.foldl_append, ih]; rfl
theorem afB_end {T C Ow : Nat → Int} {bef own : Int} {m c : Nat} {P : Nat → Nat × Nat} (h : (List.range c).map P = (match bkAt T C m with | some s => ordB s.pr m | none => [])) :
    afB Ow bef own P C c = wBK T Ow bef own m C := by
  rw [← afB_fold, h]
  unfold wBK
  cases bkAt T C m <;> rfl
/-- a place and its marks are written: those ahead of t -/
def grpT (W : Nat → Int) (cl : Int) (x t : Nat) (j : Nat) : Int := if x ≤ j ∧ j < t then cl else W j
theorem grpT_start {W : Nat → Int} {cl : Int} {x : Nat} (j : Nat) : upd W x cl j = grpT W cl x (x + 1) j := by
  unfold upd grpT
  by_cases h : j = x
  · rw [if_pos h, if_pos (by omega)]
  · rw [if_neg h, if_neg (by omega)]
theorem grpT_step {W : Nat → Int} {cl : Int} {x t : Nat} (hx : x ≤ t) (j : Nat) : upd (grpT W cl x t) t cl j = grpT W cl x (t + 1) j := by
  unfold upd grpT
  by_cases h : j = t
  · rw [if_pos h, if_pos (by omega)]
  · rw [if_neg h]
    by_cases h2 : x ≤ j ∧ j < t
    · rw [if_pos h2, if_pos (by omega)]
    · rw [if_neg h2, if_neg (by omega)]
theorem grp_is {Ow : Nat → Int} {x : Nat} : ∀ j, x ≤ j → (grpB Ow x j = true ↔ ∀ y, x < y → y ≤ j → Ow y = 8) := by
  intro j
  induction j with
  | zero =>
    intro h
    obtain rfl : x = 0 := by omega
    rw [grpB_self]
    exact ⟨fun _ y h1 h2 => by omega, fun _ => rfl⟩
  | succ j ih =>
    intro h
    by_cases hx : x = j + 1
    · subst hx
      rw [grpB_self]
      exact ⟨fun _ y h1 h2 => by omega, fun _ => rfl⟩
    · rw [grpB_step (by omega), Bool.and_eq_true, ih (by omega)]
      constructor
      · rintro ⟨h1, h2⟩ y h3 h4
        by_cases hy : y = j + 1
        · subst hy; simpa using h2
        · exact h1 y h3 (by omega)
      · intro h1
        exact ⟨fun y h3 h4 => h1 y h3 (by omega), by simpa using h1 (j + 1) (by omega) (Nat.le_refl _)⟩
theorem grpT_end {Ow W : Nat → Int} {cl : Int} {x t m : Nat} (hxt : x < t) (hall : ∀ y, x < y → y < t → Ow y = 8) (hend : t = m ∨ Ow t ≠ 8) {j : Nat} (hj : j < m) :
    grpT W cl x t j = if grpB Ow x j = true then cl else W j := by
  unfold grpT
  by_cases h : x ≤ j ∧ j < t
  · rw [if_pos h, if_pos ((grp_is j h.1).2 fun y h1 h2 => hall y h1 (by omega))]
  · rw [if_neg h]
    by_cases h2 : j < x
    · rw [grpB_less h2]; rfl
    · rw [if_neg]
      intro hg
      have := (grp_is j (by omega)).1 hg t hxt (by omega)
      rcases hend with h3 | h3
      · omega
      · exact h3 this
/-- a pair is decided -/
theorem bkSet_not {Ow W : Nat → Int} {bef own : Int} {x : Nat × Nat} (h1 : sameB W own x.1 x.2 = false) (h2 : otherB W own x.1 x.2 = false) (j : Nat) : bkSet Ow bef own W x j = W j := by
  unfold bkSet; rw [if_neg]; rw [h1, h2]; simp
theorem bkSet_is {Ow W : Nat → Int} {bef own cl : Int} {x : Nat × Nat} (h1 : sameB W own x.1 x.2 = true ∨ otherB W own x.1 x.2 = true) (h2 : cl = if sameB W own x.1 x.2 = true then own else sdL W bef x.1) (j : Nat) :
    bkSet Ow bef own W x j = if grpB Ow x.2 j = true then cl else if grpB Ow x.1 j = true then cl else W j := by
  unfold bkSet
  rw [← h2]
  by_cases ha : grpB Ow x.2 j = true
  · rw [if_pos ha, if_pos ⟨h1, .inr ha⟩]
  · by_cases hb : grpB Ow x.1 j = true
    · rw [if_neg ha, if_pos hb, if_pos ⟨h1, .inl hb⟩]
    · rw [if_neg ha, if_neg hb, if_neg (fun h => h.2.elim hb ha)]
end Go.Law.Bd
