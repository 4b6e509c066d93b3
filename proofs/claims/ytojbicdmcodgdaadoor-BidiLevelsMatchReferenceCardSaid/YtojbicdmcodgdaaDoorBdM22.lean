/-
  BdRRsA, BdRRsB.
-/
import Derived.Test.YtojbicdmcodgdaaDoorBdM21
import Derived.BigQuiet
import Derived.Deep.CutRange
import Derived.Deep.CutBlock
import Derived.Deep.AppendLies
namespace Go.Proofs.YtojbicdmcodgdaaDoor.BD
open Go.RowKit Go.Law Go.Law.Bd
set_option linter.unusedVariables false
set_option linter.unusedSimpArgs false
set_option maxRecDepth 100000
set_option maxHeartbeats 8000000 in
theorem rsZero {wA : World} {base bx b m : Nat} {sv : Value} (HBX0 : Hid (Blk wA bx #[.slice none 0 0, .slice none 0 0] 78)) (hbxb : base ≤ bx) (hbs : base ≤ wA.heap.size) (hm : m ≤ 200)
    {s0 s3 s4 s5 s6 s7 s8 s9 s10 s11 s15 s16 s17 s18 s19 s20 s21 s22 s23 s24 s25 s26 s27 s28 s29 s30 s31 s32 s33 s34 s35 s36 s37 s38 s39 s40 s41 s42 s43 s44 s45 s46 s47 s48 s49 s50 s51 s52 s53 s54 s55 s56 s57 s58 s59 s60 s61 s62 s63 s64 s65 s66 s67 s68 s69 s70 s71 s72 s73 s74 s75 s76 s77 s78 s79 s80 s81 s82 s83 s84 s85 s86 s87 s88 s89 s90 s91 s92 s93 s94 s95 s96 s97 s98 s99 s100 s101 s102 s103 s104 s105 s106 s107 s108 s109 s110 s111 s112 s113 s114 s115 s116 s117 s118 s119 s120 s121 s122 s123 s124 s125 s126 s127 s128 s129 s130 s131 s132 s133 s134 s135 s136 s137 s138 s139 s140 s141 s142 s143 s144 s145 s146 s147 : Value} {J K' : Act → World → Prop} {Q : Exit → Act → World → Prop}
    (HQ : Hid (∀ (c : List PanicEntry) (a a' : Act) (w : World), a.defers = a'.defers → Q (.panic c) a w → Q (.panic c) a' w))
    (hJ : ∀ (a' : Act) (w' : World), (∃ u14 u15 u16 u17 u18 u19 u20 u21 u22 u23 u24 u25 u26 : Value, (∃ A B, SdR base bx A B m (fun _ => 0) (fun _ => 0) wA w') ∧ a' = ⟨#[s0, .pointer (some ⟨b, 0, none⟩), .pointer (some ⟨bx, 0, none⟩), s3, s4, s5, s6, s7, s8, s9, s10, s11, sv, .int .i64 m, u14, u15, u16, u17, u18, u19, u20, u21, u22, u23, u24, u25, u26, s27, s28, s29, s30, s31, s32, s33, s34, s35, s36, s37, s38, s39, s40, s41, s42, s43, s44, s45, s46, s47, s48, s49, s50, s51, s52, s53, s54, s55, s56, s57, s58, s59, s60, s61, s62, s63, s64, s65, s66, s67, s68, s69, s70, s71, s72, s73, s74, s75, s76, s77, s78, s79, s80, s81, s82, s83, s84, s85, s86, s87, s88, s89, s90, s91, s92, s93, s94, s95, s96, s97, s98, s99, s100, s101, s102, s103, s104, s105, s106, s107, s108, s109, s110, s111, s112, s113, s114, s115, s116, s117, s118, s119, s120, s121, s122, s123, s124, s125, s126, s127, s128, s129, s130, s131, s132, s133, s134, s135, s136, s137, s138, s139, s140, s141, s142, s143, s144, s145, s146, s147], []⟩) → J a' w')
    (hK : ∀ (a' : Act) (w' : World), Met J a' w' → K' a' w') :
    Code.wp Tryd.prog (theBlk Tryd.f30 0) (Exit.then K' Q) ⟨#[s0, .pointer (some ⟨b, 0, none⟩), .pointer (some ⟨bx, 0, none⟩), s3, s4, s5, s6, s7, s8, s9, s10, s11, sv, .int .i64 m, .int .i64 0, s15, s16, s17, s18, s19, s20, s21, s22, s23, s24, s25, s26, s27, s28, s29, s30, s31, s32, s33, s34, s35, s36, s37, s38, s39, s40, s41, s42, s43, s44, s45, s46, s47, s48, s49, s50, s51, s52, s53, s54, s55, s56, s57, s58, s59, s60, s61, s62, s63, s64, s65, s66, s67, s68, s69, s70, s71, s72, s73, s74, s75, s76, s77, s78, s79, s80, s81, s82, s83, s84, s85, s86, s87, s88, s89, s90, s91, s92, s93, s94, s95, s96, s97, s98, s99, s100, s101, s102, s103, s104, s105, s106, s107, s108, s109, s110, s111, s112, s113, s114, s115, s116, s117, s118, s119, s120, s121, s122, s123, s124, s125, s126, s127, s128, s129, s130, s131, s132, s133, s134, s135, s136, s137, s138, s139, s140, s141, s142, s143, s144, s145, s146, s147], []⟩ wA := by
  have HI := Lib.hid (info_parts (show (Tryd.prog.info? 3).map (fun i => (i.zero, i.size, i.bytes)) = some (some (.int .i64 0), 1, 8) by kernel_rfl))
  conv => arg 2; whnf
  go_wp2_with fail
  go_loopw [14] (fun iv wr => ∃ (n0 : Nat) (A B : Value), iv = .int .i64 n0 ∧ n0 ≤ m ∧ SdR base bx A B n0 (fun _ => 0) (fun _ => 0) wA wr) (fun iv _ => m - (intOf iv).toNat)
  case atStart => exact ⟨0, _, _, rfl, by omega, HBX0.out, RowI.nil _ _ _ _ _, RowI.nil _ _ _ _ _, fun k hk => by simp [Value.ownBlock] at hk, Below.refl _ _⟩
  case round =>
    obtain ⟨n0, A, B, rfl, hi, hsd⟩ := hrel
    clear HBX0
    by_cases hin : n0 < m
    case neg =>
      obtain rfl : n0 = m := by omega
      have HSD := Lib.hid hsd
      clear hsd
      go_wp2_with fail
      go_meet
      exact ⟨A, B, HSD.out⟩
    obtain ⟨aA, cA, hA, hA1, hA2⟩ := hsd.ra.slice
    obtain ⟨aB, cB, hB, hB1, hB2⟩ := hsd.rb.slice
    subst hA
    subst hB
    have c0 : wr.cell? ⟨bx, 0, none⟩ = some (.slice aA n0 cA) := hsd.bxb.cell (i := 0) rfl
    have c1 : wr.cell? ⟨bx, 1, none⟩ = some (.slice aB n0 cB) := hsd.bxb.cell (i := 1) rfl
    have hbxl := hsd.bxb.lt
    have HSD := Lib.hid hsd
    have hSb := hsd.bel.size
    clear hsd
    go_upto_region 4 with fail
    refine wp_region_until 9 (fun w' => w'.cell? ⟨bx, 0, none⟩ = some (.slice aA n0 cA) ∧ w'.cell? ⟨bx, 1, none⟩ = some (.slice aB n0 cB)) (by kernel_rfl) (by exact ⟨by rw [World.cell?_drew]; exact c0, by rw [World.cell?_drew]; exact c1⟩) ?_
    intro hHeld
    refine moveU (i := 0) (oi := { dst := some 16, op := _, type := _, pos := _, after := _, guard := _ }) (d := some 16) (v := ?vva16) rfl rfl (by kernel_rfl) (by kernel_rfl) (by kernel_rfl) (by rfl) ?dda16 (by rfl) ?yya16 hHeld ?rra16
    case dda16 => first | exact fun _ _ _ h => h | exact fun _ _ _ h => HQ.out _ _ _ _ (by rfl) h
    case yya16 => (intro wx; go_simp; try (with_reducible rfl))
    clear hHeld; intro hHeld
    try simp (maxSteps := 1000000) only [Act.put, List.setIfInBounds_toArray, List.set_cons_zero, List.set_cons_succ]
    refine takeU [9] (i := 1) (oi := { dst := some 17, op := _, type := _, pos := _, after := _, guard := _ }) (d := some 17) (v := ?vva17) rfl rfl (by kernel_rfl) (by kernel_rfl) (by kernel_rfl) (by kernel_rfl) ?dda17 (by rfl) ?yya17 hHeld ?rra17
    case dda17 => first | exact fun _ _ _ h => h | exact fun _ _ _ h => HQ.out _ _ _ _ (by rfl) h
    case yya17 => (intro wx hSw; obtain ⟨y0, y1⟩ := hSw; go_simp; try (with_reducible rfl))
    clear hHeld; intro hHeld
    try simp (maxSteps := 1000000) only [Act.put, List.setIfInBounds_toArray, List.set_cons_zero, List.set_cons_succ]
    refine moveU (i := 4) (oi := { dst := some 20, op := _, type := _, pos := _, after := _, guard := _ }) (d := some 20) (v := ?vva20) rfl rfl (by kernel_rfl) (by kernel_rfl) (by kernel_rfl) (by rfl) ?dda20 (by rfl) ?yya20 hHeld ?rra20
    case dda20 => first | exact fun _ _ _ h => h | exact fun _ _ _ h => HQ.out _ _ _ _ (by rfl) h
    case yya20 => (intro wx; go_simp; try (with_reducible rfl))
    clear hHeld; intro hHeld
    try simp (maxSteps := 1000000) only [Act.put, List.setIfInBounds_toArray, List.set_cons_zero, List.set_cons_succ]
    refine takeU [9] (i := 5) (oi := { dst := some 21, op := _, type := _, pos := _, after := _, guard := _ }) (d := some 21) (v := ?vva21) rfl rfl (by kernel_rfl) (by kernel_rfl) (by kernel_rfl) (by kernel_rfl) ?dda21 (by rfl) ?yya21 hHeld ?rra21
    case dda21 => first | exact fun _ _ _ h => h | exact fun _ _ _ h => HQ.out _ _ _ _ (by rfl) h
    case yya21 => (intro wx hSw; obtain ⟨y0, y1⟩ := hSw; go_simp; try (with_reducible rfl))
    clear hHeld; intro hHeld
    try simp (maxSteps := 1000000) only [Act.put, List.setIfInBounds_toArray, List.set_cons_zero, List.set_cons_succ]
    obtain ⟨wv0, hwv0⟩ : ∃ x, x = wr.drew := ⟨_, rfl⟩
    obtain ⟨S0, hS0⟩ : ∃ x, x = wv0.heap.size := ⟨_, rfl⟩
    have HBX := Lib.hid (show Blk wv0 bx #[.slice aA n0 cA, .slice aB n0 cB] 78 by rw [hwv0]; exact HSD.out.bxb.drew)
    have HRA := Lib.hid (show RowI wv0 base 3 1 (.slice aA n0 cA) n0 (fun _ => 0) by rw [hwv0]; exact HSD.out.ra.drew)
    have HRB := Lib.hid (show RowI wv0 base 3 1 (.slice aB n0 cB) n0 (fun _ => 0) by rw [hwv0]; exact HSD.out.rb.drew)
    have HBEL := Lib.hid (show Below base wA wv0 by rw [hwv0]; exact Below.drew HSD.out.bel)
    have HDIF := Lib.hid HSD.out.dif
    have HAL := Lib.hid (fun k (hk : (Value.slice aA n0 cA).ownBlock = some k) => show k < S0 by rw [hS0]; exact rowI_lt3 HRA.out hk)
    have HBL := Lib.hid (fun k (hk : (Value.slice aB n0 cB).ownBlock = some k) => show k < S0 by rw [hS0]; exact rowI_lt3 HRB.out hk)
    have HTA := Lib.hid (fun (e : (Value.slice aA n0 cA).ownBlock = some bx) => show False from rowI_blk HRA.out HBX.out (by decide) e)
    have HTB := Lib.hid (fun (e : (Value.slice aB n0 cB).ownBlock = some bx) => show False from rowI_blk HRB.out HBX.out (by decide) e)
    have HGEA := Lib.hid (fun k (hk : (Value.slice aA n0 cA).ownBlock = some k) => HRA.out.ge k hk)
    have HGEB := Lib.hid (fun k (hk : (Value.slice aB n0 cB).ownBlock = some k) => HRB.out.ge k hk)
    have hbS : base ≤ S0 := by rw [hS0]; exact Nat.le_trans hbs HBEL.out.size
    rw [← hwv0] at hHeld ⊢
    clear hwv0 c0 c1 HSD hbxl hSb
    refine wpAnyU_ready (rs := [2, 6]) (by kernel_rfl) (by simp) ?_
    refine AllReadyU.cons (o := { dst := some 18, op := _, type := _, pos := _, after := _, guard := _ }) rfl (fun KK hK => ?_) ?_
    · go_simp
      obtain ⟨wv1, hwb⟩ : ∃ wb, wb = wv0.alloc (Obj.cells #[.int .i64 0] 3) := ⟨_, rfl⟩
      obtain ⟨q1, hq⟩ : ∃ q, q = wv0.heap.size := ⟨_, rfl⟩
      have hq1 : S0 ≤ q1 := by omega
      have HQ1 := Lib.hid (show Blk wv1 q1 #[.int .i64 0] 3 by rw [hwb, hq]; exact Blk.new _ _ _)
      replace HBX := Lib.hid (show Blk wv1 bx #[.slice aA n0 cA, .slice aB n0 cB] 78 by rw [hwb]; exact HBX.out.alloc _)
      replace HRA := Lib.hid (show RowI wv1 base 3 1 (.slice aA n0 cA) n0 (fun _ => 0) by rw [hwb]; exact HRA.out.alloc _)
      replace HRB := Lib.hid (show RowI wv1 base 3 1 (.slice aB n0 cB) n0 (fun _ => 0) by rw [hwb]; exact HRB.out.alloc _)
      replace HBEL := Lib.hid (show Below base wA wv1 by rw [hwb]; exact HBEL.out.alloc (by omega) _)
      have hswv1 : wv0.heap.size + 1 = wv1.heap.size := by rw [hwb]; simp
      rw [← hwb, ← hq]
      clear hwb hq
      have hHx : wv1.cell? ⟨bx, 0, none⟩ = some (.slice aA n0 cA) ∧ wv1.cell? ⟨bx, 1, none⟩ = some (.slice aB n0 cB) := ⟨HBX.out.cell (i := 0) rfl, HBX.out.cell (i := 1) rfl⟩
      refine hK.out _ _ (fun _ => hHx) (fun hH2 => ?_)
      clear hK KK hHeld hHx
      have hHeld := hH2
      clear hH2
      try simp (maxSteps := 1000000) only [Act.put, List.setIfInBounds_toArray, List.set_cons_zero, List.set_cons_succ]
      refine wpAnyU_ready (rs := [3, 6]) (by kernel_rfl) (by simp) ?_
      refine AllReadyU.cons (o := { dst := some 19, op := _, type := _, pos := _, after := _, guard := _ }) rfl (fun KK hK => ?_) ?_
      · obtain ⟨xs, hown0, hxs⟩ := HRA.out
        have hxl : xs.length = n0 * 1 := hown0.1
        have HX := Lib.hid hown0
        have HXL := Lib.hid hxl
        have HXS := Lib.hid hxs
        obtain ⟨ii, hii, hz0, hz1, hz2⟩ := HI.out
        clear hown0 hxl hxs
        refine step_append_lies _ (by rfl) _ _ _ (by rfl) base 3 ii (.int .i64 0) 1 8 Tryd.underlying22 hii hz0 hz1 hz2 (by rfl) (by decide) (.slice aA n0 cA) n0 _ (by rfl) HX.out ⟨q1, 0, none⟩ 1 1 [.int .i64 0] (by rfl) (by rfl) ?cAwv23 ?cBwv23 (by omega) (by unfold maxLen; omega) (by omega) (by omega) wv1.heap.size rfl ?_
        case cAwv23 =>
          intro t u ht
          have e : Addr.add ⟨q1, 0, none⟩ t = ⟨q1, t, none⟩ := by simp [Addr.add] <;> omega
          rw [e]
          exact HQ1.out.cell (by simpa using ht)
        case cBwv23 => intro u hu; simp at hu; subst hu; rfl
        intro g1 c1 wv2 hown hgrow hat hlt
        have HGA := Lib.hid hat
        have hswv2 : wv1.heap.size ≤ wv2.heap.size := hgrow.size
        have hg1l : g1 < wv2.heap.size := hlt
        have hxwv2 : wv1.heap.size = wv1.heap.size := rfl
        replace HRB := Lib.hid (show RowI wv2 base 3 1 (.slice aB n0 cB) n0 (fun _ => 0) from HRB.out.block (fun k hk => hgrow.block k (by have := HBL.out k hk; omega) (fun e => HDIF.out k e.symm hk)))
        replace HBX := Lib.hid (show Blk wv2 bx #[.slice aA n0 cA, .slice aB n0 cB] 78 from HBX.out.block (hgrow.block bx HBX.out.lt (fun e => by have := HAL.out bx e.symm; have := HTA.out e.symm; exact this)))
        replace HBEL := Lib.hid (show Below base wA wv2 from Below.grown HBEL.out hgrow (by omega) (fun k hk => HGEA.out k hk))
        replace HRA := Lib.hid (show RowI wv2 base 3 1 (.slice (some ⟨g1, 0, none⟩) (n0 + 1) c1) (n0 + 1) (fun _ => 0) from RowI.push hown HXL.out HXS.out (fun j hj => by (obtain rfl : j = 0 := by omega); rfl) (fun _ _ => rfl))
        clear hown hgrow hat hlt hii hz0 hz1 hz2 HX HXS HXL
        have hHx : wv2.cell? ⟨bx, 0, none⟩ = some (.slice aA n0 cA) ∧ wv2.cell? ⟨bx, 1, none⟩ = some (.slice aB n0 cB) := ⟨HBX.out.cell (i := 0) rfl, HBX.out.cell (i := 1) rfl⟩
        refine hK.out _ _ (fun _ => hHx) (fun hH2 => ?_)
        clear hK KK hHeld hHx
        have hHeld := hH2
        clear hH2
        try simp (maxSteps := 1000000) only [Act.put, List.setIfInBounds_toArray, List.set_cons_zero, List.set_cons_succ]
        refine moveU (i := 8) (oi := { dst := some 24, op := _, type := _, pos := _, after := _, guard := _ }) (d := some 24) (v := ?vvv2324) rfl rfl (by kernel_rfl) (by kernel_rfl) (by kernel_rfl) (by rfl) ?ddv2324 (by rfl) ?yyv2324 hHeld ?rrv2324
        case ddv2324 => first | exact fun _ _ _ h => h | exact fun _ _ _ h => HQ.out _ _ _ _ (by rfl) h
        case yyv2324 => (intro wx; go_simp; try (with_reducible rfl))
        clear hHeld; intro hHeld
        try simp (maxSteps := 1000000) only [Act.put, List.setIfInBounds_toArray, List.set_cons_zero, List.set_cons_succ]
        refine wpAnyU_ready (rs := [6]) (by kernel_rfl) (by simp) ?_
        refine AllReadyU.cons (o := { dst := some 22, op := _, type := _, pos := _, after := _, guard := _ }) rfl (fun KK hK => ?_) AllReadyU.nil
        go_simp
        obtain ⟨wv3, hwb⟩ : ∃ wb, wb = wv2.alloc (Obj.cells #[.int .i64 0] 3) := ⟨_, rfl⟩
        obtain ⟨q2, hq⟩ : ∃ q, q = wv2.heap.size := ⟨_, rfl⟩
        have hq2 : S0 ≤ q2 := by omega
        have HQ2 := Lib.hid (show Blk wv3 q2 #[.int .i64 0] 3 by rw [hwb, hq]; exact Blk.new _ _ _)
        replace HBX := Lib.hid (show Blk wv3 bx #[.slice aA n0 cA, .slice aB n0 cB] 78 by rw [hwb]; exact HBX.out.alloc _)
        replace HRA := Lib.hid (show RowI wv3 base 3 1 (.slice (some ⟨g1, 0, none⟩) (n0 + 1) c1) (n0 + 1) (fun _ => 0) by rw [hwb]; exact HRA.out.alloc _)
        replace HRB := Lib.hid (show RowI wv3 base 3 1 (.slice aB n0 cB) n0 (fun _ => 0) by rw [hwb]; exact HRB.out.alloc _)
        replace HBEL := Lib.hid (show Below base wA wv3 by rw [hwb]; exact HBEL.out.alloc (by omega) _)
        have hswv3 : wv2.heap.size + 1 = wv3.heap.size := by rw [hwb]; simp
        rw [← hwb, ← hq]
        clear hwb hq
        have hHx : wv3.cell? ⟨bx, 0, none⟩ = some (.slice aA n0 cA) ∧ wv3.cell? ⟨bx, 1, none⟩ = some (.slice aB n0 cB) := ⟨HBX.out.cell (i := 0) rfl, HBX.out.cell (i := 1) rfl⟩
        refine hK.out _ _ (fun _ => hHx) (fun hH2 => ?_)
        clear hK KK hHeld hHx
        have hHeld := hH2
        clear hH2
        try simp (maxSteps := 1000000) only [Act.put, List.setIfInBounds_toArray, List.set_cons_zero, List.set_cons_succ]
        refine wpAnyU_ready (rs := [7]) (by kernel_rfl) (by simp) ?_
        refine AllReadyU.cons (o := { dst := some 23, op := _, type := _, pos := _, after := _, guard := _ }) rfl (fun KK hK => ?_) AllReadyU.nil
        obtain ⟨xs, hown0, hxs⟩ := HRB.out
        have hxl : xs.length = n0 * 1 := hown0.1
        have HX := Lib.hid hown0
        have HXL := Lib.hid hxl
        have HXS := Lib.hid hxs
        obtain ⟨ii, hii, hz0, hz1, hz2⟩ := HI.out
        clear hown0 hxl hxs
        refine step_append_lies _ (by rfl) _ _ _ (by rfl) base 3 ii (.int .i64 0) 1 8 Tryd.underlying22 hii hz0 hz1 hz2 (by rfl) (by decide) (.slice aB n0 cB) n0 _ (by rfl) HX.out ⟨q2, 0, none⟩ 1 1 [.int .i64 0] (by rfl) (by rfl) ?cAwv47 ?cBwv47 (by omega) (by unfold maxLen; omega) (by omega) (by omega) wv3.heap.size rfl ?_
        case cAwv47 =>
          intro t u ht
          have e : Addr.add ⟨q2, 0, none⟩ t = ⟨q2, t, none⟩ := by simp [Addr.add] <;> omega
          rw [e]
          exact HQ2.out.cell (by simpa using ht)
        case cBwv47 => intro u hu; simp at hu; subst hu; rfl
        intro g2 c2 wv4 hown hgrow hat hlt
        have HGB := Lib.hid hat
        have hswv4 : wv3.heap.size ≤ wv4.heap.size := hgrow.size
        have hg2l : g2 < wv4.heap.size := hlt
        have hxwv4 : wv3.heap.size = wv3.heap.size := rfl
        replace HRA := Lib.hid (show RowI wv4 base 3 1 (.slice (some ⟨g1, 0, none⟩) (n0 + 1) c1) (n0 + 1) (fun _ => 0) from HRA.out.block (fun k hk => hgrow.block k (rowI_lt3 HRA.out hk) (fun e => by
          have hk1 : g1 = k := by simpa [Value.ownBlock] using hk
          subst hk1
          have hbl := HBL.out _ e.symm
          rcases HGA.out with h | h
          · exact HDIF.out _ h e.symm
          · omega)))
        replace HBX := Lib.hid (show Blk wv4 bx #[.slice aA n0 cA, .slice aB n0 cB] 78 from HBX.out.block (hgrow.block bx HBX.out.lt (fun e => by have := HBL.out bx e.symm; have := HTB.out e.symm; exact this)))
        replace HBEL := Lib.hid (show Below base wA wv4 from Below.grown HBEL.out hgrow (by omega) (fun k hk => HGEB.out k hk))
        replace HRB := Lib.hid (show RowI wv4 base 3 1 (.slice (some ⟨g2, 0, none⟩) (n0 + 1) c2) (n0 + 1) (fun _ => 0) from RowI.push hown HXL.out HXS.out (fun j hj => by (obtain rfl : j = 0 := by omega); rfl) (fun _ _ => rfl))
        clear hown hgrow hat hlt hii hz0 hz1 hz2 HX HXS HXL
        have hHx : wv4.cell? ⟨bx, 0, none⟩ = some (.slice aA n0 cA) ∧ wv4.cell? ⟨bx, 1, none⟩ = some (.slice aB n0 cB) := ⟨HBX.out.cell (i := 0) rfl, HBX.out.cell (i := 1) rfl⟩
        refine hK.out _ _ (fun _ => hHx) (fun hH2 => ?_)
        clear hK KK hHeld hHx
        have hHeld := hH2
        clear hH2
        try simp (maxSteps := 1000000) only [Act.put, List.setIfInBounds_toArray, List.set_cons_zero, List.set_cons_succ]
        have hz0 := HBX.out.frozen 0
        have hz1 := HBX.out.frozen 1
        have hc0 : wv4.cell? ⟨bx, 0, none⟩ = some (.slice aA n0 cA) := HBX.out.cell (i := 0) rfl
        have hc1 : wv4.cell? ⟨bx, 1, none⟩ = some (.slice aB n0 cB) := HBX.out.cell (i := 1) rfl
        have HFIN := Lib.hid (show SdR base bx (.slice (some ⟨g1, 0, none⟩) (n0 + 1) c1) (.slice (some ⟨g2, 0, none⟩) (n0 + 1) c2) (n0 + 1) (fun _ => 0) (fun _ => 0) wA ((wv4.setCell ⟨bx, 0, none⟩ (.slice (some ⟨g1, 0, none⟩) (n0 + 1) c1)).setCell ⟨bx, 1, none⟩ (.slice (some ⟨g2, 0, none⟩) (n0 + 1) c2)) from by
          have ha : (Value.slice (some ⟨g1, 0, none⟩) (n0 + 1) c1).ownBlock ≠ some bx := rowI_blk HRA.out HBX.out (by decide)
          have hb : (Value.slice (some ⟨g2, 0, none⟩) (n0 + 1) c2).ownBlock ≠ some bx := rowI_blk HRB.out HBX.out (by decide)
          refine ⟨(HBX.out.set 0 _).set 1 _, (HRA.out.other ha _).other ha _, (HRB.out.other hb _).other hb _, fun k hk => ?_, (HBEL.out.setCell hbxb _).setCell hbxb _⟩
          have hk1 : g1 = k := by simpa [Value.ownBlock] using hk
          subst hk1
          intro e
          have e2 : g2 = g1 := by simpa [Value.ownBlock] using e
          subst e2
          rcases HGA.out with h1 | h1
          · have l1 := HAL.out _ h1
            rcases HGB.out with h2 | h2
            · exact HDIF.out _ h1 h2
            · omega
          · rcases HGB.out with h2 | h2
            · have l2 := HBL.out _ h2; omega
            · omega)
        refine wpAnyU_ready (rs := [9]) (by kernel_rfl) (by simp) ?_
        refine AllReadyU.cons (o := { dst := none, op := _, type := _, pos := _, after := _, guard := _ }) rfl (fun KK hK => ?_) AllReadyU.nil
        go_simp
        refine hK.out _ _ (fun h => absurd h (by decide)) (fun hH2 => ?_)
        clear hK KK hHeld
        have hHeld := hH2
        clear hH2
        try simp (maxSteps := 1000000) only [Act.put, List.setIfInBounds_toArray, List.set_cons_zero, List.set_cons_succ]
        refine moveU (i := 10) (oi := { dst := some 25, op := _, type := _, pos := _, after := _, guard := _ }) (d := some 25) (v := ?vvzv236725) rfl rfl (by kernel_rfl) (by kernel_rfl) (by kernel_rfl) (by rfl) ?ddzv236725 (by rfl) ?yyzv236725 hHeld ?rrzv236725
        case ddzv236725 => first | exact fun _ _ _ h => h | exact fun _ _ _ h => HQ.out _ _ _ _ (by rfl) h
        case yyzv236725 => (intro wx; go_simp; try (with_reducible rfl))
        clear hHeld; intro hHeld
        try simp (maxSteps := 1000000) only [Act.put, List.setIfInBounds_toArray, List.set_cons_zero, List.set_cons_succ]
        refine wpAnyU_ready (rs := [11]) (by kernel_rfl) (by simp) ?_
        refine AllReadyU.cons (o := { dst := none, op := _, type := _, pos := _, after := _, guard := _ }) rfl (fun KK hK => ?_) AllReadyU.nil
        go_simp
        refine hK.out _ _ (fun h => absurd h (by decide)) (fun hH2 => ?_)
        clear hK KK hHeld hH2 hz0 hz1 hc0 hc1
        try simp (maxSteps := 1000000) only [Act.put, List.setIfInBounds_toArray, List.set_cons_zero, List.set_cons_succ]
        refine wpAnyU_done (by kernel_rfl) ?_ _
        go_wp2_with fail
        go_roundw
        case rel => exact ⟨n0 + 1, _, _, by go_num, by omega, HFIN.out⟩
        case measure => simp [intOf]; omega
      refine AllReadyU.cons (o := { dst := some 22, op := _, type := _, pos := _, after := _, guard := _ }) rfl (fun KK hK => ?_) AllReadyU.nil
      go_simp
      obtain ⟨wv2, hwb⟩ : ∃ wb, wb = wv1.alloc (Obj.cells #[.int .i64 0] 3) := ⟨_, rfl⟩
      obtain ⟨q2, hq⟩ : ∃ q, q = wv1.heap.size := ⟨_, rfl⟩
      have hq2 : S0 ≤ q2 := by omega
      have HQ2 := Lib.hid (show Blk wv2 q2 #[.int .i64 0] 3 by rw [hwb, hq]; exact Blk.new _ _ _)
      replace HBX := Lib.hid (show Blk wv2 bx #[.slice aA n0 cA, .slice aB n0 cB] 78 by rw [hwb]; exact HBX.out.alloc _)
      replace HRA := Lib.hid (show RowI wv2 base 3 1 (.slice aA n0 cA) n0 (fun _ => 0) by rw [hwb]; exact HRA.out.alloc _)
      replace HRB := Lib.hid (show RowI wv2 base 3 1 (.slice aB n0 cB) n0 (fun _ => 0) by rw [hwb]; exact HRB.out.alloc _)
      replace HBEL := Lib.hid (show Below base wA wv2 by rw [hwb]; exact HBEL.out.alloc (by omega) _)
      have hswv2 : wv1.heap.size + 1 = wv2.heap.size := by rw [hwb]; simp
      replace HQ1 := Lib.hid (show Blk wv2 q1 #[.int .i64 0] 3 by rw [hwb]; exact HQ1.out.alloc _)
      rw [← hwb, ← hq]
      clear hwb hq
      have hHx : wv2.cell? ⟨bx, 0, none⟩ = some (.slice aA n0 cA) ∧ wv2.cell? ⟨bx, 1, none⟩ = some (.slice aB n0 cB) := ⟨HBX.out.cell (i := 0) rfl, HBX.out.cell (i := 1) rfl⟩
      refine hK.out _ _ (fun _ => hHx) (fun hH2 => ?_)
      clear hK KK hHeld hHx
      have hHeld := hH2
      clear hH2
      try simp (maxSteps := 1000000) only [Act.put, List.setIfInBounds_toArray, List.set_cons_zero, List.set_cons_succ]
      refine wpAnyU_ready (rs := [3]) (by kernel_rfl) (by simp) ?_
      refine AllReadyU.cons (o := { dst := some 19, op := _, type := _, pos := _, after := _, guard := _ }) rfl (fun KK hK => ?_) AllReadyU.nil
      obtain ⟨xs, hown0, hxs⟩ := HRA.out
      have hxl : xs.length = n0 * 1 := hown0.1
      have HX := Lib.hid hown0
      have HXL := Lib.hid hxl
      have HXS := Lib.hid hxs
      obtain ⟨ii, hii, hz0, hz1, hz2⟩ := HI.out
      clear hown0 hxl hxs
      refine step_append_lies _ (by rfl) _ _ _ (by rfl) base 3 ii (.int .i64 0) 1 8 Tryd.underlying22 hii hz0 hz1 hz2 (by rfl) (by decide) (.slice aA n0 cA) n0 _ (by rfl) HX.out ⟨q1, 0, none⟩ 1 1 [.int .i64 0] (by rfl) (by rfl) ?cAwv33 ?cBwv33 (by omega) (by unfold maxLen; omega) (by omega) (by omega) wv2.heap.size rfl ?_
      case cAwv33 =>
        intro t u ht
        have e : Addr.add ⟨q1, 0, none⟩ t = ⟨q1, t, none⟩ := by simp [Addr.add] <;> omega
        rw [e]
        exact HQ1.out.cell (by simpa using ht)
      case cBwv33 => intro u hu; simp at hu; subst hu; rfl
      intro g1 c1 wv3 hown hgrow hat hlt
      have HGA := Lib.hid hat
      have hswv3 : wv2.heap.size ≤ wv3.heap.size := hgrow.size
      have hg1l : g1 < wv3.heap.size := hlt
      have hxwv3 : wv2.heap.size = wv2.heap.size := rfl
      replace HRB := Lib.hid (show RowI wv3 base 3 1 (.slice aB n0 cB) n0 (fun _ => 0) from HRB.out.block (fun k hk => hgrow.block k (by have := HBL.out k hk; omega) (fun e => HDIF.out k e.symm hk)))
      replace HQ2 := Lib.hid (show Blk wv3 q2 #[.int .i64 0] 3 from HQ2.out.block (hgrow.block q2 HQ2.out.lt (fun e => by have := HAL.out q2 e.symm; omega)))
      replace HBX := Lib.hid (show Blk wv3 bx #[.slice aA n0 cA, .slice aB n0 cB] 78 from HBX.out.block (hgrow.block bx HBX.out.lt (fun e => by have := HAL.out bx e.symm; have := HTA.out e.symm; exact this)))
      replace HBEL := Lib.hid (show Below base wA wv3 from Below.grown HBEL.out hgrow (by omega) (fun k hk => HGEA.out k hk))
      replace HRA := Lib.hid (show RowI wv3 base 3 1 (.slice (some ⟨g1, 0, none⟩) (n0 + 1) c1) (n0 + 1) (fun _ => 0) from RowI.push hown HXL.out HXS.out (fun j hj => by (obtain rfl : j = 0 := by omega); rfl) (fun _ _ => rfl))
      clear hown hgrow hat hlt hii hz0 hz1 hz2 HX HXS HXL
      have hHx : wv3.cell? ⟨bx, 0, none⟩ = some (.slice aA n0 cA) ∧ wv3.cell? ⟨bx, 1, none⟩ = some (.slice aB n0 cB) := ⟨HBX.out.cell (i := 0) rfl, HBX.out.cell (i := 1) rfl⟩
      refine hK.out _ _ (fun _ => hHx) (fun hH2 => ?_)
      clear hK KK hHeld hHx
      have hHeld := hH2
      clear hH2
      try simp (maxSteps := 1000000) only [Act.put, List.setIfInBounds_toArray, List.set_cons_zero, List.set_cons_succ]
      refine moveU (i := 8) (oi := { dst := some 24, op := _, type := _, pos := _, after := _, guard := _ }) (d := some 24) (v := ?vvv26324) rfl rfl (by kernel_rfl) (by kernel_rfl) (by kernel_rfl) (by rfl) ?ddv26324 (by rfl) ?yyv26324 hHeld ?rrv26324
      case ddv26324 => first | exact fun _ _ _ h => h | exact fun _ _ _ h => HQ.out _ _ _ _ (by rfl) h
      case yyv26324 => (intro wx; go_simp; try (with_reducible rfl))
      clear hHeld; intro hHeld
      try simp (maxSteps := 1000000) only [Act.put, List.setIfInBounds_toArray, List.set_cons_zero, List.set_cons_succ]
      refine wpAnyU_ready (rs := [7]) (by kernel_rfl) (by simp) ?_
      refine AllReadyU.cons (o := { dst := some 23, op := _, type := _, pos := _, after := _, guard := _ }) rfl (fun KK hK => ?_) AllReadyU.nil
      obtain ⟨xs, hown0, hxs⟩ := HRB.out
      have hxl : xs.length = n0 * 1 := hown0.1
      have HX := Lib.hid hown0
      have HXL := Lib.hid hxl
      have HXS := Lib.hid hxs
      obtain ⟨ii, hii, hz0, hz1, hz2⟩ := HI.out
      clear hown0 hxl hxs
      refine step_append_lies _ (by rfl) _ _ _ (by rfl) base 3 ii (.int .i64 0) 1 8 Tryd.underlying22 hii hz0 hz1 hz2 (by rfl) (by decide) (.slice aB n0 cB) n0 _ (by rfl) HX.out ⟨q2, 0, none⟩ 1 1 [.int .i64 0] (by rfl) (by rfl) ?cAwv47 ?cBwv47 (by omega) (by unfold maxLen; omega) (by omega) (by omega) wv3.heap.size rfl ?_
      case cAwv47 =>
        intro t u ht
        have e : Addr.add ⟨q2, 0, none⟩ t = ⟨q2, t, none⟩ := by simp [Addr.add] <;> omega
        rw [e]
        exact HQ2.out.cell (by simpa using ht)
      case cBwv47 => intro u hu; simp at hu; subst hu; rfl
      intro g2 c2 wv4 hown hgrow hat hlt
      have HGB := Lib.hid hat
      have hswv4 : wv3.heap.size ≤ wv4.heap.size := hgrow.size
      have hg2l : g2 < wv4.heap.size := hlt
      have hxwv4 : wv3.heap.size = wv3.heap.size := rfl
      replace HRA := Lib.hid (show RowI wv4 base 3 1 (.slice (some ⟨g1, 0, none⟩) (n0 + 1) c1) (n0 + 1) (fun _ => 0) from HRA.out.block (fun k hk => hgrow.block k (rowI_lt3 HRA.out hk) (fun e => by
        have hk1 : g1 = k := by simpa [Value.ownBlock] using hk
        subst hk1
        have hbl := HBL.out _ e.symm
        rcases HGA.out with h | h
        · exact HDIF.out _ h e.symm
        · omega)))
      replace HBX := Lib.hid (show Blk wv4 bx #[.slice aA n0 cA, .slice aB n0 cB] 78 from HBX.out.block (hgrow.block bx HBX.out.lt (fun e => by have := HBL.out bx e.symm; have := HTB.out e.symm; exact this)))
      replace HBEL := Lib.hid (show Below base wA wv4 from Below.grown HBEL.out hgrow (by omega) (fun k hk => HGEB.out k hk))
      replace HRB := Lib.hid (show RowI wv4 base 3 1 (.slice (some ⟨g2, 0, none⟩) (n0 + 1) c2) (n0 + 1) (fun _ => 0) from RowI.push hown HXL.out HXS.out (fun j hj => by (obtain rfl : j = 0 := by omega); rfl) (fun _ _ => rfl))
      clear hown hgrow hat hlt hii hz0 hz1 hz2 HX HXS HXL
      have hHx : wv4.cell? ⟨bx, 0, none⟩ = some (.slice aA n0 cA) ∧ wv4.cell? ⟨bx, 1, none⟩ = some (.slice aB n0 cB) := ⟨HBX.out.cell (i := 0) rfl, HBX.out.cell (i := 1) rfl⟩
      refine hK.out _ _ (fun _ => hHx) (fun hH2 => ?_)
      clear hK KK hHeld hHx
      have hHeld := hH2
      clear hH2
      try simp (maxSteps := 1000000) only [Act.put, List.setIfInBounds_toArray, List.set_cons_zero, List.set_cons_succ]
      have hz0 := HBX.out.frozen 0
      have hz1 := HBX.out.frozen 1
      have hc0 : wv4.cell? ⟨bx, 0, none⟩ = some (.slice aA n0 cA) := HBX.out.cell (i := 0) rfl
      have hc1 : wv4.cell? ⟨bx, 1, none⟩ = some (.slice aB n0 cB) := HBX.out.cell (i := 1) rfl
      have HFIN := Lib.hid (show SdR base bx (.slice (some ⟨g1, 0, none⟩) (n0 + 1) c1) (.slice (some ⟨g2, 0, none⟩) (n0 + 1) c2) (n0 + 1) (fun _ => 0) (fun _ => 0) wA ((wv4.setCell ⟨bx, 0, none⟩ (.slice (some ⟨g1, 0, none⟩) (n0 + 1) c1)).setCell ⟨bx, 1, none⟩ (.slice (some ⟨g2, 0, none⟩) (n0 + 1) c2)) from by
        have ha : (Value.slice (some ⟨g1, 0, none⟩) (n0 + 1) c1).ownBlock ≠ some bx := rowI_blk HRA.out HBX.out (by decide)
        have hb : (Value.slice (some ⟨g2, 0, none⟩) (n0 + 1) c2).ownBlock ≠ some bx := rowI_blk HRB.out HBX.out (by decide)
        refine ⟨(HBX.out.set 0 _).set 1 _, (HRA.out.other ha _).other ha _, (HRB.out.other hb _).other hb _, fun k hk => ?_, (HBEL.out.setCell hbxb _).setCell hbxb _⟩
        have hk1 : g1 = k := by simpa [Value.ownBlock] using hk
        subst hk1
        intro e
        have e2 : g2 = g1 := by simpa [Value.ownBlock] using e
        subst e2
        rcases HGA.out with h1 | h1
        · have l1 := HAL.out _ h1
          rcases HGB.out with h2 | h2
          · exact HDIF.out _ h1 h2
          · omega
        · rcases HGB.out with h2 | h2
          · have l2 := HBL.out _ h2; omega
          · omega)
      refine wpAnyU_ready (rs := [9]) (by kernel_rfl) (by simp) ?_
      refine AllReadyU.cons (o := { dst := none, op := _, type := _, pos := _, after := _, guard := _ }) rfl (fun KK hK => ?_) AllReadyU.nil
      go_simp
      refine hK.out _ _ (fun h => absurd h (by decide)) (fun hH2 => ?_)
      clear hK KK hHeld
      have hHeld := hH2
      clear hH2
      try simp (maxSteps := 1000000) only [Act.put, List.setIfInBounds_toArray, List.set_cons_zero, List.set_cons_succ]
      refine moveU (i := 10) (oi := { dst := some 25, op := _, type := _, pos := _, after := _, guard := _ }) (d := some 25) (v := ?vvzv263725) rfl rfl (by kernel_rfl) (by kernel_rfl) (by kernel_rfl) (by rfl) ?ddzv263725 (by rfl) ?yyzv263725 hHeld ?rrzv263725
      case ddzv263725 => first | exact fun _ _ _ h => h | exact fun _ _ _ h => HQ.out _ _ _ _ (by rfl) h
      case yyzv263725 => (intro wx; go_simp; try (with_reducible rfl))
      clear hHeld; intro hHeld
      try simp (maxSteps := 1000000) only [Act.put, List.setIfInBounds_toArray, List.set_cons_zero, List.set_cons_succ]
      refine wpAnyU_ready (rs := [11]) (by kernel_rfl) (by simp) ?_
      refine AllReadyU.cons (o := { dst := none, op := _, type := _, pos := _, after := _, guard := _ }) rfl (fun KK hK => ?_) AllReadyU.nil
      go_simp
      refine hK.out _ _ (fun h => absurd h (by decide)) (fun hH2 => ?_)
      clear hK KK hHeld hH2 hz0 hz1 hc0 hc1
      try simp (maxSteps := 1000000) only [Act.put, List.setIfInBounds_toArray, List.set_cons_zero, List.set_cons_succ]
      refine wpAnyU_done (by kernel_rfl) ?_ _
      go_wp2_with fail
      go_roundw
      case rel => exact ⟨n0 + 1, _, _, by go_num, by omega, HFIN.out⟩
      case measure => simp [intOf]; omega
    refine AllReadyU.cons (o := { dst := some 22, op := _, type := _, pos := _, after := _, guard := _ }) rfl (fun KK hK => ?_) AllReadyU.nil
    go_simp
    obtain ⟨wv1, hwb⟩ : ∃ wb, wb = wv0.alloc (Obj.cells #[.int .i64 0] 3) := ⟨_, rfl⟩
    obtain ⟨q2, hq⟩ : ∃ q, q = wv0.heap.size := ⟨_, rfl⟩
    have hq2 : S0 ≤ q2 := by omega
    have HQ2 := Lib.hid (show Blk wv1 q2 #[.int .i64 0] 3 by rw [hwb, hq]; exact Blk.new _ _ _)
    replace HBX := Lib.hid (show Blk wv1 bx #[.slice aA n0 cA, .slice aB n0 cB] 78 by rw [hwb]; exact HBX.out.alloc _)
    replace HRA := Lib.hid (show RowI wv1 base 3 1 (.slice aA n0 cA) n0 (fun _ => 0) by rw [hwb]; exact HRA.out.alloc _)
    replace HRB := Lib.hid (show RowI wv1 base 3 1 (.slice aB n0 cB) n0 (fun _ => 0) by rw [hwb]; exact HRB.out.alloc _)
    replace HBEL := Lib.hid (show Below base wA wv1 by rw [hwb]; exact HBEL.out.alloc (by omega) _)
    have hswv1 : wv0.heap.size + 1 = wv1.heap.size := by rw [hwb]; simp
    rw [← hwb, ← hq]
    clear hwb hq
    have hHx : wv1.cell? ⟨bx, 0, none⟩ = some (.slice aA n0 cA) ∧ wv1.cell? ⟨bx, 1, none⟩ = some (.slice aB n0 cB) := ⟨HBX.out.cell (i := 0) rfl, HBX.out.cell (i := 1) rfl⟩
    refine hK.out _ _ (fun _ => hHx) (fun hH2 => ?_)
    clear hK KK hHeld hHx
    have hHeld := hH2
    clear hH2
    try simp (maxSteps := 1000000) only [Act.put, List.setIfInBounds_toArray, List.set_cons_zero, List.set_cons_succ]
    refine wpAnyU_ready (rs := [2]) (by kernel_rfl) (by simp) ?_
    refine AllReadyU.cons (o := { dst := some 18, op := _, type := _, pos := _, after := _, guard := _ }) rfl (fun KK hK => ?_) AllReadyU.nil
    go_simp
    obtain ⟨wv2, hwb⟩ : ∃ wb, wb = wv1.alloc (Obj.cells #[.int .i64 0] 3) := ⟨_, rfl⟩
    obtain ⟨q1, hq⟩ : ∃ q, q = wv1.heap.size := ⟨_, rfl⟩
    have hq1 : S0 ≤ q1 := by omega
    have HQ1 := Lib.hid (show Blk wv2 q1 #[.int .i64 0] 3 by rw [hwb, hq]; exact Blk.new _ _ _)
    replace HBX := Lib.hid (show Blk wv2 bx #[.slice aA n0 cA, .slice aB n0 cB] 78 by rw [hwb]; exact HBX.out.alloc _)
    replace HRA := Lib.hid (show RowI wv2 base 3 1 (.slice aA n0 cA) n0 (fun _ => 0) by rw [hwb]; exact HRA.out.alloc _)
    replace HRB := Lib.hid (show RowI wv2 base 3 1 (.slice aB n0 cB) n0 (fun _ => 0) by rw [hwb]; exact HRB.out.alloc _)
    replace HBEL := Lib.hid (show Below base wA wv2 by rw [hwb]; exact HBEL.out.alloc (by omega) _)
    have hswv2 : wv1.heap.size + 1 = wv2.heap.size := by rw [hwb]; simp
    replace HQ2 := Lib.hid (show Blk wv2 q2 #[.int .i64 0] 3 by rw [hwb]; exact HQ2.out.alloc _)
    rw [← hwb, ← hq]
    clear hwb hq
    have hHx : wv2.cell? ⟨bx, 0, none⟩ = some (.slice aA n0 cA) ∧ wv2.cell? ⟨bx, 1, none⟩ = some (.slice aB n0 cB) := ⟨HBX.out.cell (i := 0) rfl, HBX.out.cell (i := 1) rfl⟩
    refine hK.out _ _ (fun _ => hHx) (fun hH2 => ?_)
    clear hK KK hHeld hHx
    have hHeld := hH2
    clear hH2
    try simp (maxSteps := 1000000) only [Act.put, List.setIfInBounds_toArray, List.set_cons_zero, List.set_cons_succ]
    refine wpAnyU_ready (rs := [3]) (by kernel_rfl) (by simp) ?_
    refine AllReadyU.cons (o := { dst := some 19, op := _, type := _, pos := _, after := _, guard := _ }) rfl (fun KK hK => ?_) AllReadyU.nil
    obtain ⟨xs, hown0, hxs⟩ := HRA.out
    have hxl : xs.length = n0 * 1 := hown0.1
    have HX := Lib.hid hown0
    have HXL := Lib.hid hxl
    have HXS := Lib.hid hxs
    obtain ⟨ii, hii, hz0, hz1, hz2⟩ := HI.out
    clear hown0 hxl hxs
    refine step_append_lies _ (by rfl) _ _ _ (by rfl) base 3 ii (.int .i64 0) 1 8 Tryd.underlying22 hii hz0 hz1 hz2 (by rfl) (by decide) (.slice aA n0 cA) n0 _ (by rfl) HX.out ⟨q1, 0, none⟩ 1 1 [.int .i64 0] (by rfl) (by rfl) ?cAwv33 ?cBwv33 (by omega) (by unfold maxLen; omega) (by omega) (by omega) wv2.heap.size rfl ?_
    case cAwv33 =>
      intro t u ht
      have e : Addr.add ⟨q1, 0, none⟩ t = ⟨q1, t, none⟩ := by simp [Addr.add] <;> omega
      rw [e]
      exact HQ1.out.cell (by simpa using ht)
    case cBwv33 => intro u hu; simp at hu; subst hu; rfl
    intro g1 c1 wv3 hown hgrow hat hlt
    have HGA := Lib.hid hat
    have hswv3 : wv2.heap.size ≤ wv3.heap.size := hgrow.size
    have hg1l : g1 < wv3.heap.size := hlt
    have hxwv3 : wv2.heap.size = wv2.heap.size := rfl
    replace HRB := Lib.hid (show RowI wv3 base 3 1 (.slice aB n0 cB) n0 (fun _ => 0) from HRB.out.block (fun k hk => hgrow.block k (by have := HBL.out k hk; omega) (fun e => HDIF.out k e.symm hk)))
    replace HQ2 := Lib.hid (show Blk wv3 q2 #[.int .i64 0] 3 from HQ2.out.block (hgrow.block q2 HQ2.out.lt (fun e => by have := HAL.out q2 e.symm; omega)))
    replace HBX := Lib.hid (show Blk wv3 bx #[.slice aA n0 cA, .slice aB n0 cB] 78 from HBX.out.block (hgrow.block bx HBX.out.lt (fun e => by have := HAL.out bx e.symm; have := HTA.out e.symm; exact this)))
    replace HBEL := Lib.hid (show Below base wA wv3 from Below.grown HBEL.out hgrow (by omega) (fun k hk => HGEA.out k hk))
    replace HRA := Lib.hid (show RowI wv3 base 3 1 (.slice (some ⟨g1, 0, none⟩) (n0 + 1) c1) (n0 + 1) (fun _ => 0) from RowI.push hown HXL.out HXS.out (fun j hj => by (obtain rfl : j = 0 := by omega); rfl) (fun _ _ => rfl))
    clear hown hgrow hat hlt hii hz0 hz1 hz2 HX HXS HXL
    have hHx : wv3.cell? ⟨bx, 0, none⟩ = some (.slice aA n0 cA) ∧ wv3.cell? ⟨bx, 1, none⟩ = some (.slice aB n0 cB) := ⟨HBX.out.cell (i := 0) rfl, HBX.out.cell (i := 1) rfl⟩
    refine hK.out _ _ (fun _ => hHx) (fun hH2 => ?_)
    clear hK KK hHeld hHx
    have hHeld := hH2
    clear hH2
    try simp (maxSteps := 1000000) only [Act.put, List.setIfInBounds_toArray, List.set_cons_zero, List.set_cons_succ]
    refine moveU (i := 8) (oi := { dst := some 24, op := _, type := _, pos := _, after := _, guard := _ }) (d := some 24) (v := ?vvv62324) rfl rfl (by kernel_rfl) (by kernel_rfl) (by kernel_rfl) (by rfl) ?ddv62324 (by rfl) ?yyv62324 hHeld ?rrv62324
    case ddv62324 => first | exact fun _ _ _ h => h | exact fun _ _ _ h => HQ.out _ _ _ _ (by rfl) h
    case yyv62324 => (intro wx; go_simp; try (with_reducible rfl))
    clear hHeld; intro hHeld
    try simp (maxSteps := 1000000) only [Act.put, List.setIfInBounds_toArray, List.set_cons_zero, List.set_cons_succ]
    refine wpAnyU_ready (rs := [7]) (by kernel_rfl) (by simp) ?_
    refine AllReadyU.cons (o := { dst := some 23, op := _, type := _, pos := _, after := _, guard := _ }) rfl (fun KK hK => ?_) AllReadyU.nil
    obtain ⟨xs, hown0, hxs⟩ := HRB.out
    have hxl : xs.length = n0 * 1 := hown0.1
    have HX := Lib.hid hown0
    have HXL := Lib.hid hxl
    have HXS := Lib.hid hxs
    obtain ⟨ii, hii, hz0, hz1, hz2⟩ := HI.out
    clear hown0 hxl hxs
    refine step_append_lies _ (by rfl) _ _ _ (by rfl) base 3 ii (.int .i64 0) 1 8 Tryd.underlying22 hii hz0 hz1 hz2 (by rfl) (by decide) (.slice aB n0 cB) n0 _ (by rfl) HX.out ⟨q2, 0, none⟩ 1 1 [.int .i64 0] (by rfl) (by rfl) ?cAwv47 ?cBwv47 (by omega) (by unfold maxLen; omega) (by omega) (by omega) wv3.heap.size rfl ?_
    case cAwv47 =>
      intro t u ht
      have e : Addr.add ⟨q2, 0, none⟩ t = ⟨q2, t, none⟩ := by simp [Addr.add] <;> omega
      rw [e]
      exact HQ2.out.cell (by simpa using ht)
    case cBwv47 => intro u hu; simp at hu; subst hu; rfl
    intro g2 c2 wv4 hown hgrow hat hlt
    have HGB := Lib.hid hat
    have hswv4 : wv3.heap.size ≤ wv4.heap.size := hgrow.size
    have hg2l : g2 < wv4.heap.size := hlt
    have hxwv4 : wv3.heap.size = wv3.heap.size := rfl
    replace HRA := Lib.hid (show RowI wv4 base 3 1 (.slice (some ⟨g1, 0, none⟩) (n0 + 1) c1) (n0 + 1) (fun _ => 0) from HRA.out.block (fun k hk => hgrow.block k (rowI_lt3 HRA.out hk) (fun e => by
      have hk1 : g1 = k := by simpa [Value.ownBlock] using hk
      subst hk1
      have hbl := HBL.out _ e.symm
      rcases HGA.out with h | h
      · exact HDIF.out _ h e.symm
      · omega)))
    replace HBX := Lib.hid (show Blk wv4 bx #[.slice aA n0 cA, .slice aB n0 cB] 78 from HBX.out.block (hgrow.block bx HBX.out.lt (fun e => by have := HBL.out bx e.symm; have := HTB.out e.symm; exact this)))
    replace HBEL := Lib.hid (show Below base wA wv4 from Below.grown HBEL.out hgrow (by omega) (fun k hk => HGEB.out k hk))
    replace HRB := Lib.hid (show RowI wv4 base 3 1 (.slice (some ⟨g2, 0, none⟩) (n0 + 1) c2) (n0 + 1) (fun _ => 0) from RowI.push hown HXL.out HXS.out (fun j hj => by (obtain rfl : j = 0 := by omega); rfl) (fun _ _ => rfl))
    clear hown hgrow hat hlt hii hz0 hz1 hz2 HX HXS HXL
    have hHx : wv4.cell? ⟨bx, 0, none⟩ = some (.slice aA n0 cA) ∧ wv4.cell? ⟨bx, 1, none⟩ = some (.slice aB n0 cB) := ⟨HBX.out.cell (i := 0) rfl, HBX.out.cell (i := 1) rfl⟩
    refine hK.out _ _ (fun _ => hHx) (fun hH2 => ?_)
    clear hK KK hHeld hHx
    have hHeld := hH2
    clear hH2
    try simp (maxSteps := 1000000) only [Act.put, List.setIfInBounds_toArray, List.set_cons_zero, List.set_cons_succ]
    have hz0 := HBX.out.frozen 0
    have hz1 := HBX.out.frozen 1
    have hc0 : wv4.cell? ⟨bx, 0, none⟩ = some (.slice aA n0 cA) := HBX.out.cell (i := 0) rfl
    have hc1 : wv4.cell? ⟨bx, 1, none⟩ = some (.slice aB n0 cB) := HBX.out.cell (i := 1) rfl
    have HFIN := Lib.hid (show SdR base bx (.slice (some ⟨g1, 0, none⟩) (n0 + 1) c1) (.slice (some ⟨g2, 0, none⟩) (n0 + 1) c2) (n0 + 1) (fun _ => 0) (fun _ => 0) wA ((wv4.setCell ⟨bx, 0, none⟩ (.slice (some ⟨g1, 0, none⟩) (n0 + 1) c1)).setCell ⟨bx, 1, none⟩ (.slice (some ⟨g2, 0, none⟩) (n0 + 1) c2)) from by
      have ha : (Value.slice (some ⟨g1, 0, none⟩) (n0 + 1) c1).ownBlock ≠ some bx := rowI_blk HRA.out HBX.out (by decide)
      have hb : (Value.slice (some ⟨g2, 0, none⟩) (n0 + 1) c2).ownBlock ≠ some bx := rowI_blk HRB.out HBX.out (by decide)
      refine ⟨(HBX.out.set 0 _).set 1 _, (HRA.out.other ha _).other ha _, (HRB.out.other hb _).other hb _, fun k hk => ?_, (HBEL.out.setCell hbxb _).setCell hbxb _⟩
      have hk1 : g1 = k := by simpa [Value.ownBlock] using hk
      subst hk1
      intro e
      have e2 : g2 = g1 := by simpa [Value.ownBlock] using e
      subst e2
      rcases HGA.out with h1 | h1
      · have l1 := HAL.out _ h1
        rcases HGB.out with h2 | h2
        · exact HDIF.out _ h1 h2
        · omega
      · rcases HGB.out with h2 | h2
        · have l2 := HBL.out _ h2; omega
        · omega)
    refine wpAnyU_ready (rs := [9]) (by kernel_rfl) (by simp) ?_
    refine AllReadyU.cons (o := { dst := none, op := _, type := _, pos := _, after := _, guard := _ }) rfl (fun KK hK => ?_) AllReadyU.nil
    go_simp
    refine hK.out _ _ (fun h => absurd h (by decide)) (fun hH2 => ?_)
    clear hK KK hHeld
    have hHeld := hH2
    clear hH2
    try simp (maxSteps := 1000000) only [Act.put, List.setIfInBounds_toArray, List.set_cons_zero, List.set_cons_succ]
    refine moveU (i := 10) (oi := { dst := some 25, op := _, type := _, pos := _, after := _, guard := _ }) (d := some 25) (v := ?vvzv623725) rfl rfl (by kernel_rfl) (by kernel_rfl) (by kernel_rfl) (by rfl) ?ddzv623725 (by rfl) ?yyzv623725 hHeld ?rrzv623725
    case ddzv623725 => first | exact fun _ _ _ h => h | exact fun _ _ _ h => HQ.out _ _ _ _ (by rfl) h
    case yyzv623725 => (intro wx; go_simp; try (with_reducible rfl))
    clear hHeld; intro hHeld
    try simp (maxSteps := 1000000) only [Act.put, List.setIfInBounds_toArray, List.set_cons_zero, List.set_cons_succ]
    refine wpAnyU_ready (rs := [11]) (by kernel_rfl) (by simp) ?_
    refine AllReadyU.cons (o := { dst := none, op := _, type := _, pos := _, after := _, guard := _ }) rfl (fun KK hK => ?_) AllReadyU.nil
    go_simp
    refine hK.out _ _ (fun h => absurd h (by decide)) (fun hH2 => ?_)
    clear hK KK hHeld hH2 hz0 hz1 hc0 hc1
    try simp (maxSteps := 1000000) only [Act.put, List.setIfInBounds_toArray, List.set_cons_zero, List.set_cons_succ]
    refine wpAnyU_done (by kernel_rfl) ?_ _
    go_wp2_with fail
    go_roundw
    case rel => exact ⟨n0 + 1, _, _, by go_num, by omega, HFIN.out⟩
    case measure => simp [intOf]; omega
end Go.Proofs.YtojbicdmcodgdaaDoor.BD
namespace Go.Law.Bd
theorem prt_back {Z W : Nat → Int} {i : Nat} {x : Int} (hx : W i = x) (j : Nat) : Go.Law.upd (prt Z W (i + 1)) i x j = prt Z W i j := by
  unfold Go.Law.upd
  by_cases h : j = i
  · rw [if_pos h, h, prt_ge (Nat.le_refl _), hx]
  · rw [if_neg h]
    by_cases h2 : j < i
    · rw [prt_lt h2, prt_lt (by omega)]
    · rw [prt_ge (by omega), prt_ge (by omega)]
end Go.Law.Bd
namespace Go.Proofs.YtojbicdmcodgdaaDoor.BD
open Go.RowKit Go.Law Go.Law.Bd
set_option linter.unusedVariables false
set_option linter.unusedSimpArgs false
set_option maxRecDepth 100000
set_option maxHeartbeats 8000000 in
theorem rsLeft {p : WdP} {F FB : Nat → Int} {w0 wb wA : World} {base bx b gA cA : Nat} {B av : Value} (OK : Hid (WdOk p)) (HWS : Hid (Ws p F b w0 wb)) (hbase : base = wb.heap.size) (HSD : Hid (SdR base bx (.slice (some ⟨gA, 0, none⟩) p.m cA) B p.m (fun _ => 0) FB wb wA)) (hcA : p.m ≤ cA)
    {s0 s4 s5 s6 s7 s8 s9 s10 s11 s12 s13 s14 s15 s16 s17 s18 s19 s20 s21 s22 s23 s24 s25 s26 s27 s28 s29 s33 s34 s35 s36 s37 s38 s39 s40 s41 s42 s43 s44 s45 s46 s47 s48 s49 s50 s51 s52 s53 s54 s55 s56 s57 s58 s59 s60 s61 s62 s63 s64 s65 s66 s67 s68 s69 s70 s71 s72 s73 s74 s75 s76 s77 s78 s79 s80 s81 s82 s83 s84 s85 s86 s87 s88 s89 s90 s91 s92 s93 s94 s95 s96 s97 s98 s99 s100 s101 s102 s103 s104 s105 s106 s107 s108 s109 s110 s111 s112 s113 s114 s115 s116 s117 s118 s119 s120 s121 s122 s123 s124 s125 s126 s127 s128 s129 s130 s131 s132 s133 s134 s135 s136 s137 s138 s139 s140 s141 s142 s143 s144 s145 s146 s147 : Value} {J K' : Act → World → Prop} {Q : Exit → Act → World → Prop}
    (hJ : ∀ (a' : Act) (w' : World), (∃ u3 u4 u5 u32 u33 u34 u35 u36 u37 u38 u39 u40 u41 u42 u43 u44 u45 u46 u47 : Value, (SdR base bx (.slice (some ⟨gA, 0, none⟩) p.m cA) B p.m (sdL F p.bef) FB wb w') ∧ a' = ⟨#[s0, .pointer (some ⟨b, 0, none⟩), .pointer (some ⟨bx, 0, none⟩), u3, u4, u5, s6, s7, s8, s9, s10, s11, s12, s13, s14, s15, s16, s17, s18, s19, s20, s21, s22, s23, s24, s25, s26, s27, s28, s29, av, .int .i64 p.m, u32, u33, u34, u35, u36, u37, u38, u39, u40, u41, u42, u43, u44, u45, u46, u47, s48, s49, s50, s51, s52, s53, s54, s55, s56, s57, s58, s59, s60, s61, s62, s63, s64, s65, s66, s67, s68, s69, s70, s71, s72, s73, s74, s75, s76, s77, s78, s79, s80, s81, s82, s83, s84, s85, s86, s87, s88, s89, s90, s91, s92, s93, s94, s95, s96, s97, s98, s99, s100, s101, s102, s103, s104, s105, s106, s107, s108, s109, s110, s111, s112, s113, s114, s115, s116, s117, s118, s119, s120, s121, s122, s123, s124, s125, s126, s127, s128, s129, s130, s131, s132, s133, s134, s135, s136, s137, s138, s139, s140, s141, s142, s143, s144, s145, s146, s147], []⟩) → J a' w')
    (hK : ∀ (a' : Act) (w' : World), Met J a' w' → K' a' w') :
    Code.wp Tryd.prog (theBlk Tryd.f30 2) (Exit.then K' Q) ⟨#[s0, .pointer (some ⟨b, 0, none⟩), .pointer (some ⟨bx, 0, none⟩), .int .i64 p.bef, s4, s5, s6, s7, s8, s9, s10, s11, s12, s13, s14, s15, s16, s17, s18, s19, s20, s21, s22, s23, s24, s25, s26, s27, s28, s29, av, .int .i64 p.m, .int .i64 0, s33, s34, s35, s36, s37, s38, s39, s40, s41, s42, s43, s44, s45, s46, s47, s48, s49, s50, s51, s52, s53, s54, s55, s56, s57, s58, s59, s60, s61, s62, s63, s64, s65, s66, s67, s68, s69, s70, s71, s72, s73, s74, s75, s76, s77, s78, s79, s80, s81, s82, s83, s84, s85, s86, s87, s88, s89, s90, s91, s92, s93, s94, s95, s96, s97, s98, s99, s100, s101, s102, s103, s104, s105, s106, s107, s108, s109, s110, s111, s112, s113, s114, s115, s116, s117, s118, s119, s120, s121, s122, s123, s124, s125, s126, s127, s128, s129, s130, s131, s132, s133, s134, s135, s136, s137, s138, s139, s140, s141, s142, s143, s144, s145, s146, s147], []⟩ wA := by
  have hm := OK.out.m2
  have hn := OK.out.n2
  conv => arg 2; whnf
  go_wp2_with fail
  go_loopw [3, 32] (fun kv iv wr => ∃ i : Nat, kv = .int .i64 (sdL F p.bef i) ∧ iv = .int .i64 i ∧ i ≤ p.m ∧ SdR base bx (.slice (some ⟨gA, 0, none⟩) p.m cA) B p.m (prt (sdL F p.bef) (fun _ => 0) i) FB wb wr) (fun _ iv _ => p.m - (intOf iv).toNat)
  case atStart => exact ⟨0, rfl, rfl, by omega, HSD.out.congr (fun k _ => (prt_zero _ (fun _ => 0) k).symm) (fun _ _ => rfl)⟩
  case round =>
    obtain ⟨i, rfl, rfl, hi, hsd⟩ := hrel
    clear HSD
    have HSD := Lib.hid hsd
    clear hsd
    by_cases hin : i < p.m
    case neg =>
      obtain rfl : i = p.m := by omega
      go_wp2_with fail
      go_meet
      exact HSD.out.congr (fun k hk => prt_lt hk) (fun _ _ => rfl)
    have c0 : wr.cell? ⟨bx, 0, none⟩ = some (.slice (some ⟨gA, 0, none⟩) p.m cA) := HSD.out.bxb.cell (i := 0) rfl
    obtain ⟨g', c', hv', _, _, _, _, hz, hcc⟩ := RowI.at HSD.out.ra (by omega)
    cases hv'
    have d0 := hcc i (by omega)
    have z0 := hz i
    have hii : (i : Int) < (p.m : Int) := by omega
    obtain ⟨k, hk⟩ : ∃ k, k = sdL F p.bef i := ⟨_, rfl⟩
    rw [← hk]
    have HK := Lib.hid hk
    clear hcc hz hk
    go_upto_region 11 with fail
    obtain ⟨w1, hw1⟩ : ∃ x, x = wr.setCell ⟨gA, i, none⟩ (.int .i64 k) := ⟨_, rfl⟩
    have HSD1 := Lib.hid (show SdR base bx (.slice (some ⟨gA, 0, none⟩) p.m cA) B p.m (prt (sdL F p.bef) (fun _ => 0) (i + 1)) FB wb w1 by
      rw [hw1]
      exact (HSD.out.setA hin k).congr (fun j _ => prt_set _ _ i HK.out.symm j) (fun _ _ => rfl))
    rw [← hw1]
    clear hw1 c0 d0 z0 HSD
    have HW1 := Lib.hid (HWS.out.below (hbase ▸ HSD1.out.bel))
    obtain ⟨x0, x1, x2, x3, x4⟩ := HW1.out.box
    have hbl := HW1.out.bx.lt
    have HG := Lib.hid (wget_any OK.out HW1.out.wd (i : Int))
    rw [gtW_at hin] at HG
    unfold WdP.cs at HG
    obtain ⟨fi, hfi⟩ : ∃ x, x = F i := ⟨_, rfl⟩
    rw [← hfi] at HG
    have HST := Lib.hid (show sdL F p.bef (i + 1) = if 0 ≤ ctB fi then ctB fi else k by rw [sdL, ← hfi, HK.out])
    clear hfi
    go_wp2_with fail
    refine HG.out.mono ?_
    rintro e2 w2 ⟨rfl, hb2⟩
    have HSD2 := Lib.hid (HSD1.out.below hb2 (by rw [hbase]; exact HSD1.out.bel.size))
    dsimp only
    clear hb2 HG x0 x1 x2 x3 x4 hbl HW1
    have HCT := Lib.hid (counts_any fi w2)
    obtain ⟨ct, hct⟩ : ∃ x, x = ctB fi := ⟨_, rfl⟩
    rw [← hct] at HCT HST
    clear hct
    go_wp2_with fail
    refine HCT.out.mono ?_
    rintro e3 w3 ⟨rfl, rfl⟩
    dsimp only
    by_cases h0 : 0 ≤ ct
    · have HN := Lib.hid (HST.out.trans (if_pos h0))
      go_wp2_with fail
      go_roundw
      case rel => exact ⟨i + 1, by rw [HN.out], by go_num, by omega, HSD2.out⟩
      case measure => simp [intOf]; omega
    · have HN := Lib.hid (HST.out.trans (if_neg h0))
      go_wp2_with fail
      go_roundw
      case rel => exact ⟨i + 1, by rw [HN.out], by go_num, by omega, HSD2.out⟩
      case measure => simp [intOf]; omega
set_option maxHeartbeats 8000000 in
theorem rsRight {p : WdP} {F FA : Nat → Int} {w0 wb wA : World} {base bx b gB cB : Nat} {A : Value} (OK : Hid (WdOk p)) (HWS : Hid (Ws p F b w0 wb)) (hbase : base = wb.heap.size) (HSD : Hid (SdR base bx A (.slice (some ⟨gB, 0, none⟩) p.m cB) p.m FA (fun _ => 0) wb wA)) (hcB : p.m ≤ cB) (hm0 : 0 < p.m)
    {s0 s4 s5 s7 s8 s9 s10 s11 s12 s13 s14 s15 s16 s17 s18 s19 s20 s21 s22 s23 s24 s25 s26 s27 s28 s29 s30 s31 s32 s33 s34 s35 s36 s37 s38 s39 s40 s41 s42 s43 s44 s45 s46 s47 s48 s49 s50 s51 s52 s53 s54 s55 s56 s57 s58 s59 s60 s61 s62 s63 s64 s65 s66 s67 s68 s69 s70 s71 s72 s73 s74 s75 s76 s77 s78 s79 s80 s81 s82 s83 s84 s85 s86 s87 s88 s89 s90 s91 s92 s93 s94 s95 s96 s97 s98 s99 s100 s101 s102 s103 s104 s105 s106 s107 s108 s109 s110 s111 s112 s113 s114 s115 s116 s117 s118 s119 s120 s121 s122 s123 s124 s125 s126 s127 s128 s129 s130 s131 s132 s133 s134 s135 s136 s137 s138 s139 s140 s141 s142 s143 s144 s145 s146 s147 : Value} {J K' : Act → World → Prop} {Q : Exit → Act → World → Prop}
    (hJ : ∀ (a' : Act) (w' : World), (∃ u3 u6 u7 u54 u55 u56 u57 u58 u59 u60 u61 u62 u63 u64 u65 u66 u67 u68 u69 : Value, (SdR base bx A (.slice (some ⟨gB, 0, none⟩) p.m cB) p.m FA (fun k => sdR F p.m p.aft (k + 1)) wb w') ∧ a' = ⟨#[s0, .pointer (some ⟨b, 0, none⟩), .pointer (some ⟨bx, 0, none⟩), u3, s4, s5, u6, u7, s8, s9, s10, s11, s12, s13, s14, s15, s16, s17, s18, s19, s20, s21, s22, s23, s24, s25, s26, s27, s28, s29, s30, s31, s32, s33, s34, s35, s36, s37, s38, s39, s40, s41, s42, s43, s44, s45, s46, s47, s48, s49, s50, s51, s52, s53, u54, u55, u56, u57, u58, u59, u60, u61, u62, u63, u64, u65, u66, u67, u68, u69, s70, s71, s72, s73, s74, s75, s76, s77, s78, s79, s80, s81, s82, s83, s84, s85, s86, s87, s88, s89, s90, s91, s92, s93, s94, s95, s96, s97, s98, s99, s100, s101, s102, s103, s104, s105, s106, s107, s108, s109, s110, s111, s112, s113, s114, s115, s116, s117, s118, s119, s120, s121, s122, s123, s124, s125, s126, s127, s128, s129, s130, s131, s132, s133, s134, s135, s136, s137, s138, s139, s140, s141, s142, s143, s144, s145, s146, s147], []⟩) → J a' w')
    (hK : ∀ (a' : Act) (w' : World), Met J a' w' → K' a' w') :
    Code.wp Tryd.prog (theBlk Tryd.f30 4) (Exit.then K' Q) ⟨#[s0, .pointer (some ⟨b, 0, none⟩), .pointer (some ⟨bx, 0, none⟩), .int .i64 p.aft, s4, s5, .int .i64 ((p.m : Int) - 1), s7, s8, s9, s10, s11, s12, s13, s14, s15, s16, s17, s18, s19, s20, s21, s22, s23, s24, s25, s26, s27, s28, s29, s30, s31, s32, s33, s34, s35, s36, s37, s38, s39, s40, s41, s42, s43, s44, s45, s46, s47, s48, s49, s50, s51, s52, s53, s54, s55, s56, s57, s58, s59, s60, s61, s62, s63, s64, s65, s66, s67, s68, s69, s70, s71, s72, s73, s74, s75, s76, s77, s78, s79, s80, s81, s82, s83, s84, s85, s86, s87, s88, s89, s90, s91, s92, s93, s94, s95, s96, s97, s98, s99, s100, s101, s102, s103, s104, s105, s106, s107, s108, s109, s110, s111, s112, s113, s114, s115, s116, s117, s118, s119, s120, s121, s122, s123, s124, s125, s126, s127, s128, s129, s130, s131, s132, s133, s134, s135, s136, s137, s138, s139, s140, s141, s142, s143, s144, s145, s146, s147], []⟩ wA := by
  have hm := OK.out.m2
  have hn := OK.out.n2
  conv => arg 2; whnf
  go_wp2_with fail
  go_loopw [3, 6] (fun kv iv wr => ∃ j : Nat, kv = .int .i64 (sdR F p.m p.aft j) ∧ iv = .int .i64 ((j : Int) - 1) ∧ j ≤ p.m ∧ SdR base bx A (.slice (some ⟨gB, 0, none⟩) p.m cB) p.m FA (prt (fun _ => 0) (fun k => sdR F p.m p.aft (k + 1)) j) wb wr) (fun _ iv _ => (intOf iv + 1).toNat)
  case atStart => exact ⟨p.m, by rw [sdR_end (Nat.le_refl _)], rfl, Nat.le_refl _, HSD.out.congr (fun _ _ => rfl) (fun k hk => (prt_lt (W := fun _ => (0 : Int)) hk).symm)⟩
  case round =>
    obtain ⟨j, rfl, rfl, hj, hsd⟩ := hrel
    clear HSD
    have HSD := Lib.hid hsd
    clear hsd
    by_cases hj0 : j = 0
    · subst hj0
      go_wp2_with fail
      go_meet
      exact HSD.out.congr (fun _ _ => rfl) (fun k hk => prt_zero _ _ k)
    obtain ⟨i, rfl⟩ : ∃ i, j = i + 1 := ⟨j - 1, by omega⟩
    have e0 : ((i + 1 : Nat) : Int) - 1 = (i : Int) := by omega
    rw [e0]
    have hin : i < p.m := by omega
    have c1 : wr.cell? ⟨bx, 1, none⟩ = some (.slice (some ⟨gB, 0, none⟩) p.m cB) := HSD.out.bxb.cell (i := 1) rfl
    obtain ⟨g', c', hv', _, _, _, _, hz, hcc⟩ := RowI.at HSD.out.rb (by omega)
    cases hv'
    have d0 := hcc i (by omega)
    have z0 := hz i
    have hii : (i : Int) < (p.m : Int) := by omega
    have hwj := IntWalk.i64_in ((i : Int) - 1) (by omega)
    obtain ⟨k, hk⟩ : ∃ k, k = sdR F p.m p.aft (i + 1) := ⟨_, rfl⟩
    rw [← hk]
    have HK := Lib.hid hk
    clear hcc hz hk e0 hj0
    go_upto_region 20 with fail
    obtain ⟨w1, hw1⟩ : ∃ x, x = wr.setCell ⟨gB, i, none⟩ (.int .i64 k) := ⟨_, rfl⟩
    have HSD1 := Lib.hid (show SdR base bx A (.slice (some ⟨gB, 0, none⟩) p.m cB) p.m FA (prt (fun _ => 0) (fun k => sdR F p.m p.aft (k + 1)) i) wb w1 by
      rw [hw1]
      exact (HSD.out.setB hin k).congr (fun _ _ => rfl) (fun j _ => prt_back (W := fun k => sdR F p.m p.aft (k + 1)) HK.out.symm j))
    rw [← hw1]
    clear hw1 c1 d0 z0 HSD
    have HW1 := Lib.hid (HWS.out.below (hbase ▸ HSD1.out.bel))
    obtain ⟨x0, x1, x2, x3, x4⟩ := HW1.out.box
    have hbl := HW1.out.bx.lt
    have HG := Lib.hid (wget_any OK.out HW1.out.wd (i : Int))
    rw [gtW_at hin] at HG
    unfold WdP.cs at HG
    obtain ⟨fi, hfi⟩ : ∃ x, x = F i := ⟨_, rfl⟩
    rw [← hfi] at HG
    have HST := Lib.hid (show sdR F p.m p.aft i = if 0 ≤ ctB fi then ctB fi else k by rw [sdR_step hin, ← hfi, HK.out])
    clear hfi
    go_wp2_with fail
    refine HG.out.mono ?_
    rintro e2 w2 ⟨rfl, hb2⟩
    have HSD2 := Lib.hid (HSD1.out.below hb2 (by rw [hbase]; exact HSD1.out.bel.size))
    dsimp only
    clear hb2 HG x0 x1 x2 x3 x4 hbl HW1
    have HCT := Lib.hid (counts_any fi w2)
    obtain ⟨ct, hct⟩ : ∃ x, x = ctB fi := ⟨_, rfl⟩
    rw [← hct] at HCT HST
    clear hct
    go_wp2_with fail
    refine HCT.out.mono ?_
    rintro e3 w3 ⟨rfl, rfl⟩
    dsimp only
    by_cases h0 : 0 ≤ ct
    · have HN := Lib.hid (HST.out.trans (if_pos h0))
      go_wp2_with fail
      go_roundw
      case rel => exact ⟨i, by rw [HN.out], rfl, by omega, HSD2.out⟩
      case measure => simp [intOf]
    · have HN := Lib.hid (HST.out.trans (if_neg h0))
      go_wp2_with fail
      go_roundw
      case rel => exact ⟨i, by rw [HN.out], rfl, by omega, HSD2.out⟩
      case measure => simp [intOf]
end Go.Proofs.YtojbicdmcodgdaaDoor.BD
