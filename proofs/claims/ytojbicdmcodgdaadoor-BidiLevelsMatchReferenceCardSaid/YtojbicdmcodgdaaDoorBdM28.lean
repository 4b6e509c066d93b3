/-
  BdREmbed, BdRChA, BdRChB, BdRChW.
-/
import Derived.Test.YtojbicdmcodgdaaDoorBdM27
import Derived.Deep.CutRange
import Derived.Deep.CutBlock
import Derived.Test.YtojbicdmcodgdaaDoorBdM08
import Derived.Test.YtojbicdmcodgdaaDoorBdM16
import Derived.Test.YtojbicdmcodgdaaDoorBdM17
namespace Go.Proofs.YtojbicdmcodgdaaDoor.BD
open Go.RowKit Go.Law Go.Law.Bd
set_option linter.unusedVariables false
set_option linter.unusedSimpArgs false
set_option maxRecDepth 100000
/-- what embed leaves -/
def EmPost (lo g cap n : Nat) (K T : Nat → Int) (base : Int) (w : World) (e : Ending) (w' : World) : Prop :=
  e = .returned (.tuple #[]) ∧ Ch w' lo (.slice (some ⟨g, 0, none⟩) n cap) n K (clE ⟨base, -1, false⟩ K n) (lvE ⟨base, -1, false⟩ K n) (ouE K) T ∧ Save (fun k => k = g) w w'
set_option maxHeartbeats 16000000 in
theorem embed_any (lo g cap n : Nat) (K T : Nat → Int) (base : Int) (w : World) (h : Ch w lo (.slice (some ⟨g, 0, none⟩) n cap) n K K (fun _ => 0) (fun _ => false) T) (hn : n ≤ 200) (hn0 : 0 < n) (hb : base = 0 ∨ base = 1) (hB : ∀ i, i < n → K i = 10 → i + 1 = n) :
    Calls Tryd.prog 25 #[.slice (some ⟨g, 0, none⟩) n cap, .int .i64 base] w (EmPost lo g cap n K T base w) := by
  have HI := Lib.hid (info_parts (show (Tryd.prog.info? 3).map (fun i => (i.zero, i.size, i.bytes)) = some (some (.int .i64 0), 1, 8) by kernel_rfl))
  have H := Lib.hid h
  have HBB := Lib.hid hB
  have hglt := h.lt
  unfold EmPost
  obtain ⟨b, hbd⟩ : ∃ b : Ent, b = ⟨base, -1, false⟩ := ⟨_, rfl⟩
  have HBD := Lib.hid hbd
  have HEOK := Lib.hid (fun i => est_ok (b := b) (K := K) (n := n) (by rw [hbd]) (by rw [hbd]; show 0 ≤ base ∧ base ≤ 125; omega) (by rw [hbd]) i)
  rw [← hbd]
  clear h hB hbd
  go_enter Tryd.func25, Tryd.ntmps25
  go_wp2_with fail
  go_loopw [4, 22] (fun kv iv wr => ∃ i : Nat, iv = .int .i64 i ∧ i ≤ n ∧ RowI wr w.heap.size 3 1 kv i K ∧ Below w.heap.size w wr) (fun _ iv _ => n - (intOf iv).toNat)
  case atStart => exact ⟨0, rfl, by omega, RowI.nil _ _ _ _ _, Below.refl _ _⟩
  case round =>
    obtain ⟨i, rfl, hi, hr, hb⟩ := hrel
    obtain ⟨ka, kc, rfl, hkc1, hkc2⟩ := hr.slice
    have HR := Lib.hid hr
    have HB := Lib.hid hb
    clear hr hb
    by_cases hin : i < n
    · have hch := H.out.only (w' := wr) (HB.out.block g hglt)
      obtain ⟨_, d0, d1, d2, d3, d4⟩ := hch.cells hin
      clear hch
      go_upto_region 4 with fail
      obtain ⟨w2, hw2⟩ : ∃ w2, w2 = wr.alloc (Obj.cells #[.int .i64 (K i), .int .i64 (K i), .int .i64 (0), .bool (false), .int .i64 (T i)] 49) := ⟨_, rfl⟩
      have HR2 := Lib.hid (show RowI w2 w.heap.size 3 1 (.slice ka i kc) i K by rw [hw2]; exact HR.out.alloc _)
      have HB2 := Lib.hid (show Below w.heap.size w w2 by rw [hw2]; exact HB.out.alloc HB.out.size _)
      have hb2 : Blk w2 wr.heap.size #[.int .i64 (K i), .int .i64 (K i), .int .i64 (0), .bool (false), .int .i64 (T i)] 49 := by rw [hw2]; exact Blk.new _ _ _
      obtain ⟨g2, hg2⟩ : ∃ g2, g2 = wr.heap.size := ⟨_, rfl⟩
      rw [← hg2] at hb2
      rw [← hw2, ← hg2]
      have n0 := hb2.cell (i := 0) rfl
      clear hw2 hg2 hb2 d0 d1 d2 d3 d4 HR HB
      have hsz2 := HB2.out.size
      obtain ⟨xs, hown0, hxs⟩ := HR2.out
      have hxl := hown0.1
      have HXX := Lib.hid hown0
      have HXL := Lib.hid hxl
      have HXS := Lib.hid hxs
      obtain ⟨ii, hii, hz0, hz1, hz2⟩ := HI.out
      clear hown0 hxl hxs
      go_wp2_with (at_builtin; go_loud (refine wpList_append_own _ rfl _ _ 22 rfl (w.heap.size) 3 ii _ 1 8 Tryd.underlying22 hii hz0 hz1 hz2 rfl (by decide) _ _ _ rfl (RowL.alloc HXX.out _) ⟨w2.heap.size, 0, none⟩ 1 1 [.int .i64 (K i)] rfl rfl ?k1a ?k2a ?k3a ?k4a ?k5a ?_))
      try (case k1a =>
        intro j u hj
        have e : Addr.add ⟨w2.heap.size, 0, none⟩ j = ⟨w2.heap.size, j, none⟩ := by simp [Addr.add] <;> omega
        rw [e]
        exact cellNew1 (by simpa using hj))
      try (case k2a => first | rfl | (intro u hu; simp at hu; subst hu; rfl))
      try (case k3a => unfold maxLen; (try simp); (try omega))
      try (case k4a => (try simp); (try omega))
      try (case k5a => (try simp); (try omega))
      intro v5 w5 hown hgrow _
      have HR3 := Lib.hid (show RowI w5 w.heap.size 3 1 v5 (i + 1) K from RowI.push hown HXL.out HXS.out (fun j hj => by (obtain rfl : j = 0 := by omega); rw [Nat.mul_one]; rfl) (fun _ _ => rfl))
      have HB3 := Lib.hid (below_grown HB2.out HB2.out.size _ hgrow HR2.out.ge)
      clear hown hgrow hii hz0 hz1 hz2 HXX HXS HXL HR2 HB2 n0
      go_wp2_with fail
      go_roundw
      case rel => exact ⟨i + 1, by go_num, by omega, HR3.out, HB3.out⟩
      case measure => simp [intOf]; omega
    · obtain rfl : n = i := by omega
      obtain ⟨wo, hwo⟩ : ∃ wo, wo = wr := ⟨_, rfl⟩
      subst hwo
      have HOW := Lib.hid (RowI.ints HR.out)
      have HOG := Lib.hid (fun b off (e : ka = some ⟨b, off, none⟩) => HR.out.ge b (by rw [e]; rfl))
      have HSZ := Lib.hid HB.out.size
      go_upto_region 7 with fail
      obtain ⟨p, hp⟩ : ∃ p : EmP, p = ⟨lo, g, cap, n, wo.heap.size + 1, K, T⟩ := ⟨_, rfl⟩
      obtain ⟨w3, hw3⟩ : ∃ w3, w3 = (wo.alloc (Obj.cells #[.int .i64 base, .int .i64 (-1), .bool false] 74)).alloc (Obj.cells #[.slice (some ⟨wo.heap.size, 0, none⟩) 1 1] 75) := ⟨_, rfl⟩
      have hok : EmOk p wo := by rw [hp]; exact ⟨by have := HSZ.out; show g < wo.heap.size; omega, by show wo.heap.size ≤ wo.heap.size + 1; omega⟩
      have hem : Em p b (prt (clE b K n) K 0) (prt (lvE b K n) (fun _ => 0) 0) (prtB (ouE K) (fun _ => false) 0) wo w3 (.slice (some ⟨wo.heap.size, 0, none⟩) 1 1) (estAt b K n 0).st := by
        have hch := H.out.only (w' := wo) (HB.out.block g hglt)
        rw [hp, hw3]
        refine ⟨?_, ?_, ?_, ?_⟩
        · have h1 : Ch ((wo.alloc (Obj.cells #[.int .i64 base, .int .i64 (-1), .bool false] 74)).alloc (Obj.cells #[.slice (some ⟨wo.heap.size, 0, none⟩) 1 1] 75)) lo (.slice (some ⟨g, 0, none⟩) n cap) n K K (fun _ => 0) (fun _ => false) T :=
            (hch.only (Below.heap_alloc _ _ _ hch.lt)).only (Below.heap_alloc _ _ _ (by have := hch.lt; simp; omega))
          exact h1.congr (fun j _ => (prt_zero _ _ j).symm) (fun j _ => (prt_zero _ (fun _ => 0) j).symm) (fun j _ => (prtB_zero (ouE K) (fun _ => false) j).symm)
        · have h1 : RowV (wo.alloc (Obj.cells #[.int .i64 base, .int .i64 (-1), .bool false] 74)) wo.heap.size 74 3 (.slice (some ⟨wo.heap.size, 0, none⟩) 1 1) 1 (stV b [b]) := by
            refine ⟨[.int .i64 base, .int .i64 (-1), .bool false], ⟨rfl, .inr ⟨wo.heap.size, 1, #[.int .i64 base, .int .i64 (-1), .bool false], rfl, Nat.le_refl _, by show (wo.heap.push _)[_]? = _; simp, Nat.le_refl _, by unfold maxLen; omega, rfl, rfl⟩⟩, fun i hi j hj => ?_⟩
            obtain rfl : i = 0 := by omega
            have e : ([b]).reverse.getD 0 b = b := rfl
            unfold stV
            rw [e, HBD.out]
            match j, hj with
            | 0, _ => rfl
            | 1, _ => rfl
            | 2, _ => rfl
          exact h1.below ((Below.refl _ _).alloc (Nat.le_refl _) _) (Nat.le_refl _)
        · have := Blk.new (wo.alloc (Obj.cells #[.int .i64 base, .int .i64 (-1), .bool false] 74)) #[.slice (some ⟨wo.heap.size, 0, none⟩) 1 1] 75
          have e : (wo.alloc (Obj.cells #[.int .i64 base, .int .i64 (-1), .bool false] 74)).heap.size = wo.heap.size + 1 := by simp
          rw [e] at this
          exact this
        · exact ((Save.refl _ wo).alloc _).alloc _
      have HEM := Lib.hid hem
      have hps : p.sp = wo.heap.size + 1 := by rw [hp]
      have hpg : p.g = g ∧ p.cap = cap ∧ p.n = n ∧ p.lo = lo ∧ p.K = K ∧ p.T = T := by rw [hp]; exact ⟨rfl, rfl, rfl, rfl, rfl, rfl⟩
      rw [← hw3, ← hps]
      have HOK := Lib.hid hok
      have HPG := Lib.hid hpg
      have HSV := Lib.hid HB.out
      clear hw3 hp hps hpg hem hok HR HB H
      obtain ⟨rfl, rfl, rfl, rfl, rfl, rfl⟩ := HPG.out
      clear HPG
      go_wp2_with fail
      go_loopw [8, 9, 10, 37] (fun oi oe va iv wr => ∃ (i : Nat) (sv : Value), iv = .int .i64 i ∧ i ≤ p.n ∧ oi = .int .i64 (estAt b p.K p.n i).oi ∧ oe = .int .i64 (estAt b p.K p.n i).oe ∧ va = .int .i64 (estAt b p.K p.n i).va ∧ Em p b (prt (clE b p.K p.n) p.K i) (prt (lvE b p.K p.n) (fun _ => 0) i) (prtB (ouE p.K) (fun _ => false) i) wo wr sv (estAt b p.K p.n i).st) (fun _ _ _ iv _ => p.n - (intOf iv).toNat)
      case atStart => exact ⟨0, _, rfl, by omega, rfl, rfl, rfl, HEM.out⟩
      case round =>
        clear HEM
        obtain ⟨i, sv, rfl, hi, rfl, rfl, rfl, hq⟩ := hrel
        by_cases hin : i < p.n
        · have HX0 := Lib.hid hq
          have HOGP := Lib.hid (fun bb off (e : ka = some ⟨bb, off, none⟩) => show bb ≠ p.g by have := HOG.out bb off e; omega)
          clear hq
          go_upto_block 3 with fail
          go_cut [8, 9, 10, 11, 12, 13, 14, 15, 16, 17, 18, 19] from 39 to 232 (fun oi oe va _ _ _ _ _ _ _ _ _ wx => oi = .int .i64 (estAt b p.K p.n (i + 1)).oi ∧ oe = .int .i64 (estAt b p.K p.n (i + 1)).oe ∧ va = .int .i64 (estAt b p.K p.n (i + 1)).va ∧ ∃ sv, Em p b (prt (clE b p.K p.n) p.K (i + 1)) (prt (lvE b p.K p.n) (fun _ => 0) (i + 1)) (prtB (ouE p.K) (fun _ => false) (i + 1)) wo wx sv (estAt b p.K p.n (i + 1)).st)
          case first => exact emRound HOK HEOK HOW HOGP HBD HBB HX0 hin hn hb (Lib.hid fun _ _ _ _ hd h => ⟨hd.symm.trans h.1, h.2⟩) (by assumption) (by assumption)
          case rest =>
          obtain ⟨rfl, rfl, rfl, sv2, hx⟩ := hcut
          have HXX := Lib.hid hx
          clear hx HX0
          go_wp2_with fail
          go_roundw
          case rel => exact ⟨i + 1, sv2, by go_num, by omega, rfl, rfl, rfl, HXX.out⟩
          case measure => simp [intOf]; omega
        · obtain rfl : p.n = i := by omega
          have HX := Lib.hid hq
          clear hq
          go_wp2_with fail
          first | go_end0 | (simp only [Exit.inBlock, Exit.then]; refine bodyPost_ret (results_none rfl _ _ _) rfl ?_) | refine bodyPost_ret (results_none rfl _ _ _) rfl ?_
          exact ⟨rfl, HX.out.ch.congr (fun j hj => prt_lt hj) (fun j hj => prt_lt hj) (fun j hj => prtB_lt hj), (Save.of_below HSV.out (Nat.le_refl _)).trans HX.out.sv⟩
set_option maxHeartbeats 8000000 in
theorem chRuns {lo g0 cap n kc : Nat} {K C V T : Nat → Int} {O : Nat → Bool} {w : World} {ow : Value} (H : Hid (Ch w lo (.slice (some ⟨g0, 0, none⟩) n cap) n K C V O T)) (hn2 : n ≤ 200)
    {s1 s2 s4 s5 s7 s8 s9 s10 s11 s12 s13 s14 s15 s16 s17 s18 s19 s20 s21 s22 s23 s24 s25 s26 s27 s31 s32 s33 s34 s35 s36 s37 s38 s39 s40 s41 s42 s43 s44 s45 s46 s47 s48 s49 s50 s51 s52 s53 s54 s55 s56 s57 s58 s59 s60 s61 s62 s63 s64 s65 s66 s67 s68 s69 s70 s71 s72 s73 s74 s75 s76 s77 s78 s79 s80 s81 s82 s83 s84 s85 s86 s87 s88 s89 s90 s91 s92 s93 s94 s95 s96 s97 s98 s99 s100 s101 s102 s103 s104 s105 s106 s107 s108 s109 s110 s111 s112 s113 s114 s115 s116 s117 s118 s119 s120 s121 s122 s123 s124 s125 s126 s127 s128 s129 s130 : Value} {J K' : Act → World → Prop} {Q : Exit → Act → World → Prop}
    (hJ : ∀ (a' : Act) (w' : World), (∃ u6 u7 u8 u9 u30 u31 u32 u33 u34 u35 u36 u37 u38 u39 u40 u41 u42 u43 u44 u45 u46 u47 u48 u49 u50 u51 u52 u53 u54 u55 u56 u57 u58 u59 u60 u61 u62 u63 u64 u65 u66 u67 u68 u69 u70 u71 u72 u73 u74 : Value, (∃ I, Below w.heap.size w w' ∧ NsI w' w.heap.size u6 (rnsAt O V n) I) ∧ a' = ⟨#[.slice (some ⟨g0, 0, none⟩) n cap, s1, s2, ow, s4, s5, u6, u7, u8, u9, s10, s11, s12, s13, s14, s15, s16, s17, s18, s19, s20, s21, s22, s23, s24, s25, s26, s27, .slice (some ⟨g0, 0, none⟩) n cap, .int .i64 n, u30, u31, u32, u33, u34, u35, u36, u37, u38, u39, u40, u41, u42, u43, u44, u45, u46, u47, u48, u49, u50, u51, u52, u53, u54, u55, u56, u57, u58, u59, u60, u61, u62, u63, u64, u65, u66, u67, u68, u69, u70, u71, u72, u73, u74, s75, s76, s77, s78, s79, s80, s81, s82, s83, s84, s85, s86, s87, s88, s89, s90, s91, s92, s93, s94, s95, s96, s97, s98, s99, s100, s101, s102, s103, s104, s105, s106, s107, s108, s109, s110, s111, s112, s113, s114, s115, s116, s117, s118, s119, s120, s121, s122, s123, s124, s125, s126, s127, s128, s129, s130], []⟩) → J a' w')
    (hK : ∀ (a' : Act) (w' : World), Met J a' w' → K' a' w') :
    Code.wp Tryd.prog (theBlk Tryd.f26 2) (Exit.then K' Q) ⟨#[.slice (some ⟨g0, 0, none⟩) n cap, s1, s2, ow, s4, s5, .slice none 0 0, s7, s8, s9, s10, s11, s12, s13, s14, s15, s16, s17, s18, s19, s20, s21, s22, s23, s24, s25, s26, s27, .slice (some ⟨g0, 0, none⟩) n cap, .int .i64 n, .int .i64 0, s31, s32, s33, s34, s35, s36, s37, s38, s39, s40, s41, s42, s43, s44, s45, s46, s47, s48, s49, s50, s51, s52, s53, s54, s55, s56, s57, s58, s59, s60, s61, s62, s63, s64, s65, s66, s67, s68, s69, s70, s71, s72, s73, s74, s75, s76, s77, s78, s79, s80, s81, s82, s83, s84, s85, s86, s87, s88, s89, s90, s91, s92, s93, s94, s95, s96, s97, s98, s99, s100, s101, s102, s103, s104, s105, s106, s107, s108, s109, s110, s111, s112, s113, s114, s115, s116, s117, s118, s119, s120, s121, s122, s123, s124, s125, s126, s127, s128, s129, s130], []⟩ w := by
  have hglt := H.out.lt
  conv => arg 2; whnf
  go_wp2_with fail
  go_loopw [6, 30] (fun v iv wr => ∃ (i : Nat) (I : Nat → Value), iv = .int .i64 i ∧ i ≤ n ∧ Below w.heap.size w wr ∧ NsI wr w.heap.size v (rnsAt O V i) I) (fun _ iv _ => n - (intOf iv).toNat)
  case atStart => exact ⟨0, fun _ => .slice none 0 0, rfl, by omega, Below.refl _ _, NsI.nil _ _ _⟩
  case round =>
    obtain ⟨i, I, rfl, hi, hbel, hns⟩ := hrel
    obtain ⟨ra, rc, hv, hrc1, hrc2⟩ := hns.out.slice
    subst hv
    have hrl := rns_len (O := O) (L := V) i
    by_cases hin : i < n
    · have hch := H.out.only (w' := wr) (hbel.block g0 hglt)
      obtain ⟨_, d0, d1, d2, d3, d4⟩ := hch.cells hin
      have HB0 := Lib.hid hbel
      have HNS0 := Lib.hid hns
      obtain ⟨o, ho⟩ : ∃ o, o = O i := ⟨_, rfl⟩
      rw [← ho] at d3
      have HO := Lib.hid ho
      obtain ⟨LB, hLB⟩ : ∃ LB, LB = V i := ⟨_, rfl⟩
      rw [← hLB] at d2
      have HLB := Lib.hid hLB
      clear ho hLB hch hbel hns
      go_upto_region 11 with fail
      obtain ⟨w2, hw2⟩ : ∃ w2, w2 = wr.alloc (Obj.cells #[.int .i64 (K i), .int .i64 (C i), .int .i64 LB, .bool o, .int .i64 (T i)] 49) := ⟨_, rfl⟩
      have HNS := Lib.hid (show NsI w2 w.heap.size (.slice ra (rnsAt O V i).length rc) (rnsAt O V i) I by rw [hw2]; exact HNS0.out.under ((Below.refl _ _).alloc (Nat.le_refl _) _) (Nat.le_refl _))
      have HB := Lib.hid (show Below w.heap.size w w2 by rw [hw2]; exact HB0.out.alloc HB0.out.size _)
      have hb2 : Blk w2 wr.heap.size #[.int .i64 (K i), .int .i64 (C i), .int .i64 LB, .bool o, .int .i64 (T i)] 49 := by rw [hw2]; exact Blk.new _ _ _
      obtain ⟨g2, hg2⟩ : ∃ g2, g2 = wr.heap.size := ⟨_, rfl⟩
      rw [← hg2] at hb2
      rw [← hw2, ← hg2]
      have n2 := hb2.cell (i := 2) rfl
      have n3 := hb2.cell (i := 3) rfl
      have hsz2 := HB.out.size
      clear hw2 hg2 hb2 d0 d1 d2 d3 d4 HNS0 HB0
      cases o with
      | true =>
        have HR := Lib.hid (show rnsAt O V (i + 1) = rnsAt O V i by rw [rnsAt, if_pos HO.out.symm])
        go_wp2_with fail
        go_roundw
        case rel => exact ⟨i + 1, I, by go_num, by omega, HB.out, by rw [HR.out]; exact HNS.out⟩
        case measure => simp [intOf]; omega
      | false =>
        have hO2 : O i ≠ true := by rw [← HO.out]; decide
        by_cases hR : rnsAt O V i = []
        · have HR := Lib.hid (show rnsAt O V (i + 1) = rnsAt O V i ++ [[i]] by rw [rnsAt, if_neg hO2, if_neg (fun h => h.1 hR)])
          have hl0 : (rnsAt O V i).length = 0 := by rw [hR]; rfl
          rw [hl0] at hrc1
          have HL0 := Lib.hid hl0
          rw [hl0]
          clear hO2 hR hl0
          go_wp2_with fail
          go_quiet (fail)
          obtain ⟨wq, hwq⟩ : ∃ wq, wq = w2.drewN nq := ⟨_, rfl⟩
          have HNQ := Lib.hid (show NsI wq w.heap.size (.slice ra 0 rc) (rnsAt O V i) I by rw [hwq]; have := HNS.out.drewN nq; rw [HL0.out] at this; exact this)
          have HBQ := Lib.hid (show Below w.heap.size w wq by rw [hwq]; exact below_drewN HB.out nq)
          rw [← hwq]
          clear hwq HNS HB n2 n3
          replace HNS := HNQ
          obtain ⟨xs, hown0, hxl, hxs⟩ := HNS.out.out.own
          have HX := Lib.hid hown0
          have HXL := Lib.hid hxl
          have HXS := Lib.hid hxs
          obtain ⟨ii, hii, hz0, hz1, hz2⟩ := info_parts (show (Tryd.prog.info? 22).map (fun i => (i.zero, i.size, i.bytes)) = some (some (.slice none 0 0), 1, 24) by kernel_rfl)
          have hlowq := HBQ.out.size
          clear hown0 hxl hxs
          go_wp2_with (at_builtin; go_loud (refine wpList_append_own _ rfl _ _ 52 rfl (w.heap.size) 22 ii _ 1 24 Tryd.underlying52 hii hz0 hz1 hz2 rfl (by decide) _ _ _ rfl (RowL.alloc (RowL.alloc HX.out _) _) ⟨wq.heap.size + 1, 0, none⟩ 1 1 [.slice (some ⟨wq.heap.size, 0, none⟩) 1 1] rfl rfl ?k1a ?k2a ?k3a ?k4a ?k5a ?_))
          try (case k1a =>
            intro j u hj
            have e : Addr.add ⟨wq.heap.size + 1, 0, none⟩ j = ⟨(wq.alloc (Obj.cells #[.int .i64 (i : Int)] 3)).heap.size, j, none⟩ := by simp [Addr.add] <;> omega
            rw [e]
            exact cellNewS (by simpa using hj))
          try (case k2a => first | rfl | (intro u hu; simp at hu; subst hu; rfl))
          try (case k3a => unfold maxLen; (try simp); (try omega))
          try (case k4a => (try simp); (try omega))
          try (case k5a => (try simp); (try omega))
          intro v5 w5 hown hgrow _
          have HN5 := Lib.hid (HNS.out.push (w' := (wq.alloc (Obj.cells #[.int .i64 (i : Int)] 3)).alloc (Obj.cells #[.slice (some ⟨wq.heap.size, 0, none⟩) 1 1] 22)) (x := i) (g := wq.heap.size)
            (((Below.refl _ _).alloc (Nat.le_refl _) _).alloc (by simp) _) ((Blk.new _ _ _).alloc _) hlowq hgrow (by first | exact hown | (simp only [List.length_append, List.length_cons, List.length_nil]; exact hown)) HXL.out HXS.out)
          have HB5 := Lib.hid (Below.grown ((HBQ.out.alloc hlowq _).alloc (by simp; omega) _) hgrow (by simp; omega) (fun k hk => HNS.out.out.ge k hk))
          rw [← HR.out] at HN5
          clear hown hgrow hii hz0 hz1 hz2 HX HXS HXL HNS
          go_wp2_with fail
          go_roundw
          case rel => exact ⟨i + 1, _, by go_num, by omega, HB5.out, HN5.out⟩
          case measure => simp [intOf]; omega
        · obtain ⟨r, l, hrl2⟩ : ∃ r l, rnsAt O V i = r ++ [l] := ⟨(rnsAt O V i).dropLast, (rnsAt O V i).getLast hR, (List.dropLast_concat_getLast hR).symm⟩
          have hok := rns_ok (O := O) (L := V) i
          have hGl : rnG (r ++ [l]) r.length = l := by unfold rnG; rw [List.getD_eq_getElem?_getD, List.getElem?_append_right (Nat.le_refl _)]; simp
          have hst : rnsAt O V (i + 1) = if V (l.headD 0) = V i then r ++ [l ++ [i]] else (r ++ [l]) ++ [[i]] := by
            have e1 : (rnsAt O V i).getLastD [] = l := by rw [hrl2]; simp
            rw [rnsAt, if_neg hO2, e1]
            by_cases hh : V (l.headD 0) = V i
            · rw [if_pos ⟨hR, hh⟩, if_pos hh, hrl2]; simp
            · rw [if_neg (fun h => hh h.2), if_neg hh, hrl2]
          rw [hrl2] at hok HNS hrl hrc1 ⊢
          have hlen : (r ++ [l]).length = r.length + 1 := by simp
          rw [hlen] at hrl hrc1 ⊢
          have HST := Lib.hid hst
          have HOK := Lib.hid hok
          have hpl := rns_place hok (p := r.length) (by omega) (x := l.headD 0) (by rw [hGl]; exact headD_mem (by rw [← hGl]; exact rn_in hok (by omega)))
          have hl0 : 0 < l.length := by have := rn_in hok (p := r.length) (by omega); rw [hGl] at this; exact List.length_pos_iff.2 this
          obtain ⟨g, cap, hv, hgb, _, _, _, hfz, hcc⟩ := RowV.at HNS.out.out (by omega)
          rw [hlen] at hv
          cases hv
          have m1 := hcc r.length (by omega) 0 (by omega)
          rw [Nat.mul_one, Nat.add_zero] at m1
          have hin2 := HNS.out.inn r.length (by omega)
          rw [hGl] at hin2
          obtain ⟨gk, ck, hvk, hgkb, _, hck1, hck2, _, hck⟩ := RowI.at hin2 hl0
          have m2 := hck 0 (by omega)
          rw [hvk] at m1
          obtain ⟨x0, hx0⟩ : ∃ x0, x0 = l.headD 0 := ⟨_, rfl⟩
          rw [show plF l 0 = (x0 : Nat) by rw [hx0]; unfold plF; cases l with | nil => simp at hl0 | cons a t => rfl] at m2
          rw [← hx0] at hpl HST
          have hxn : x0 < n := by omega
          have hll : l.length ≤ 1000 := by
            have hnd := List.Pairwise.sublist (List.sublist_flatten_of_mem (show l ∈ r ++ [l] by simp)) (show ((r ++ [l]).flatten).Pairwise (· < ·) by rw [hok.flat]; exact (List.pairwise_lt_range).filter _)
            have hle : l.length ≤ ((r ++ [l]).flatten).length := (List.sublist_flatten_of_mem (show l ∈ r ++ [l] by simp)).length_le
            rw [hok.flat] at hle
            have := List.length_filter_le (fun x => !O x) (List.range i)
            rw [List.length_range] at this
            omega
          have hch := H.out.only (w' := w2) (HB.out.block g0 hglt)
          obtain ⟨_, _, _, d2, _, _⟩ := hch.cells hxn
          have HVK := Lib.hid hvk
          have HGL := Lib.hid hGl
          have HIN := Lib.hid hin2
          obtain ⟨T, hT⟩ : ∃ T, T = r.length := ⟨_, rfl⟩
          rw [← hT] at m1 hrl hrc1 ⊢
          have HT := Lib.hid hT
          have e1 : (T : Int) + 1 - 1 = (T : Int) := by omega
          have hT0 : (0 : Int) < (T : Int) + 1 := by omega
          have hTz : (0 : Int) ≤ (T : Int) := by omega
          have hTl : (T : Int) < (T : Int) + 1 := by omega
          have hw9 := IntWalk.i64_in (T : Int) (by omega)
          have hx0i : (x0 : Int) < (n : Int) := by omega
          have hl0i : (0 : Int) < (l.length : Int) := by omega
          obtain ⟨LA, hLA⟩ : ∃ LA, LA = V x0 := ⟨_, rfl⟩
          rw [← hLA] at d2
          have HLA := Lib.hid hLA
          have HSZ := Lib.hid hlen
          clear hrl2 hst hlen hGl hin2 hvk hx0 hT hLA hch hcc hck hfz hR hO2 hok
          by_cases hab : LA = LB
          · have HR := Lib.hid (show rnsAt O V (i + 1) = r ++ [l ++ [i]] by rw [HST.out, if_pos (by rw [← HLA.out, ← HLB.out]; exact hab)])
            have hab2 : (LA == LB) = true := by simpa using hab
            clear hab
            go_wp2_with fail
            go_quiet (fail)
            obtain ⟨wq, hwq⟩ : ∃ wq, wq = w2.drewN nq := ⟨_, rfl⟩
            have HNQ := Lib.hid (show NsI wq w.heap.size (.slice (some ⟨g, 0, none⟩) (T + 1) rc) (r ++ [l]) I by rw [hwq, HT.out]; have := HNS.out.drewN nq; rw [HSZ.out] at this; exact this)
            have HBQ := Lib.hid (show Below w.heap.size w wq by rw [hwq]; exact below_drewN HB.out nq)
            have HIQ := Lib.hid (show RowI wq w.heap.size 3 1 (.slice (some ⟨gk, 0, none⟩) l.length ck) l.length (plF l) by rw [hwq, ← HVK.out]; exact HIN.out.drewN nq)
            rw [← hwq]
            have m1q : wq.cell? ⟨g, T, none⟩ = some (.slice (some ⟨gk, 0, none⟩) l.length ck) := by rw [hwq]; exact m1
            have hglt : g < wq.heap.size := lt_of_cell m1q
            have hlowq := HBQ.out.size
            clear hwq HNS HB d2 n2 n3 m1 m2 HIN
            obtain ⟨xs, hown0, hxs⟩ := HIQ.out
            have hxl : xs.length = l.length * 1 := hown0.1
            have HX := Lib.hid hown0
            have HXL := Lib.hid hxl
            have HXS := Lib.hid hxs
            obtain ⟨ii, hii, hz0, hz1, hz2⟩ := info_parts (show (Tryd.prog.info? 3).map (fun i => (i.zero, i.size, i.bytes)) = some (some (.int .i64 0), 1, 8) by kernel_rfl)
            clear hown0 hxl hxs
            go_wp2_with (at_builtin; go_loud (refine wpList_append_own _ rfl _ _ 22 rfl (w.heap.size) 3 ii _ 1 8 Tryd.underlying22 hii hz0 hz1 hz2 rfl (by decide) _ _ _ rfl (RowL.alloc HX.out _) ⟨wq.heap.size, 0, none⟩ 1 1 [.int .i64 (i : Int)] rfl rfl ?j1 ?j2 ?j3 ?j4 ?j5 ?_))
            try (case j1 =>
              intro j u hj
              have e : Addr.add ⟨wq.heap.size, 0, none⟩ j = ⟨wq.heap.size, j, none⟩ := by simp [Addr.add] <;> omega
              rw [e]
              exact cellNewS (by simpa using hj))
            try (case j2 => first | rfl | (intro u hu; simp at hu; subst hu; rfl))
            try (case j3 => unfold maxLen; (try simp); (try omega))
            try (case j4 => (try simp); (try omega))
            try (case j5 => (try simp); (try omega))
            intro v5 w5 hown hgrow _
            have hge : g ≠ gk := fun e => rowIV_ne (v := .slice (some ⟨gk, 0, none⟩) l.length ck) HIQ.out HNQ.out.out (by decide) (k := g) (by rw [e]; simp [Value.ownBlock]) (by simp [Value.ownBlock])
            have hkeep : w5.heap[g]? = wq.heap[g]? := by
              have h1 := hgrow.block g (by simp; omega) (fun e => hge (by simpa [Value.ownBlock] using e))
              rw [h1]
              exact Below.heap_alloc _ _ _ hglt
            have m5 : w5.cell? ⟨g, T, none⟩ = some (.slice (some ⟨gk, 0, none⟩) l.length ck) := (World.cell?_of_block (w := wq) hkeep).trans m1q
            have z5 : w5.frozen? ⟨g, T, none⟩ = false := (World.frozen?_of_block (w := wq) hkeep).trans (RowV.frozenAt (by have := HNQ.out.out; rw [HSZ.out, ← HT.out] at this; exact this) (by omega) T)
            have HN5 := Lib.hid (NsI.grow (x := i) (u' := v5) (g := g) (cap := rc) (o := Obj.cells #[.int .i64 (i : Int)] 3) (w := wq) (w1 := w5) (by rw [HSZ.out, ← HT.out]; exact HNQ.out) HOK.out (by rw [HVK.out]; exact hgrow) hown HXL.out HXS.out)
            have HB5 := Lib.hid (Below.grown (HBQ.out.alloc hlowq _) hgrow (by simp; omega) (fun k hk => HIQ.out.ge k hk))
            have hgb5 : w.heap.size ≤ g := hgb
            rw [← HT.out] at HN5
            obtain ⟨a5, c5, hv5, _, _⟩ := RowL.slice hown
            subst hv5
            clear hown hgrow hii hz0 hz1 hz2 HX HXS HXL hkeep m1q
            go_wp2_with fail
            go_roundw
            case rel => exact ⟨i + 1, _, by go_num, by omega, HB5.out.setCell hgb5 _, by rw [HR.out]; have := HN5.out; rw [show (r ++ [l ++ [i]]).length = T + 1 by rw [HT.out]; simp] at this; exact this⟩
            case measure => simp [intOf]; omega
          · have HR := Lib.hid (show rnsAt O V (i + 1) = (r ++ [l]) ++ [[i]] by rw [HST.out, if_neg (by rw [← HLA.out, ← HLB.out]; exact hab)])
            have hab2 : (LA == LB) = false := by simpa using hab
            clear hab
            go_wp2_with fail
            go_quiet (fail)
            obtain ⟨wq, hwq⟩ : ∃ wq, wq = w2.drewN nq := ⟨_, rfl⟩
            have HNQ := Lib.hid (show NsI wq w.heap.size (.slice (some ⟨g, 0, none⟩) (T + 1) rc) (r ++ [l]) I by rw [hwq, HT.out]; have := HNS.out.drewN nq; rw [HSZ.out] at this; exact this)
            have HBQ := Lib.hid (show Below w.heap.size w wq by rw [hwq]; exact below_drewN HB.out nq)
            have hrl4 : r.length + 1 ≤ i := by rw [← HT.out]; exact hrl
            rw [← hwq]
            clear hwq HNS HB d2 n2 n3 m1 m2
            replace HNS := HNQ
            obtain ⟨xs, hown0, hxl, hxs⟩ := HNS.out.out.own
            have HX := Lib.hid hown0
            have HXL := Lib.hid hxl
            have HXS := Lib.hid hxs
            obtain ⟨ii, hii, hz0, hz1, hz2⟩ := info_parts (show (Tryd.prog.info? 22).map (fun i => (i.zero, i.size, i.bytes)) = some (some (.slice none 0 0), 1, 24) by kernel_rfl)
            have hlowq := HBQ.out.size
            clear hown0 hxl hxs
            go_wp2_with (at_builtin; go_loud (refine wpList_append_own _ rfl _ _ 52 rfl (w.heap.size) 22 ii _ 1 24 Tryd.underlying52 hii hz0 hz1 hz2 rfl (by decide) _ _ _ rfl (RowL.alloc (RowL.alloc HX.out _) _) ⟨wq.heap.size + 1, 0, none⟩ 1 1 [.slice (some ⟨wq.heap.size, 0, none⟩) 1 1] rfl rfl ?k1b ?k2b ?k3b ?k4b ?k5b ?_))
            try (case k1b =>
              intro j u hj
              have e : Addr.add ⟨wq.heap.size + 1, 0, none⟩ j = ⟨(wq.alloc (Obj.cells #[.int .i64 (i : Int)] 3)).heap.size, j, none⟩ := by simp [Addr.add] <;> omega
              rw [e]
              exact cellNewS (by simpa using hj))
            try (case k2b => first | rfl | (intro u hu; simp at hu; subst hu; rfl))
            try (case k3b => unfold maxLen; (try simp); (try omega))
            try (case k4b => (try simp); (try omega))
            try (case k5b => (try simp); (try omega))
            intro v5 w5 hown hgrow _
            have HN5 := Lib.hid (HNS.out.push (w' := (wq.alloc (Obj.cells #[.int .i64 (i : Int)] 3)).alloc (Obj.cells #[.slice (some ⟨wq.heap.size, 0, none⟩) 1 1] 22)) (x := i) (g := wq.heap.size)
              (((Below.refl _ _).alloc (Nat.le_refl _) _).alloc (by simp) _) ((Blk.new _ _ _).alloc _) hlowq hgrow (by first | exact hown | (simp only [List.length_append, List.length_cons, List.length_nil]; exact hown)) HXL.out HXS.out)
            have HB5 := Lib.hid (Below.grown ((HBQ.out.alloc hlowq _).alloc (by simp; omega) _) hgrow (by simp; omega) (fun k hk => HNS.out.out.ge k hk))
            rw [← HR.out] at HN5
            clear hown hgrow hii hz0 hz1 hz2 HX HXS HXL HNS
            go_wp2_with fail
            go_roundw
            case rel => exact ⟨i + 1, _, by go_num, by omega, HB5.out, HN5.out⟩
            case measure => simp [intOf]; omega
    · obtain rfl : i = n := by omega
      have HB := Lib.hid hbel
      have HNS := Lib.hid hns
      clear hbel hns
      go_wp2_with fail
      go_meet
      exact ⟨I, HB.out, HNS.out⟩
set_option maxHeartbeats 8000000 in
theorem chOut {n base rc kc : Nat} {K : Nat → Int} {O : Nat → Bool} {R : List (List Nat)} {I : Nat → Value} {w : World} {ra ka : Option Addr} {lv : Value} (HNS : Hid (NsI w base (.slice ra R.length rc) R I)) (HOK : Hid (RnsOk O n R)) (HOW : Hid (IntsF w ka n K)) (hn2 : n ≤ 200) (hRl : R.length ≤ n)
    {s1 s2 s4 s5 s7 s8 s9 s11 s12 s13 s14 s15 s16 s17 s18 s19 s20 s21 s22 s23 s24 s25 s26 s27 s28 s29 s30 s31 s32 s33 s34 s35 s36 s37 s38 s39 s40 s41 s42 s43 s44 s45 s46 s47 s48 s49 s50 s51 s52 s53 s54 s55 s56 s57 s58 s59 s60 s61 s62 s63 s64 s65 s66 s67 s68 s69 s70 s71 s72 s73 s74 s78 s79 s80 s81 s82 s83 s84 s85 s86 s87 s88 s89 s90 s91 s92 s93 s94 s95 s96 s97 s98 s99 s100 s101 s102 s103 s104 s105 s106 s107 s108 s109 s110 s111 s112 s113 s114 s115 s116 s117 s118 s119 s120 s121 s122 s123 s124 s125 s126 s127 s128 s129 s130 : Value} {J K' : Act → World → Prop} {Q : Exit → Act → World → Prop}
    (hJ : ∀ (a' : Act) (w' : World), (∃ u10 u12 u13 u14 u15 u77 u78 u79 u80 u81 u82 u83 u84 u85 u86 u87 u88 u89 u90 u91 u92 u93 u94 u95 u96 u97 u98 u99 u100 u101 u102 u103 u104 u105 u106 u107 u108 u109 u110 u111 u112 u113 u114 u115 u116 u117 u118 u119 u120 u121 u122 u123 u124 u125 u126 u127 u128 u129 : Value, (∃ I', Below w.heap.size w w' ∧ NsI w' w.heap.size u10 (outB K n R R.length) I') ∧ a' = ⟨#[lv, s1, s2, .slice ka n kc, s4, s5, .slice ra R.length rc, s7, s8, s9, u10, s11, u12, u13, u14, u15, s16, s17, s18, s19, s20, s21, s22, s23, s24, s25, s26, s27, s28, s29, s30, s31, s32, s33, s34, s35, s36, s37, s38, s39, s40, s41, s42, s43, s44, s45, s46, s47, s48, s49, s50, s51, s52, s53, s54, s55, s56, s57, s58, s59, s60, s61, s62, s63, s64, s65, s66, s67, s68, s69, s70, s71, s72, s73, s74, .slice ra R.length rc, .int .i64 R.length, u77, u78, u79, u80, u81, u82, u83, u84, u85, u86, u87, u88, u89, u90, u91, u92, u93, u94, u95, u96, u97, u98, u99, u100, u101, u102, u103, u104, u105, u106, u107, u108, u109, u110, u111, u112, u113, u114, u115, u116, u117, u118, u119, u120, u121, u122, u123, u124, u125, u126, u127, u128, u129, s130], []⟩) → J a' w')
    (hK : ∀ (a' : Act) (w' : World), Met J a' w' → K' a' w') :
    Code.wp Tryd.prog (theBlk Tryd.f26 4) (Exit.then K' Q) ⟨#[lv, s1, s2, .slice ka n kc, s4, s5, .slice ra R.length rc, s7, s8, s9, .slice none 0 0, s11, s12, s13, s14, s15, s16, s17, s18, s19, s20, s21, s22, s23, s24, s25, s26, s27, s28, s29, s30, s31, s32, s33, s34, s35, s36, s37, s38, s39, s40, s41, s42, s43, s44, s45, s46, s47, s48, s49, s50, s51, s52, s53, s54, s55, s56, s57, s58, s59, s60, s61, s62, s63, s64, s65, s66, s67, s68, s69, s70, s71, s72, s73, s74, .slice ra R.length rc, .int .i64 R.length, .int .i64 0, s78, s79, s80, s81, s82, s83, s84, s85, s86, s87, s88, s89, s90, s91, s92, s93, s94, s95, s96, s97, s98, s99, s100, s101, s102, s103, s104, s105, s106, s107, s108, s109, s110, s111, s112, s113, s114, s115, s116, s117, s118, s119, s120, s121, s122, s123, s124, s125, s126, s127, s128, s129, s130], []⟩ w := by
  conv => arg 2; whnf
  go_wp2_with fail
  go_loopw [10, 77] (fun v jv wr => ∃ (j : Nat) (I2 : Nat → Value), jv = .int .i64 j ∧ j ≤ R.length ∧ Below w.heap.size w wr ∧ NsI wr w.heap.size v (outB K n R j) I2) (fun _ jv _ => R.length - (intOf jv).toNat)
  case atStart => exact ⟨0, fun _ => .slice none 0 0, rfl, by omega, Below.refl _ _, by rw [outB_zero]; exact NsI.nil _ _ _⟩
  case round =>
    obtain ⟨j, I2, rfl, hj, hbel, hns⟩ := hrel
    obtain ⟨oa, oc, hv, hoc1, hoc2⟩ := hns.out.slice
    subst hv
    have HB := Lib.hid hbel
    have HN := Lib.hid hns
    clear hns
    by_cases hjR : j < R.length
    · obtain ⟨g, gk, ck, hra, _, _, hIj, m1w, hck1, hck2, hgk, hl0, hgne, hm2⟩ := HNS.out.row HOK.out.hd hjR
      have hrl := rn_len HOK.out hjR
      have hx0 := (rns_place HOK.out hjR (rn_head HOK.out hjR)).1
      have h00 := hm2 0 hl0
      rw [plF_head (rn_in HOK.out hjR)] at h00
      obtain ⟨x0, hx0e⟩ : ∃ x, x = (rnG R j).headD 0 := ⟨_, rfl⟩
      rw [← hx0e] at hx0 h00
      have HX0 := Lib.hid hx0e
      obtain ⟨len, hlen⟩ : ∃ l, l = (rnG R j).length := ⟨_, rfl⟩
      rw [← hlen] at m1w hck1 hl0 hrl hm2
      have HLEN := Lib.hid hlen
      have HCEL := Lib.hid (show ∀ wx, Below w.heap.size w wx → ∀ t, t < len → wx.cell? ⟨gk, t, none⟩ = some (.int .i64 (plF (rnG R j) t)) from fun wx hx t ht => bel_cell3 hx (hm2 t ht))
      have HH0 := Lib.hid (show ∀ wx, Below w.heap.size w wx → wx.cell? ⟨gk, 0, none⟩ = some (.int .i64 (x0 : Nat)) from fun wx hx => bel_cell3 hx h00)
      have m1 := bel_cell3 hbel m1w
      subst hra
      have hOL := outB_le (K := K) (n := n) (R := R) (j := j)
      have HOH := Lib.hid (outB_hd (K := K) HOK.out (Nat.le_of_lt hjR))
      obtain ⟨M, hM⟩ : ∃ M, M = (outB K n R j).length := ⟨_, rfl⟩
      rw [← hM] at hOL hoc1
      rw [← hM] at HN
      have HM := Lib.hid hM
      have hji : (j : Int) < (R.length : Int) := by omega
      rw [← hM]
      clear hlen hm2 h00 m1w hx0e hIj hgne hbel hM
      go_upto_block 6 with fail
      go_cut [13, 14, 15] from 83 to 121 (fun jn _ _ wx => Below w.heap.size w wx ∧ ((jn = .bool true ∧ ∃ I', NsI wx w.heap.size (.slice oa M oc) (outB K n R (j + 1)) I') ∨ (jn = .bool false ∧ outB K n R (j + 1) = outB K n R j ++ [rnG R j] ∧ NsI wx w.heap.size (.slice oa M oc) (outB K n R j) I2)))
      case first =>
        go_wp2_with fail
        go_loopw [13, 83] (fun jn kv wx => ∃ k : Nat, jn = .bool false ∧ kv = .int .i64 k ∧ k ≤ M ∧ (∀ t, t < k → ¬ (isoB (K ((rnG (outB K n R j) t).getLastD 0)) = true ∧ partner K n ((rnG (outB K n R j) t).getLastD 0) = (rnG R j).headD 0)) ∧ Below w.heap.size w wx ∧ NsI wx w.heap.size (.slice oa M oc) (outB K n R j) I2) (fun _ kv _ => M - (intOf kv).toNat)
        case atStart => exact ⟨0, rfl, rfl, by omega, fun t ht => by omega, HB.out, HN.out⟩
        case round =>
          obtain ⟨k, rfl, rfl, hk, hno, hbel, hns⟩ := hrel
          have HNO := Lib.hid hno
          have HBX := Lib.hid hbel
          have HNX := Lib.hid hns
          clear hno m1 HB HN
          by_cases hkM : k < M
          · have hkl : k < (outB K n R j).length := by rw [← HM.out]; exact hkM
            rw [HM.out] at hns
            obtain ⟨go, g2, c2, hoa, hgob, hzo, hIk, o1, hc1, hc2, hg2, hl2, hgne, ho2⟩ := hns.row HOH.out hkl
            have hrl2 := outB_rowlen (K := K) HOK.out (Nat.le_of_lt hjR) hkl
            obtain ⟨x, hxk, hxm, hzn, hask⟩ := outB_ask (K := K) HOK.out hjR hkl
            have o2 := ho2 ((rnG (outB K n R j) k).length - 1) (by omega)
            rw [plF_last (HOH.out.ne k hkl)] at o2
            have HASK := Lib.hid (show (isoB (K ((rnG (outB K n R j) k).getLastD 0)) = true ∧ partner K n ((rnG (outB K n R j) k).getLastD 0) = (rnG R j).headD 0) → outB K n R (j + 1) = (outB K n R j).set k (rnG (outB K n R j) k ++ rnG R j) from fun h => outB_join HOK.out hjR hkl h)
            have HNO2 := Lib.hid (show ¬ (isoB (K ((rnG (outB K n R j) k).getLastD 0)) = true ∧ partner K n ((rnG (outB K n R j) k).getLastD 0) = (rnG R j).headD 0) → ∀ t, t < k + 1 → ¬ (isoB (K ((rnG (outB K n R j) t).getLastD 0)) = true ∧ partner K n ((rnG (outB K n R j) t).getLastD 0) = (rnG R j).headD 0) from fun h t ht => by
              by_cases e : t = k
              · rw [e]; exact h
              · exact HNO.out t (by omega))
            obtain ⟨z, hz⟩ : ∃ z, z = (rnG (outB K n R j) k).getLastD 0 := ⟨_, rfl⟩
            rw [← hz] at o2 hzn HASK HNO2
            rw [← HX0.out] at HASK HNO2
            obtain ⟨l2, hl2e⟩ : ∃ l, l = (rnG (outB K n R j) k).length := ⟨_, rfl⟩
            rw [← hl2e] at o1 o2 hc1 hl2 hrl2
            have HL2 := Lib.hid hl2e
            have HO2 := Lib.hid ho2
            have HIK := Lib.hid hIk
            subst hoa
            have e1 : (l2 : Int) - 1 = ((l2 - 1 : Nat) : Int) := by omega
            have hw9 := IntWalk.i64_in ((l2 - 1 : Nat) : Int) (by omega)
            have hq1 : ((l2 - 1 : Nat) : Int) < (l2 : Int) := by omega
            have hq2 : (0 : Int) ≤ ((l2 - 1 : Nat) : Int) := by omega
            have hzi : (z : Int) < (n : Int) := by omega
            have hkMi : (k : Int) < (M : Int) := by omega
            clear hns hbel hz hl2e ho2 hIk hask hxk hxm
            go_wp2_with fail
            go_quiet (fail)
            obtain ⟨wq, hwq⟩ : ∃ wq, wq = wr.drewN nq := ⟨_, rfl⟩
            have HNQ := Lib.hid (show NsI wq w.heap.size (.slice (some ⟨go, 0, none⟩) M oc) (outB K n R j) I2 by rw [hwq]; exact HNX.out.drewN nq)
            have HBQ := Lib.hid (show Below w.heap.size w wq by rw [hwq]; exact below_drewN HBX.out nq)
            have o1q : wq.cell? ⟨go, k, none⟩ = some (.slice (some ⟨g2, 0, none⟩) l2 c2) := by rw [hwq]; exact o1
            rw [← hwq]
            clear hwq HNX HBX o1 o2 hzo
            have HINT := Lib.hid (show IntsF wq ka n K from IntsF.below HOW.out (Nat.le_refl _) HBQ.out)
            have g0 := HH0.out wq HBQ.out
            have HIQ := Lib.hid (show IntsF wq ka n K from HINT.out)
            have HBG := Lib.hid (fun (wx : World) => begins_any (K z) wx)
            obtain ⟨kz, hkz⟩ : ∃ kz, kz = K z := ⟨_, rfl⟩
            obtain ⟨b0, off, hka, hk0⟩ := HINT.out (by omega)
            have d0 := hk0 z hzn
            rw [← hkz] at HBG d0 HASK HNO2
            have HPT := Lib.hid (fun (q : Nat) => partner_any n K ka kc z (wq.drewN q) (show IntsF (wq.drewN q) ka n K from HINT.out) (by omega) hzn)
            obtain ⟨P, hP⟩ : ∃ P, P = partner K n z := ⟨_, rfl⟩
            rw [← hP] at HPT HASK HNO2
            subst hka
            obtain ⟨bz, hbz⟩ : ∃ b, b = isoB kz := ⟨_, rfl⟩
            rw [← hbz] at HBG HASK HNO2
            clear hk0 hkz hP hbz HINT
            go_upto_if 111 with fail
            cases bz with
            | false =>
              go_quiet ((go_at_call 44; exact quiet_call (HBG.out _)))
              have HNF := Lib.hid (HNO2.out (by intro h; exact absurd h.1 (by decide)))
              have HNZ := Lib.hid (HNQ.out.drewN nq)
              have HBZ := Lib.hid (below_drewN HBQ.out nq)
              clear d0 g0 o1q
              go_wp2_with fail
              go_roundw
              case rel => exact ⟨k + 1, rfl, by go_num, by omega, (by rw [← HX0.out]; exact HNF.out), HBZ.out, HNZ.out⟩
              case measure => simp [intOf]; omega
            | true =>
              by_cases hPx : P = x0
              · have hPb : ((P : Int) == (x0 : Int)) = true := by simp [hPx]
                have hPc : (P == x0) = true := by simp [hPx]
                have HPX := Lib.hid hPx
                have HJ := Lib.hid (HASK.out ⟨rfl, hPx⟩)
                clear hPx
                go_quiet (first | (go_at_call 44; exact quiet_call (HBG.out _)) | (go_at_call 45; exact quiet_call (HPT.out _)))
                obtain ⟨wz, hwz⟩ : ∃ wz, wz = wq.drewN nq := ⟨_, rfl⟩
                have HNZ := Lib.hid (show NsI wz w.heap.size (.slice (some ⟨go, 0, none⟩) M oc) (outB K n R j) I2 by rw [hwz]; exact HNQ.out.drewN nq)
                have HBZ := Lib.hid (show Below w.heap.size w wz by rw [hwz]; exact below_drewN HBQ.out nq)
                have o1z : wz.cell? ⟨go, k, none⟩ = some (.slice (some ⟨g2, 0, none⟩) l2 c2) := by rw [hwz]; exact o1q
                rw [← hwz]
                clear hwz HNQ HBQ o1q d0 g0 HBG HPT
                have HMQ := Lib.hid (HCEL.out wz HBZ.out)
                rw [HLEN.out] at HMQ
                have hinn := HNZ.out.inn k hkl
                rw [HIK.out, ← HL2.out] at hinn
                have HIN := Lib.hid hinn
                obtain ⟨xs, hown0, hxs⟩ := hinn
                have hxl : xs.length = l2 * 1 := hown0.1
                have HX := Lib.hid hown0
                have HXL := Lib.hid hxl
                have HXS := Lib.hid hxs
                obtain ⟨ii, hii, hz0, hz1, hz2⟩ := info_parts (show (Tryd.prog.info? 3).map (fun i => (i.zero, i.size, i.bytes)) = some (some (.int .i64 0), 1, 8) by kernel_rfl)
                have hlowz := HBZ.out.size
                have hgoz : go < wz.heap.size := lt_of_cell o1z
                clear hown0 hxl hxs
                go_wp2_with (at_builtin; go_loud (refine wpList_append_own _ rfl _ _ 22 rfl (w.heap.size) 3 ii _ 1 8 Tryd.underlying22 hii hz0 hz1 hz2 rfl (by decide) _ _ _ rfl HX.out ⟨gk, 0, none⟩ len ck ((rnG R j).map fun x => Value.int .i64 (x : Nat)) rfl (by rw [List.length_map, HLEN.out, Nat.mul_one]) ?k1a ?k2a ?k3a ?k4a ?k5a ?_))
                try (case k1a =>
                  intro t u ht
                  have e : Addr.add ⟨gk, 0, none⟩ t = ⟨gk, t, none⟩ := by simp [Addr.add] <;> omega
                  try rw [e]
                  have htl : t < (rnG R j).length := by have := (List.getElem?_eq_some_iff.1 ht).1; simpa using this
                  rw [HMQ.out t htl]
                  try rw [List.getElem?_map] at ht
                  rw [List.getElem?_eq_getElem htl] at ht
                  unfold plF
                  rw [List.getD_eq_getElem?_getD, List.getElem?_eq_getElem htl]
                  first
                  | (simp only [Option.map_some] at ht; rw [← ht]; rfl)
                  | (injection ht with ht; rw [← ht]; rfl))
                try (case k2a => first | (intro u hu; obtain ⟨x, _, rfl⟩ := List.mem_map.1 hu; rfl) | (intro u hu; rfl) | (intro u _ _ hu; subst hu; rfl) | (simp; done))
                try (case k3a => unfold maxLen; (try simp); (try omega))
                try (case k4a => (try simp); (try omega))
                try (case k5a => (try simp); (try omega))
                intro v5 w5 hown hgrow _
                have hkeep : w5.heap[go]? = wz.heap[go]? := hgrow.block go hgoz (fun e => hgne (by simpa [Value.ownBlock] using e))
                have m5 : w5.cell? ⟨go, k, none⟩ = some (.slice (some ⟨g2, 0, none⟩) l2 c2) := (World.cell?_of_block (w := wz) hkeep).trans o1z
                have hz9 := HNZ.out.out
                have z5 : w5.frozen? ⟨go, k, none⟩ = false := (World.frozen?_of_block (w := wz) hkeep).trans (RowV.frozenAt (by rw [HM.out] at hz9; exact hz9) (by omega) k)
                have HN5 := Lib.hid (NsI.growK (u' := v5) (g := go) (cap := oc) (w := wz) (w1 := w5) (k := k) (r := rnG R j) (by rw [← HM.out]; exact HNZ.out) HOH.out hkl (by rw [HIK.out]; exact hgrow) (by rw [← HL2.out, ← HLEN.out]; exact hown) (by rw [← HL2.out]; exact HXL.out) (by rw [← HL2.out]; exact HXS.out))
                have HB5 := Lib.hid (Below.grown HBZ.out hgrow hlowz (fun q hq => HIN.out.ge q hq))
                obtain ⟨a5, c5, hv5, _, _⟩ := RowL.slice hown
                subst hv5
                clear hown hgrow hii hz0 hz1 hz2 HX HXS HXL hkeep o1z hz9
                go_wp2_with fail
                go_meet
                exact ⟨HB5.out.setCell hgob _, .inl ⟨rfl, _, by rw [HJ.out, HM.out]; exact HN5.out⟩⟩
              · have hPb : ((P : Int) == (x0 : Int)) = false := by simp; omega
                have hPc : (P == x0) = false := by simp; omega
                have HNF := Lib.hid (HNO2.out (fun h => hPx h.2))
                clear hPx
                go_quiet (first | (go_at_call 44; exact quiet_call (HBG.out _)) | (go_at_call 45; exact quiet_call (HPT.out _)))
                have HNZ := Lib.hid (HNQ.out.drewN nq)
                have HBZ := Lib.hid (below_drewN HBQ.out nq)
                clear d0 g0 o1q
                go_wp2_with fail
                go_roundw
                case rel => exact ⟨k + 1, rfl, by go_num, by omega, (by rw [← HX0.out]; exact HNF.out), HBZ.out, HNZ.out⟩
                case measure => simp [intOf]; omega
          · obtain rfl : k = M := by omega
            go_wp2_with fail
            go_meet
            exact ⟨HBX.out, .inr ⟨rfl, outB_new HOK.out hjR (fun t ht => HNO.out t (by rw [HM.out]; exact ht)), HNX.out⟩⟩
      case rest =>
      obtain ⟨hbel, ⟨rfl, I3, hns⟩ | ⟨rfl, hnew, hns⟩⟩ := hcut
      · have HB3 := Lib.hid hbel
        have HN3 := Lib.hid hns
        clear hbel hns m1 HB HN
        go_wp2_with fail
        go_roundw
        case rel => exact ⟨j + 1, I3, by go_num, by omega, HB3.out, HN3.out⟩
        case measure => simp [intOf]; omega
      · obtain ⟨wz, rfl⟩ : ∃ x : World, x = wc := ⟨_, rfl⟩
        have HBZ := Lib.hid hbel
        have HNZ := Lib.hid hns
        have HNEW := Lib.hid hnew
        have HMQ := Lib.hid (HCEL.out wz hbel)
        rw [HLEN.out] at HMQ
        have hlowz := hbel.size
        obtain ⟨ii, hii, hz0, hz1, hz2⟩ := info_parts (show (Tryd.prog.info? 3).map (fun i => (i.zero, i.size, i.bytes)) = some (some (.int .i64 0), 1, 8) by kernel_rfl)
        have HX := Lib.hid (World.ownsRow_nil wz w.heap.size 3 1)
        clear hbel hns hnew m1 HB HN
        go_wp2_with (at_builtin; go_loud (refine wpList_append_own _ rfl _ _ 22 rfl (w.heap.size) 3 ii _ 1 8 Tryd.underlying22 hii hz0 hz1 hz2 rfl (by decide) _ _ _ rfl HX.out ⟨gk, 0, none⟩ len ck ((rnG R j).map fun x => Value.int .i64 (x : Nat)) rfl (by rw [List.length_map, HLEN.out, Nat.mul_one]) ?k1b ?k2b ?k3b ?k4b ?k5b ?_))
        try (case k1b =>
          intro t u ht
          have e : Addr.add ⟨gk, 0, none⟩ t = ⟨gk, t, none⟩ := by simp [Addr.add] <;> omega
          try rw [e]
          have htl : t < (rnG R j).length := by have := (List.getElem?_eq_some_iff.1 ht).1; simpa using this
          rw [HMQ.out t htl]
          try rw [List.getElem?_map] at ht
          rw [List.getElem?_eq_getElem htl] at ht
          unfold plF
          rw [List.getD_eq_getElem?_getD, List.getElem?_eq_getElem htl]
          first
          | (simp only [Option.map_some] at ht; rw [← ht]; rfl)
          | (injection ht with ht; rw [← ht]; rfl))
        try (case k2b => first | (intro u hu; obtain ⟨x, _, rfl⟩ := List.mem_map.1 hu; rfl) | (intro u hu; rfl) | (intro u _ _ hu; subst hu; rfl) | (simp; done))
        try (case k3b => unfold maxLen; (try simp); (try omega))
        try (case k4b => (try simp); (try omega))
        try (case k5b => (try simp); (try omega))
        intro v5 w5 hown hgrow _
        have HQ5 := Lib.hid (show RowI w5 w.heap.size 3 1 v5 (rnG R j).length (plF (rnG R j)) by
          rw [← HLEN.out]
          exact ⟨_, hown, fun i hi => by have := plF_app (s := []) (r := rnG R j) (xs := []) rfl (by simp) i (by rw [List.nil_append, ← HLEN.out]; exact hi); simpa using this⟩)
        have hb5 : Below wz.heap.size wz w5 := Below.grown (Below.refl _ _) hgrow (Nat.le_refl _) (fun q hq => by simp [Value.ownBlock] at hq)
        have HN5 := Lib.hid (HNZ.out.under hb5 (Nat.le_refl _))
        have HB5 := Lib.hid (show Below w.heap.size w w5 from HBZ.out.trans (hb5.mono hlowz))
        obtain ⟨a5, c5, hv5, _, _⟩ := RowL.slice hown
        subst hv5
        clear hown hgrow hii hz0 hz1 hz2 HX hb5 HNZ HBZ HMQ hlowz
        obtain ⟨xs, hown0, hxl, hxs⟩ := HN5.out.out.own
        have HX := Lib.hid hown0
        have HXL := Lib.hid hxl
        have HXS := Lib.hid hxs
        obtain ⟨ii, hii, hz0, hz1, hz2⟩ := info_parts (show (Tryd.prog.info? 22).map (fun i => (i.zero, i.size, i.bytes)) = some (some (.slice none 0 0), 1, 24) by kernel_rfl)
        have hlowq := HB5.out.size
        rw [← HM.out] at HX HXL HXS
        clear hown0 hxl hxs
        go_wp2_with (at_builtin; go_loud (refine wpList_append_own _ rfl _ _ 52 rfl (w.heap.size) 22 ii _ 1 24 Tryd.underlying52 hii hz0 hz1 hz2 rfl (by decide) _ _ _ rfl (RowL.alloc HX.out _) ⟨w5.heap.size, 0, none⟩ 1 1 [.slice a5 len c5] rfl rfl ?k1c ?k2c ?k3c ?k4c ?k5c ?_))
        try (case k1c =>
          intro t u hu
          have e : Addr.add ⟨w5.heap.size, 0, none⟩ t = ⟨w5.heap.size, t, none⟩ := by simp [Addr.add] <;> omega
          rw [e]
          exact cellNewS (by simpa using hu))
        try (case k2c => first | rfl | (intro u hu; simp at hu; subst hu; rfl))
        try (case k3c => unfold maxLen; (try simp); (try omega))
        try (case k4c => (try simp); (try omega))
        try (case k5c => (try simp); (try omega))
        intro v6 w6 hown hgrow _
        have HN6 := Lib.hid (HN5.out.pushL (w' := w5.alloc (Obj.cells #[.slice a5 len c5] 22)) (l := rnG R j) (qv := .slice a5 len c5) ((Below.refl _ _).alloc (Nat.le_refl _) _) (HQ5.out.alloc _) hgrow (by rw [← HM.out]; exact hown) (by rw [← HM.out]; exact HXL.out) (by rw [← HM.out]; exact HXS.out))
        have HB6 := Lib.hid (Below.grown (HB5.out.alloc hlowq _) hgrow (by simp; omega) (fun q hq => HN5.out.out.ge q hq))
        rw [← HNEW.out] at HN6
        clear hown hgrow hii hz0 hz1 hz2 HX HXS HXL HN5 HB5
        go_wp2_with fail
        go_roundw
        case rel => exact ⟨j + 1, _, by go_num, by omega, HB6.out, HN6.out⟩
        case measure => simp [intOf]; omega
    · obtain rfl : j = R.length := by omega
      go_wp2_with fail
      go_meet
      exact ⟨I2, HB.out, HN.out⟩
set_option maxHeartbeats 8000000 in
theorem chains_any {lo g cap n : Nat} {K C V T : Nat → Int} {O : Nat → Bool} {w : World} (h : Ch w lo (.slice (some ⟨g, 0, none⟩) n cap) n K C V O T) (hn2 : n ≤ 200) :
    Calls Tryd.prog 26 #[.slice (some ⟨g, 0, none⟩) n cap] w fun e w' => ∃ v I, e = .returned v ∧ NsI w' w.heap.size v (seqsB K n (rnsAt O V n)) I ∧ Below w.heap.size w w' := by
  have HI := Lib.hid (info_parts (show (Tryd.prog.info? 3).map (fun i => (i.zero, i.size, i.bytes)) = some (some (.int .i64 0), 1, 8) by kernel_rfl))
  have H := Lib.hid h
  have hglt := h.lt
  clear h
  go_enter Tryd.func26, Tryd.ntmps26
  go_upto_block 0 with fail
  go_cut [3, 4, 5] from 18 to 27 (fun v _ _ wx => ∃ ka kc, v = .slice ka n kc ∧ IntsF wx ka n K ∧ Below w.heap.size w wx)
  case first =>
    go_wp2_with fail
    go_loopw [3, 18] (fun kv iv wr => ∃ i : Nat, iv = .int .i64 i ∧ i ≤ n ∧ RowI wr w.heap.size 3 1 kv i K ∧ Below w.heap.size w wr) (fun _ iv _ => n - (intOf iv).toNat)
    case atStart => exact ⟨0, rfl, by omega, RowI.nil _ _ _ _ _, Below.refl _ _⟩
    case round =>
      obtain ⟨i, rfl, hi, hr, hb⟩ := hrel
      obtain ⟨ka, kc, rfl, hkc1, hkc2⟩ := hr.slice
      have HR := Lib.hid hr
      have HB := Lib.hid hb
      clear hr hb
      by_cases hin : i < n
      · have hch := H.out.only (w' := wr) (HB.out.block g hglt)
        obtain ⟨_, d0, d1, d2, d3, d4⟩ := hch.cells hin
        clear hch
        go_upto_region 5 with fail
        obtain ⟨w2, hw2⟩ : ∃ w2, w2 = wr.alloc (Obj.cells #[.int .i64 (K i), .int .i64 (C i), .int .i64 (V i), .bool (O i), .int .i64 (T i)] 49) := ⟨_, rfl⟩
        have HR2 := Lib.hid (show RowI w2 w.heap.size 3 1 (.slice ka i kc) i K by rw [hw2]; exact HR.out.alloc _)
        have HB2 := Lib.hid (show Below w.heap.size w w2 by rw [hw2]; exact HB.out.alloc HB.out.size _)
        have hb2 : Blk w2 wr.heap.size #[.int .i64 (K i), .int .i64 (C i), .int .i64 (V i), .bool (O i), .int .i64 (T i)] 49 := by rw [hw2]; exact Blk.new _ _ _
        obtain ⟨g2, hg2⟩ : ∃ g2, g2 = wr.heap.size := ⟨_, rfl⟩
        rw [← hg2] at hb2
        rw [← hw2, ← hg2]
        have n0 := hb2.cell (i := 0) rfl
        clear hw2 hg2 hb2 d0 d1 d2 d3 d4 HR HB
        have hsz2 := HB2.out.size
        obtain ⟨xs, hown0, hxs⟩ := HR2.out
        have hxl := hown0.1
        have HXX := Lib.hid hown0
        have HXL := Lib.hid hxl
        have HXS := Lib.hid hxs
        obtain ⟨ii, hii, hz0, hz1, hz2⟩ := HI.out
        clear hown0 hxl hxs
        go_wp2_with (at_builtin; go_loud (refine wpList_append_own _ rfl _ _ 22 rfl (w.heap.size) 3 ii _ 1 8 Tryd.underlying22 hii hz0 hz1 hz2 rfl (by decide) _ _ _ rfl (RowL.alloc HXX.out _) ⟨w2.heap.size, 0, none⟩ 1 1 [.int .i64 (K i)] rfl rfl ?k1a ?k2a ?k3a ?k4a ?k5a ?_))
        try (case k1a =>
          intro j u hj
          have e : Addr.add ⟨w2.heap.size, 0, none⟩ j = ⟨w2.heap.size, j, none⟩ := by simp [Addr.add] <;> omega
          rw [e]
          exact cellNew1 (by simpa using hj))
        try (case k2a => first | rfl | (intro u hu; simp at hu; subst hu; rfl))
        try (case k3a => unfold maxLen; (try simp); (try omega))
        try (case k4a => (try simp); (try omega))
        try (case k5a => (try simp); (try omega))
        intro v5 w5 hown hgrow _
        have HR3 := Lib.hid (show RowI w5 w.heap.size 3 1 v5 (i + 1) K from RowI.push hown HXL.out HXS.out (fun j hj => by (obtain rfl : j = 0 := by omega); rw [Nat.mul_one]; rfl) (fun _ _ => rfl))
        have HB3 := Lib.hid (below_grown HB2.out HB2.out.size _ hgrow HR2.out.ge)
        clear hown hgrow hii hz0 hz1 hz2 HXX HXS HXL HR2 HB2 n0
        go_wp2_with fail
        go_roundw
        case rel => exact ⟨i + 1, by go_num, by omega, HR3.out, HB3.out⟩
        case measure => simp [intOf]; omega
      · obtain rfl : n = i := by omega
        go_wp2_with fail
        go_meet
        exact ⟨_, _, rfl, RowI.ints HR.out, HB.out⟩
  case rest =>
  obtain ⟨ka, kc, rfl, hints, hbel⟩ := hcut
  obtain ⟨w2, rfl⟩ : ∃ x : World, x = wc := ⟨_, rfl⟩
  have HC2 := Lib.hid (show Ch w2 lo (.slice (some ⟨g, 0, none⟩) n cap) n K C V O T from H.out.only (hbel.block g hglt))
  have HINT := Lib.hid hints
  have HB2 := Lib.hid hbel
  clear hints hbel
  go_upto_block 2 with fail
  go_cut [6, 7, 8, 9] from 30 to 74 (fun v _ _ _ wx => ∃ I, Below w2.heap.size w2 wx ∧ NsI wx w2.heap.size v (rnsAt O V n) I)
  case first => exact chRuns (kc := kc) HC2 hn2 (by assumption) (by assumption)
  case rest =>
  obtain ⟨I, hb3, hns⟩ := hcut
  obtain ⟨w3, rfl⟩ : ∃ x : World, x = wc := ⟨_, rfl⟩
  have HOK := Lib.hid (rns_ok (O := O) (L := V) n)
  have hRl := rns_len (O := O) (L := V) n
  obtain ⟨R, hR⟩ : ∃ R, R = rnsAt O V n := ⟨_, rfl⟩
  have HR := Lib.hid hR
  rw [← hR] at hns HOK hRl
  obtain ⟨ra, rc, hv, _, _⟩ := hns.out.slice
  subst hv
  have HNS := Lib.hid hns
  have HB3 := Lib.hid hb3
  have HIN3 := Lib.hid (show IntsF w3 ka n K from IntsF.below HINT.out (Nat.le_refl _) hb3)
  clear hns hb3 hR
  go_upto_block 4 with fail
  go_cut [10, 12, 13, 14, 15] from 77 to 129 (fun v _ _ _ _ wx => ∃ I', Below w3.heap.size w3 wx ∧ NsI wx w3.heap.size v (outB K n R R.length) I')
  case first => exact chOut HNS HOK HIN3 hn2 hRl (by assumption) (by assumption)
  case rest =>
  obtain ⟨I2, hb4, hns⟩ := hcut
  obtain ⟨w4, rfl⟩ : ∃ x : World, x = wc := ⟨_, rfl⟩
  obtain ⟨oa, oc, hv, _, _⟩ := hns.out.slice
  subst hv
  have HN4 := Lib.hid hns
  have HB4 := Lib.hid hb4
  clear hns hb4
  go_wp2_with fail
  go_ret
  have h2 := HB2.out.size
  have h3 := HB3.out.size
  rw [← HR.out]
  refine ⟨_, I2, rfl, ?_, (HB2.out.trans (HB3.out.mono h2)).trans (HB4.out.mono (Nat.le_trans h2 h3))⟩
  have h4 := HN4.out
  rw [outB_end] at h4
  exact ⟨h4.out.mono (Nat.le_trans h2 h3), fun k hk => (h4.inn k hk).mono (Nat.le_trans h2 h3)⟩
end Go.Proofs.YtojbicdmcodgdaaDoor.BD
