/-
  BdSeqD, BdSeqW, BdLevP, BdEndsW.
-/
import Derived.Test.YtojbicdmcodgdaaDoorBdM09
import Derived.Test.YtojbicdmcodgdaaDoorBdM08
import Derived.Test.YtojbicdmcodgdaaDoorBdM04
import Derived.Test.YtojbicdmcodgdaaDoorBdM02
import Derived.Test.YtojbicdmcodgdaaDoorBdM03
import Derived.Deep.CutRange
import Derived.Deep.CutBlock
import Derived.BigRegion
namespace Go.Law.Bd
open Go Go.Law Go.RowKit
set_option linter.unusedVariables false
/-- a sequence in memory, its borders known -/
structure SeqAt (p : PaP) (K L : Nat → Int) (O : Nat → Bool) (ow : Value) (w : World) (b sz : Nat) (av : Value) (s : List Nat) : Prop where
  blk : Blk w sz #[.pointer (some ⟨p.pz, 0, none⟩), av, ow, .int .i64 (L (s.getD 0 0)), .int .i64 (befB O L p.base (L (s.getD 0 0)) (s.getD 0 0)), .int .i64 (aftB O L K p.base (L (s.getD 0 0)) p.n (s.getLastD 0))] 65
  row : RowI w b 3 1 av s.length (plF s)
  low : b ≤ sz
theorem SeqAt.keep {p : PaP} {K L : Nat → Int} {O : Nat → Bool} {ow av : Value} {w w' : World} {b sz : Nat} {s : List Nat} (h : SeqAt p K L O ow w b sz av s) (hb : ∀ k, k < w.heap.size → (k = sz ∨ av.ownBlock = some k) → w'.heap[k]? = w.heap[k]?) : SeqAt p K L O ow w' b sz av s :=
  ⟨h.blk.block (hb _ h.blk.lt (.inl rfl)), h.row.block (fun k hk => hb k (rowI_lt3 h.row hk) (.inr hk)), h.low⟩
theorem cellNewD {w : World} {cs : List Value} {e : TypeId} {j : Nat} {u : Value} (h : cs[j]? = some u) : (w.alloc (Obj.cells cs.toArray e)).cell? ⟨w.heap.size, j, none⟩ = some u := by
  rw [World.cell?_alloc_new]; simpa using h
theorem getD_last {s : List Nat} : s.getD (s.length - 1) 0 = s.getLastD 0 := by
  rw [List.getLastD_eq_getLast?, List.getLast?_eq_getElem?, List.getD_eq_getElem?_getD]
/-- the sequences of the runs ahead of j -/
structure SqD (p : PaP) (K L : Nat → Int) (O : Nat → Bool) (ow : Value) (R : List (List Nat)) (w0 wr : World) (v : Value) (j : Nat) (sz : Nat → Nat) (av : Nat → Value) : Prop where
  out : RowV wr w0.heap.size 42 1 v (hds (rnX K p.n R) j).length (fun t _ => .pointer (some ⟨sz t, 0, none⟩))
  sq : ∀ t, t < (hds (rnX K p.n R) j).length → SeqAt p K L O ow wr w0.heap.size (sz t) (av t) (atB R (chn (rnX K p.n R) R.length ((hds (rnX K p.n R) j).getD t 0)))
  bel : Below w0.heap.size w0 wr
theorem SqD.old {p : PaP} {K L : Nat → Int} {O : Nat → Bool} {ow v : Value} {R : List (List Nat)} {w0 wr : World} {j : Nat} {sz : Nat → Nat} {av : Nat → Value} (h : SqD p K L O ow R w0 wr v j sz av) (hd : hdB (rnX K p.n R) j = false) : SqD p K L O ow R w0 wr v (j + 1) sz av := by
  have e := hds_old hd
  exact ⟨by rw [e]; exact h.out, by rw [e]; exact h.sq, h.bel⟩
theorem SqD.new {p : PaP} {K L : Nat → Int} {O : Nat → Bool} {ow v v' : Value} {R : List (List Nat)} {w0 wr w3 w5 : World} {j s0 : Nat} {sz : Nat → Nat} {av : Nat → Value} {a0 : Value} {xs : List Value} {o : Obj} (h : SqD p K L O ow R w0 wr v j sz av) (hd : hdB (rnX K p.n R) j = true)
    (hb : Below wr.heap.size wr w3) (hs : SeqAt p K L O ow w3 w0.heap.size s0 a0 (atB R (chn (rnX K p.n R) R.length j))) (hg : (w3.alloc o).grownBy w5 v.ownBlock)
    (hown : w5.ownsRow w0.heap.size 42 1 v' ((hds (rnX K p.n R) j).length + 1) (xs ++ [.pointer (some ⟨s0, 0, none⟩)])) (hl : xs.length = (hds (rnX K p.n R) j).length * 1) (hx : ∀ i, i < (hds (rnX K p.n R) j).length → ∀ t, t < 1 → xs[i * 1 + t]? = some (.pointer (some ⟨sz i, 0, none⟩))) :
    SqD p K L O ow R w0 w5 v' (j + 1) (fun t => if t = (hds (rnX K p.n R) j).length then s0 else sz t) (fun t => if t = (hds (rnX K p.n R) j).length then a0 else av t) := by
  have e := hds_new hd
  have hout3 := h.out.below hb (Nat.le_refl _)
  have hout4 := hout3.below (w' := w3.alloc o) ((Below.refl _ _).alloc (Nat.le_refl _) _) (Nat.le_refl _)
  have tr : ∀ {z : Nat} {a : Value} {s : List Nat}, SeqAt p K L O ow w3 w0.heap.size z a s → SeqAt p K L O ow w5 w0.heap.size z a s := fun {z a s} h3 => by
    have h4 : SeqAt p K L O ow (w3.alloc o) w0.heap.size z a s := h3.keep fun k hk _ => Below.heap_alloc _ _ _ hk
    refine h4.keep fun k hk hc => hg.block k hk (fun e2 => ?_)
    rcases hc with hc | hc
    · subst hc; exact hout4.notblk h4.blk (by decide) e2.symm
    · exact rowIV_ne h4.row hout4 (by decide) hc e2.symm
  refine ⟨?_, ?_, ?_⟩
  · rw [e, List.length_append]
    refine RowV.push hown hl hx (fun t ht => ?_) (fun i hi t _ => ?_)
    · obtain rfl : t = 0 := by omega
      rw [if_pos rfl]; rfl
    · rw [if_neg (by omega)]
  · intro t ht
    rw [e, List.length_append] at ht
    rw [e]
    by_cases ht2 : t = (hds (rnX K p.n R) j).length
    · subst ht2
      rw [if_pos rfl, if_pos rfl, show (hds (rnX K p.n R) j ++ [j]).getD (hds (rnX K p.n R) j).length 0 = j by rw [List.getD_eq_getElem?_getD, List.getElem?_append_right (Nat.le_refl _)]; simp]
      exact tr hs
    · have ht3 : t < (hds (rnX K p.n R) j).length := by simp at ht; omega
      rw [if_neg ht2, if_neg ht2, show (hds (rnX K p.n R) j ++ [j]).getD t 0 = (hds (rnX K p.n R) j).getD t 0 by rw [List.getD_eq_getElem?_getD, List.getElem?_append_left ht3, List.getD_eq_getElem?_getD]]
      have h1 := h.sq t ht3
      exact tr (h1.keep fun k hk _ => hb.block k hk)
  · have hb3 := h.bel.trans (hb.mono h.bel.size)
    exact Below.grown (hb3.alloc hb3.size _) hg (by have := hb3.size; simp; omega) (fun k hk => hout3.ge k hk)
end Go.Law.Bd
namespace Go.Proofs.YtojbicdmcodgdaaDoor.BD
open Go.RowKit Go.Law Go.Law.Bd
set_option linter.unusedVariables false
set_option linter.unusedSimpArgs false
set_option maxRecDepth 100000
set_option maxHeartbeats 8000000 in
theorem sqLoopD {p : PaP} {C L K : Nat → Int} {R : List (List Nat)} {I : Nat → Value} {O : Nat → Bool} {wA w0 : World} {base gr gf gm gw rc tc : Nat} {ra ta : Option Addr} (HNS : Hid (NsI wA base (.slice ra R.length rc) R I)) (HOK : Hid (RnsOk O p.n R)) (HBA : Hid (Below wA.heap.size wA w0)) (HPO : Hid (PaOk p))
    (HPA : Hid (Pa p C L O wA)) (HMV : Hid (p.mv = .slice (some ⟨gm, 0, none⟩) p.n p.n)) (HTV : Hid (p.tv = .slice ta p.n tc)) (HMT : Hid (OwnF wA 3 gm p.n (matB K p.n p.n))) (HOW : Hid (OwnF wA 3 gw p.n K)) (HRR : Hid (OwnF w0 3 gr p.n (rnF R R.length))) (HFF : Hid (OwnB w0 4 gf R.length (flF K p.n R R.length)))
    (hn2 : p.n ≤ 200) (hRl : R.length ≤ p.n) (hbase : p.base = 0 ∨ p.base = 1) (HL : Hid (∀ j, 0 ≤ L j ∧ L j ≤ 1000))
    {s2 s3 s4 s6 s7 s10 s11 s12 s13 s14 s16 s17 s18 s19 s20 s21 s22 s23 s24 s25 s26 s27 s28 s29 s30 s31 s32 s33 s34 s35 s36 s37 s38 s39 s40 s41 s42 s43 s44 s45 s46 s47 s48 s49 s50 s51 s52 s53 s54 s55 s56 s57 s58 s59 s60 s61 s62 s63 s64 s65 s66 s67 s68 s69 s70 s71 s72 s73 s74 s75 s76 s77 s78 s79 s80 s81 s82 s83 s84 s85 s86 s87 s88 s89 s90 s91 s92 s93 s94 s95 s96 s97 s98 s99 s100 s101 s102 s103 s104 s105 s106 s107 s108 s109 s110 s111 s112 s113 s114 s115 s116 s117 s118 s119 s120 s121 s122 s123 s124 s125 s126 s127 s128 s129 s130 s131 s132 s133 s134 s135 s136 s137 s138 s142 s143 s144 s145 s146 s147 s148 s149 s150 s151 s152 s153 s154 s155 s156 s157 s158 s159 s160 s161 s162 s163 s164 s165 s166 s167 s168 s169 s170 s171 s172 s173 s174 s175 s176 s177 s178 s179 s180 s181 s182 s183 s184 s185 s186 s187 s188 s189 s190 s191 s192 s193 s194 s195 s196 s197 s198 s199 s200 s201 s202 s203 s204 s205 s206 s207 s208 s209 s210 s211 s212 s213 s214 s215 s216 : Value} {J K' : Act → World → Prop} {Q : Exit → Act → World → Prop}
    (HQ : Hid (∀ (c : List PanicEntry) (a a' : Act) (w : World), a.defers = a'.defers → Q (.panic c) a w → Q (.panic c) a' w))
    (hJ : ∀ (a' : Act) (w' : World), (∃ u15 u16 u17 u18 u19 u141 u142 u143 u144 u145 u146 u147 u148 u149 u150 u151 u152 u153 u154 u155 u156 u157 u158 u159 u160 u161 u162 u163 u164 u165 u166 u167 u168 u169 u170 u171 u172 u173 u174 u175 u176 u177 u178 u179 u180 u181 u182 u183 u184 u185 u186 u187 u188 u189 u190 u191 u192 u193 u194 u195 u196 u197 u198 u199 u200 u201 u202 u203 u204 u205 u206 u207 u208 u209 u210 u211 u212 u213 u214 u215 : Value, (∃ sz av, SqD p K L O (.slice (some ⟨gw, 0, none⟩) p.n p.n) R w0 w' u15 R.length sz av) ∧ a' = ⟨#[.pointer (some ⟨p.pz, 0, none⟩), .slice (some ⟨gw, 0, none⟩) p.n p.n, s2, s3, s4, .slice ra R.length rc, s6, s7, .slice (some ⟨gr, 0, none⟩) p.n p.n, .slice (some ⟨gf, 0, none⟩) R.length R.length, s10, s11, s12, s13, s14, u15, u16, u17, u18, u19, s20, s21, s22, s23, s24, s25, s26, s27, s28, s29, s30, s31, s32, s33, s34, s35, s36, s37, s38, s39, s40, s41, s42, s43, s44, s45, s46, s47, s48, s49, s50, s51, s52, s53, s54, s55, s56, s57, s58, s59, s60, s61, s62, s63, s64, s65, s66, s67, s68, s69, s70, s71, s72, s73, s74, s75, s76, s77, s78, s79, s80, s81, s82, s83, s84, s85, s86, s87, s88, s89, s90, s91, s92, s93, s94, s95, s96, s97, s98, s99, s100, s101, s102, s103, s104, s105, s106, s107, s108, s109, s110, s111, s112, s113, s114, s115, s116, s117, s118, s119, s120, s121, s122, s123, s124, s125, s126, s127, s128, s129, s130, s131, s132, s133, s134, s135, s136, s137, s138, .slice ra R.length rc, .int .i64 R.length, u141, u142, u143, u144, u145, u146, u147, u148, u149, u150, u151, u152, u153, u154, u155, u156, u157, u158, u159, u160, u161, u162, u163, u164, u165, u166, u167, u168, u169, u170, u171, u172, u173, u174, u175, u176, u177, u178, u179, u180, u181, u182, u183, u184, u185, u186, u187, u188, u189, u190, u191, u192, u193, u194, u195, u196, u197, u198, u199, u200, u201, u202, u203, u204, u205, u206, u207, u208, u209, u210, u211, u212, u213, u214, u215, s216], []⟩) → J a' w')
    (hK : ∀ (a' : Act) (w' : World), Met J a' w' → K' a' w') :
    Code.wp Tryd.prog (theBlk Tryd.f15 6) (Exit.then K' Q) ⟨#[.pointer (some ⟨p.pz, 0, none⟩), .slice (some ⟨gw, 0, none⟩) p.n p.n, s2, s3, s4, .slice ra R.length rc, s6, s7, .slice (some ⟨gr, 0, none⟩) p.n p.n, .slice (some ⟨gf, 0, none⟩) R.length R.length, s10, s11, s12, s13, s14, .slice none 0 0, s16, s17, s18, s19, s20, s21, s22, s23, s24, s25, s26, s27, s28, s29, s30, s31, s32, s33, s34, s35, s36, s37, s38, s39, s40, s41, s42, s43, s44, s45, s46, s47, s48, s49, s50, s51, s52, s53, s54, s55, s56, s57, s58, s59, s60, s61, s62, s63, s64, s65, s66, s67, s68, s69, s70, s71, s72, s73, s74, s75, s76, s77, s78, s79, s80, s81, s82, s83, s84, s85, s86, s87, s88, s89, s90, s91, s92, s93, s94, s95, s96, s97, s98, s99, s100, s101, s102, s103, s104, s105, s106, s107, s108, s109, s110, s111, s112, s113, s114, s115, s116, s117, s118, s119, s120, s121, s122, s123, s124, s125, s126, s127, s128, s129, s130, s131, s132, s133, s134, s135, s136, s137, s138, .slice ra R.length rc, .int .i64 R.length, .int .i64 0, s142, s143, s144, s145, s146, s147, s148, s149, s150, s151, s152, s153, s154, s155, s156, s157, s158, s159, s160, s161, s162, s163, s164, s165, s166, s167, s168, s169, s170, s171, s172, s173, s174, s175, s176, s177, s178, s179, s180, s181, s182, s183, s184, s185, s186, s187, s188, s189, s190, s191, s192, s193, s194, s195, s196, s197, s198, s199, s200, s201, s202, s203, s204, s205, s206, s207, s208, s209, s210, s211, s212, s213, s214, s215, s216], []⟩ w0 := by
  conv => arg 2; whnf
  go_wp2_with fail
  go_loopw [15, 141] (fun v iv wr => ∃ (j : Nat) (sz : Nat → Nat) (av : Nat → Value), iv = .int .i64 j ∧ j ≤ R.length ∧ SqD p K L O (.slice (some ⟨gw, 0, none⟩) p.n p.n) R w0 wr v j sz av) (fun _ iv _ => R.length - (intOf iv).toNat)
  case atStart => exact ⟨0, fun _ => 0, fun _ => .slice none 0 0, rfl, by omega, RowV.nil _ _ _ _ _, fun t ht => by simp [hds] at ht, Below.refl _ _⟩
  case round =>
    obtain ⟨j, sz, av, rfl, hj, hd⟩ := hrel
    have HD := Lib.hid hd
    obtain ⟨va, vc, hv, hvc1, hvc2⟩ := hd.out.slice
    subst hv
    have hbw : Below wA.heap.size wA wr := HBA.out.trans (hd.bel.mono HBA.out.size)
    by_cases hjR : j < R.length
    · have f1 := (HFF.out.block (w' := wr) (hd.bel.block gf HFF.out.lt)).cell hjR
      rw [flF_end HOK.out hjR] at f1
      have hji : (j : Int) < (R.length : Int) := by omega
      clear hd
      cases hh : hdB (rnX K p.n R) j with
      | false =>
        have HH := Lib.hid hh
        rw [hh] at f1
        simp only [Bool.not_false] at f1
        clear hh hbw
        go_wp2_with fail
        go_roundw
        case rel => exact ⟨j + 1, sz, av, by go_num, by omega, HD.out.old HH.out⟩
        case measure => simp [intOf]; omega
      | true =>
        have HH := Lib.hid hh
        rw [hh] at f1
        simp only [Bool.not_true] at f1
        obtain ⟨g, gk, ck, rfl, m1, hck1, hck2, hgk, hl0, hm2⟩ := HNS.out.run hbw HOK.out hjR
        have m2 := hm2 0 hl0
        rw [plF_head (rn_in HOK.out hjR)] at m2
        have hpl := (rns_place HOK.out hjR (rn_head HOK.out hjR)).1
        obtain ⟨x, hx⟩ : ∃ x, x = (rnG R j).headD 0 := ⟨_, rfl⟩
        obtain ⟨len, hlen⟩ : ∃ l, l = (rnG R j).length := ⟨_, rfl⟩
        rw [← hx] at m2 hpl
        rw [← hlen] at m1 hck1 hl0
        have HX := Lib.hid hx
        have hPw := HPA.out.under hbw (Nat.le_refl _)
        have c2 : wr.cell? ⟨p.pz, 2, none⟩ = _ := hPw.par.cell (i := 2) rfl
        have d1 := hPw.lev.cell hpl
        have hl0i : (0 : Int) < (len : Int) := by omega
        have hxi : (x : Int) < (p.n : Int) := by omega
        have HBW := Lib.hid hbw
        clear hh hm2 hx hlen hPw hbw
        go_wp2_with fail
        obtain ⟨lv, hlv⟩ : ∃ lv, lv = L x := ⟨_, rfl⟩
        rw [← hlv] at d1
        have HLV := Lib.hid hlv
        clear hlv
        refine wp_region_held_drew (S := fun w' => w'.cell? ⟨p.pz, 2, none⟩ = some (.slice (some ⟨p.gl, 0, none⟩) p.n p.n) ∧ w'.cell? ⟨g, j, none⟩ = some (.slice (some ⟨gk, 0, none⟩) len ck) ∧ w'.cell? ⟨gk, 0, none⟩ = some (.int .i64 x) ∧ w'.cell? ⟨p.gl, x, none⟩ = some (.int .i64 lv)) (by kernel_rfl) (by exact ⟨by rw [World.cell?_drew]; exact c2, by rw [World.cell?_drew]; exact m1, by rw [World.cell?_drew]; exact m2, by rw [World.cell?_drew]; exact d1⟩) ?_
        intro hHeld
        refine takeD (i := 0) (oi := { dst := some 148, op := _, type := _, pos := _, after := _, guard := _ }) (d := some 148) (v := ?vva148) rfl rfl (by kernel_rfl) (by kernel_rfl) (by kernel_rfl) ?dda148 (by rfl) ?yya148 hHeld ?rra148
        case dda148 => first | exact fun _ _ _ h => h | exact fun _ _ _ h => HQ.out _ _ _ _ (by rfl) h
        case yya148 => (intro wx hSw; obtain ⟨y0, y1, y2, y3⟩ := hSw; go_simp; try (with_reducible rfl))
        try simp only [Act.put, List.setIfInBounds_toArray, List.set_cons_zero, List.set_cons_succ]
        refine takeD (i := 1) (oi := { dst := some 149, op := _, type := _, pos := _, after := _, guard := _ }) (d := some 149) (v := ?vva149) rfl rfl (by kernel_rfl) (by kernel_rfl) (by kernel_rfl) ?dda149 (by rfl) ?yya149 hHeld ?rra149
        case dda149 => first | exact fun _ _ _ h => h | exact fun _ _ _ h => HQ.out _ _ _ _ (by rfl) h
        case yya149 => (intro wx hSw; obtain ⟨y0, y1, y2, y3⟩ := hSw; go_simp; try (with_reducible rfl))
        try simp only [Act.put, List.setIfInBounds_toArray, List.set_cons_zero, List.set_cons_succ]
        refine takeD (i := 2) (oi := { dst := some 150, op := _, type := _, pos := _, after := _, guard := _ }) (d := some 150) (v := ?vva150) rfl rfl (by kernel_rfl) (by kernel_rfl) (by kernel_rfl) ?dda150 (by rfl) ?yya150 hHeld ?rra150
        case dda150 => first | exact fun _ _ _ h => h | exact fun _ _ _ h => HQ.out _ _ _ _ (by rfl) h
        case yya150 => (intro wx hSw; obtain ⟨y0, y1, y2, y3⟩ := hSw; go_simp; try (with_reducible rfl))
        try simp only [Act.put, List.setIfInBounds_toArray, List.set_cons_zero, List.set_cons_succ]
        refine takeD (i := 3) (oi := { dst := some 151, op := _, type := _, pos := _, after := _, guard := _ }) (d := some 151) (v := ?vva151) rfl rfl (by kernel_rfl) (by kernel_rfl) (by kernel_rfl) ?dda151 (by rfl) ?yya151 hHeld ?rra151
        case dda151 => first | exact fun _ _ _ h => h | exact fun _ _ _ h => HQ.out _ _ _ _ (by rfl) h
        case yya151 => (intro wx hSw; obtain ⟨y0, y1, y2, y3⟩ := hSw; go_simp; try (with_reducible rfl))
        try simp only [Act.put, List.setIfInBounds_toArray, List.set_cons_zero, List.set_cons_succ]
        refine takeD (i := 4) (oi := { dst := some 152, op := _, type := _, pos := _, after := _, guard := _ }) (d := some 152) (v := ?vva152) rfl rfl (by kernel_rfl) (by kernel_rfl) (by kernel_rfl) ?dda152 (by rfl) ?yya152 hHeld ?rra152
        case dda152 => first | exact fun _ _ _ h => h | exact fun _ _ _ h => HQ.out _ _ _ _ (by rfl) h
        case yya152 => (intro wx hSw; obtain ⟨y0, y1, y2, y3⟩ := hSw; go_simp; try (with_reducible rfl))
        try simp only [Act.put, List.setIfInBounds_toArray, List.set_cons_zero, List.set_cons_succ]
        refine takeD (i := 5) (oi := { dst := some 153, op := _, type := _, pos := _, after := _, guard := _ }) (d := some 153) (v := ?vva153) rfl rfl (by kernel_rfl) (by kernel_rfl) (by kernel_rfl) ?dda153 (by rfl) ?yya153 hHeld ?rra153
        case dda153 => first | exact fun _ _ _ h => h | exact fun _ _ _ h => HQ.out _ _ _ _ (by rfl) h
        case yya153 => (intro wx hSw; obtain ⟨y0, y1, y2, y3⟩ := hSw; go_simp; try (with_reducible rfl))
        try simp only [Act.put, List.setIfInBounds_toArray, List.set_cons_zero, List.set_cons_succ]
        refine takeD (i := 6) (oi := { dst := some 154, op := _, type := _, pos := _, after := _, guard := _ }) (d := some 154) (v := ?vva154) rfl rfl (by kernel_rfl) (by kernel_rfl) (by kernel_rfl) ?dda154 (by rfl) ?yya154 hHeld ?rra154
        case dda154 => first | exact fun _ _ _ h => h | exact fun _ _ _ h => HQ.out _ _ _ _ (by rfl) h
        case yya154 => (intro wx hSw; obtain ⟨y0, y1, y2, y3⟩ := hSw; go_simp; try (with_reducible rfl))
        try simp only [Act.put, List.setIfInBounds_toArray, List.set_cons_zero, List.set_cons_succ]
        refine takeD (i := 7) (oi := { dst := some 155, op := _, type := _, pos := _, after := _, guard := _ }) (d := some 155) (v := ?vva155) rfl rfl (by kernel_rfl) (by kernel_rfl) (by kernel_rfl) ?dda155 (by rfl) ?yya155 hHeld ?rra155
        case dda155 => first | exact fun _ _ _ h => h | exact fun _ _ _ h => HQ.out _ _ _ _ (by rfl) h
        case yya155 => (intro wx hSw; obtain ⟨y0, y1, y2, y3⟩ := hSw; go_simp; try (with_reducible rfl))
        try simp only [Act.put, List.setIfInBounds_toArray, List.set_cons_zero, List.set_cons_succ]
        refine takeD (i := 8) (oi := { dst := some 156, op := _, type := _, pos := _, after := _, guard := _ }) (d := some 156) (v := ?vva156) rfl rfl (by kernel_rfl) (by kernel_rfl) (by kernel_rfl) ?dda156 (by rfl) ?yya156 hHeld ?rra156
        case dda156 => first | exact fun _ _ _ h => h | exact fun _ _ _ h => HQ.out _ _ _ _ (by rfl) h
        case yya156 => (intro wx hSw; obtain ⟨y0, y1, y2, y3⟩ := hSw; go_simp; try (with_reducible rfl))
        try simp only [Act.put, List.setIfInBounds_toArray, List.set_cons_zero, List.set_cons_succ]
        refine takeD (i := 9) (oi := { dst := some 157, op := _, type := _, pos := _, after := _, guard := _ }) (d := some 157) (v := ?vva157) rfl rfl (by kernel_rfl) (by kernel_rfl) (by kernel_rfl) ?dda157 (by rfl) ?yya157 hHeld ?rra157
        case dda157 => first | exact fun _ _ _ h => h | exact fun _ _ _ h => HQ.out _ _ _ _ (by rfl) h
        case yya157 => (intro wx hSw; obtain ⟨y0, y1, y2, y3⟩ := hSw; go_simp; try (with_reducible rfl))
        try simp only [Act.put, List.setIfInBounds_toArray, List.set_cons_zero, List.set_cons_succ]
        refine takeD (i := 10) (oi := { dst := some 158, op := _, type := _, pos := _, after := _, guard := _ }) (d := some 158) (v := ?vva158) rfl rfl (by kernel_rfl) (by kernel_rfl) (by kernel_rfl) ?dda158 (by rfl) ?yya158 hHeld ?rra158
        case dda158 => first | exact fun _ _ _ h => h | exact fun _ _ _ h => HQ.out _ _ _ _ (by rfl) h
        case yya158 => (intro wx hSw; obtain ⟨y0, y1, y2, y3⟩ := hSw; go_simp; try (with_reducible rfl))
        try simp only [Act.put, List.setIfInBounds_toArray, List.set_cons_zero, List.set_cons_succ]
        refine takeD (i := 11) (oi := { dst := some 159, op := _, type := _, pos := _, after := _, guard := _ }) (d := some 159) (v := ?vva159) rfl rfl (by kernel_rfl) (by kernel_rfl) (by kernel_rfl) ?dda159 (by rfl) ?yya159 hHeld ?rra159
        case dda159 => first | exact fun _ _ _ h => h | exact fun _ _ _ h => HQ.out _ _ _ _ (by rfl) h
        case yya159 => (intro wx hSw; obtain ⟨y0, y1, y2, y3⟩ := hSw; go_simp; try (with_reducible rfl))
        try simp only [Act.put, List.setIfInBounds_toArray, List.set_cons_zero, List.set_cons_succ]
        refine takeD (i := 12) (oi := { dst := some 160, op := _, type := _, pos := _, after := _, guard := _ }) (d := some 160) (v := ?vva160) rfl rfl (by kernel_rfl) (by kernel_rfl) (by kernel_rfl) ?dda160 (by rfl) ?yya160 hHeld ?rra160
        case dda160 => first | exact fun _ _ _ h => h | exact fun _ _ _ h => HQ.out _ _ _ _ (by rfl) h
        case yya160 => (intro wx hSw; obtain ⟨y0, y1, y2, y3⟩ := hSw; go_simp; try (with_reducible rfl))
        try simp only [Act.put, List.setIfInBounds_toArray, List.set_cons_zero, List.set_cons_succ]
        refine takeD (i := 13) (oi := { dst := some 161, op := _, type := _, pos := _, after := _, guard := _ }) (d := some 161) (v := ?vva161) rfl rfl (by kernel_rfl) (by kernel_rfl) (by kernel_rfl) ?dda161 (by rfl) ?yya161 hHeld ?rra161
        case dda161 => first | exact fun _ _ _ h => h | exact fun _ _ _ h => HQ.out _ _ _ _ (by rfl) h
        case yya161 => (intro wx hSw; obtain ⟨y0, y1, y2, y3⟩ := hSw; go_simp; try (with_reducible rfl))
        try simp only [Act.put, List.setIfInBounds_toArray, List.set_cons_zero, List.set_cons_succ]
        refine takeD (i := 14) (oi := { dst := some 162, op := _, type := _, pos := _, after := _, guard := _ }) (d := some 162) (v := ?vva162) rfl rfl (by kernel_rfl) (by kernel_rfl) (by kernel_rfl) ?dda162 (by rfl) ?yya162 hHeld ?rra162
        case dda162 => first | exact fun _ _ _ h => h | exact fun _ _ _ h => HQ.out _ _ _ _ (by rfl) h
        case yya162 => (intro wx hSw; obtain ⟨y0, y1, y2, y3⟩ := hSw; go_simp; try (with_reducible rfl))
        try simp only [Act.put, List.setIfInBounds_toArray, List.set_cons_zero, List.set_cons_succ]
        refine wpAnyH_ready (rs := [15]) (by kernel_rfl) (by simp) ?_
        refine AllReadyH.cons (o := { dst := some 163, op := _, type := _, pos := _, after := _, guard := _ }) rfl (fun KK hK => ?_) AllReadyH.nil
        go_simp
        obtain ⟨wb, hwb⟩ : ∃ wb, wb = (wr.alloc (Obj.cells #[.pointer (some ⟨p.pz, 0, none⟩), .slice none 0 0, .slice (some ⟨gw, 0, none⟩) p.n p.n, .int .i64 lv, .int .i64 0, .int .i64 0] 65)).drew := ⟨_, rfl⟩
        have HSB := Lib.hid (show Blk wb wr.heap.size #[.pointer (some ⟨p.pz, 0, none⟩), .slice none 0 0, .slice (some ⟨gw, 0, none⟩) p.n p.n, .int .i64 lv, .int .i64 0, .int .i64 0] 65 by rw [hwb]; exact (Blk.new _ _ _).drew)
        have HBB := Lib.hid (show Below wr.heap.size wr wb by rw [hwb]; exact ((Below.refl _ _).alloc (Nat.le_refl _) _).drew)
        rw [← hwb]
        refine hK.out _ _ ⟨bel_cell3 HBB.out c2, bel_cell3 HBB.out m1, bel_cell3 HBB.out m2, bel_cell3 HBB.out d1⟩ (fun hHeld2 => ?_)
        clear hK KK hHeld hwb
        try simp only [Act.put, List.setIfInBounds_toArray, List.set_cons_zero, List.set_cons_succ]
        refine takeD (i := 16) (oi := { dst := some 17, op := _, type := _, pos := _, after := _, guard := _ }) (d := some 17) (v := ?vvb17) rfl rfl (by kernel_rfl) (by kernel_rfl) (by kernel_rfl) ?ddb17 (by rfl) ?yyb17 hHeld2 ?rrb17
        case ddb17 => first | exact fun _ _ _ h => h | exact fun _ _ _ h => HQ.out _ _ _ _ (by rfl) h
        case yyb17 => (intro wx hSw; obtain ⟨y0, y1, y2, y3⟩ := hSw; go_simp; try (with_reducible rfl))
        try simp only [Act.put, List.setIfInBounds_toArray, List.set_cons_zero, List.set_cons_succ]
        refine wpAnyH_done (by kernel_rfl) ?_ _
        clear hHeld2 c2 m1 m2 d1 f1
        have hszr := HD.out.bel.size
        have HRW := Lib.hid (show OwnF wb 3 gr p.n (rnF R R.length) from (HRR.out.below HD.out.bel HRR.out.lt).below HBB.out (by have := HRR.out.lt; omega))
        have hgrw : gr < wr.heap.size := by have := HRR.out.lt; omega
        have hAw : wA.heap.size ≤ wr.heap.size := HBW.out.size
        have HBAB := Lib.hid (show Below wA.heap.size wA wb from HBW.out.trans (HBB.out.mono hAw))
        have hbsz := HBB.out.size
        obtain ⟨b1, hb1⟩ : ∃ b1, b1 = wr.heap.size := ⟨_, rfl⟩
        rw [← hb1] at HSB HBB hgrw hAw hbsz ⊢
        have HB1 := Lib.hid hb1
        clear hb1
        go_upto_block 8 with fail
        go_cut [18, 19] from 165 to 208 (fun _ _ wx => ∃ av, Blk wx b1 #[.pointer (some ⟨p.pz, 0, none⟩), av, .slice (some ⟨gw, 0, none⟩) p.n p.n, .int .i64 lv, .int .i64 0, .int .i64 0] 65 ∧ RowI wx b1 3 1 av (atB R (chn (rnX K p.n R) R.length j)).length (plF (atB R (chn (rnX K p.n R) R.length j))) ∧ Below b1 wb wx)
        case first => exact sqChain HNS HOK HBAB HPA HMV HMT HRW HSB hgrw hAw (Nat.le_refl _) hbsz hn2 hRl hjR (Lib.hid fun c a a' w hd h => HQ.out c a a' w hd h) (by assumption) (by assumption)
        case rest =>
        obtain ⟨a0, hsb, hrow, hbel⟩ := hcut
        have hg := rnX_lt (K := K) HOK.out (Nat.le_refl _)
        have hcl := fun q hq => (chn_lt hg _ j rfl hjR q hq).2
        have hcne := chn_ne hg hjR
        obtain ⟨S, hS⟩ : ∃ S, S = atB R (chn (rnX K p.n R) R.length j) := ⟨_, rfl⟩
        have hSne : 0 < S.length := by
          rw [hS, chn_step hg hjR]
          have := rn_in HOK.out hjR
          have h2 : 0 < (rnG R j).length := List.length_pos_iff.2 this
          unfold atB
          simp only [List.map_cons, List.flatten_cons, List.length_append]
          omega
        have hS0 : S.getD 0 0 = x := by
          rw [hS, chn_step hg hjR, HX.out]
          unfold atB
          simp only [List.map_cons, List.flatten_cons]
          have := rn_in HOK.out hjR
          cases hr : rnG R j with
          | nil => exact absurd hr this
          | cons a t => rfl
        have hSpl : ∀ k, k < S.length → S.getD k 0 < p.n := fun k hk => by
          have : S.getD k 0 ∈ S := by rw [List.getD_eq_getElem?_getD, List.getElem?_eq_getElem hk]; exact List.getElem_mem hk
          have h2 : ∀ y, y ∈ S → y < p.n := fun y hy => by rw [hS] at hy; exact (atB_place HOK.out hcl hy).1
          exact h2 _ this
        have hSl : S.length ≤ p.n := by rw [hS]; exact atB_len HOK.out hg hjR
        rw [← hS] at hrow
        have HSS := Lib.hid hS
        obtain ⟨ga, ca, hav, hgab, hgal, hca1, hca2, _, hca⟩ := RowI.at hrow hSne
        subst hav
        have hbwc : Below wA.heap.size wA wc := HBAB.out.trans (hbel.mono hAw)
        have hPc := HPA.out.under hbwc (Nat.le_refl _)
        have hgwl := HOW.out.lt
        have hpzl := HPA.out.par.lt
        have hdz : b1 ≠ ga := fun e => rowI_blk hrow hsb (by decide) (by rw [← e]; simp [Value.ownBlock])
        have hq : Bq { sz := b1, pz := p.pz, ga := ga, gw := gw, gc := p.gc, gl := p.gl, go := p.go, gm := gm, n := p.n, m := S.length, cap := ca, A := fun k => S.getD k 0, K := K, lev := lv, beg := 0, en := 0, base := p.base, tv := p.tv } L (matB K p.n p.n) O wc :=
          ⟨⟨hsb, by have := hPc.par; rw [HMV.out] at this; exact this, fun k hk => hca k (by rw [Nat.mul_one]; exact hk), fun i hi => (HOW.out.below hbwc hgwl).cell hi⟩, hPc.lev, hPc.out, HMT.out.below hbwc HMT.out.lt⟩
        have HBO := Lib.hid (borders_any hq HTV.out hSne hSpl hSl hn2 hca1 hbase (by show 0 ≤ lv ∧ lv ≤ 1000; rw [HLV.out]; exact HL.out x) HL.out ⟨by show b1 ≠ p.pz; omega, hdz, by show b1 ≠ gw; omega⟩)
        have HROW := Lib.hid hrow
        have HBEL := Lib.hid hbel
        clear hq hsb hrow hbel hca hbwc hPc hSpl hcl hcne hg
        go_wp2_with fail
        refine HBO.out.mono ?_
        rintro e9 w3 ⟨rfl, hst3, hon3⟩
        have hb3 : Below wr.heap.size wr w3 := by
          rw [← HB1.out]
          exact HBB.out.trans (HBEL.out.trans (Only.to_below hon3 (Nat.le_trans hbsz HBEL.out.size) (Nat.le_refl _)))
        have hrow3 : RowI w3 b1 3 1 (.slice (some ⟨ga, 0, none⟩) S.length ca) S.length (plF S) := HROW.out.block (fun k hk => Aside.block hon3 k (rowI_lt3 HROW.out hk) (by simp [Value.ownBlock] at hk; omega) (by simp [Value.ownBlock]))
        have HSA := Lib.hid (show SeqAt p K L O (.slice (some ⟨gw, 0, none⟩) p.n p.n) w3 w0.heap.size b1 (.slice (some ⟨ga, 0, none⟩) S.length ca) S from by
          refine ⟨?_, hrow3.mono (by rw [HB1.out]; exact hszr), by rw [HB1.out]; exact hszr⟩
          have h1 := hst3.sb
          rw [hS0, ← HLV.out]
          rw [hS0, getD_last] at h1
          exact h1)
        obtain ⟨xs, hown0, hxl, hxs⟩ := (HD.out.out.below hb3 (Nat.le_refl _)).own
        have HX2 := Lib.hid hown0
        have HXL := Lib.hid hxl
        have HXS := Lib.hid hxs
        have HB3 := Lib.hid hb3
        have hs3 := hb3.size
        obtain ⟨H, hH⟩ : ∃ H, H = (hds (rnX K p.n R) j).length := ⟨_, rfl⟩
        have hHj : H ≤ j := by rw [hH]; unfold hds; have := List.length_filter_le (hdB (rnX K p.n R)) (List.range j); rw [List.length_range] at this; exact this
        rw [← hH] at HX2 HXL HXS ⊢
        have HHH := Lib.hid hH
        obtain ⟨ii, hii, hz0, hz1, hz2⟩ := info_parts (show (Tryd.prog.info? 42).map (fun i => (i.zero, i.size, i.bytes)) = some (some (.pointer none), 1, 8) by kernel_rfl)
        clear hown0 hxl hxs hst3 hon3 hb3 hrow3 HBO HROW HBEL HBB hH
        go_wp2_with (at_builtin; go_loud (refine wpList_append_own _ rfl _ _ 40 rfl (w0.heap.size) 42 ii _ 1 8 Tryd.underlying40 hii hz0 hz1 hz2 rfl (by decide) _ _ _ rfl (RowL.alloc HX2.out _) ⟨w3.heap.size, 0, none⟩ 1 1 [.pointer (some ⟨b1, 0, none⟩)] rfl rfl ?j1 ?j2 ?j3 ?j4 ?j5 ?_))
        try (case j1 =>
          intro q u hq
          have e : Addr.add ⟨w3.heap.size, 0, none⟩ q = ⟨w3.heap.size, q, none⟩ := by simp [Addr.add] <;> omega
          rw [e]
          exact cellNewD (by simpa using hq))
        try (case j2 => first | rfl | (intro u hu; simp at hu; subst hu; rfl))
        try (case j3 => unfold maxLen; (try simp); (try omega))
        try (case j4 => (try simp); (try omega))
        try (case j5 => (try simp); (try omega))
        intro v5 w5 hown hgrow _
        have HN := Lib.hid (HD.out.new HH.out HB3.out (by rw [← HSS.out]; exact HSA.out) (by rw [← HHH.out]; exact hgrow) (by rw [← HHH.out]; exact hown) (by rw [← HHH.out]; exact HXL.out) (by rw [← HHH.out]; exact HXS.out))
        clear hown hgrow hii hz0 hz1 hz2 HX2 HXL HXS
        go_wp2_with fail
        go_roundw
        case rel => exact ⟨j + 1, _, _, by go_num, by omega, HN.out⟩
        case measure => simp [intOf]; omega
    · obtain rfl : j = R.length := by omega
      go_wp2_with fail
      go_meet
      exact ⟨sz, av, HD.out⟩
/-- what sequences leaves: a row of pointers to sequences in memory, in the order of seqsB -/
def SqPost (p : PaP) (K L : Nat → Int) (O : Nat → Bool) (ow : Value) (w : World) (e : Ending) (w' : World) : Prop :=
  ∃ (v : Value) (sz : Nat → Nat) (av : Nat → Value), e = .returned v ∧ RowV w' w.heap.size 42 1 v (seqsB K p.n (rnsAt O L p.n)).length (fun t _ => .pointer (some ⟨sz t, 0, none⟩)) ∧ (∀ t, t < (seqsB K p.n (rnsAt O L p.n)).length → SeqAt p K L O ow w' w.heap.size (sz t) (av t) ((seqsB K p.n (rnsAt O L p.n)).getD t [])) ∧ Below w.heap.size w w'
set_option maxHeartbeats 8000000 in
theorem sequences_any {p : PaP} {C L K : Nat → Int} {O : Nat → Bool} {w : World} {gm gw tc : Nat} {ta : Option Addr} (hpo : PaOk p) (hp : Pa p C L O w) (hmv : p.mv = .slice (some ⟨gm, 0, none⟩) p.n p.n) (htv : p.tv = .slice ta p.n tc) (hmt : OwnF w 3 gm p.n (matB K p.n p.n)) (how : OwnF w 3 gw p.n K)
    (hbase : p.base = 0 ∨ p.base = 1) (hL : ∀ j, 0 ≤ L j ∧ L j ≤ 1000) :
    Calls Tryd.prog 15 #[.pointer (some ⟨p.pz, 0, none⟩), .slice (some ⟨gw, 0, none⟩) p.n p.n] w (SqPost p K L O (.slice (some ⟨gw, 0, none⟩) p.n p.n) w) := by
  have HPO := Lib.hid hpo
  have hn2 := hpo.n2
  have HP := Lib.hid hp
  have HMV := Lib.hid hmv
  have HTV := Lib.hid htv
  have HMT := Lib.hid hmt
  have HOW := Lib.hid how
  have HL := Lib.hid hL
  have HOK := Lib.hid (rns_ok (O := O) (L := L) p.n)
  have hRl := rns_len (O := O) (L := L) p.n
  obtain ⟨R, hR⟩ : ∃ R, R = rnsAt O L p.n := ⟨_, rfl⟩
  unfold SqPost
  rw [← hR] at HOK hRl ⊢
  have HR := Lib.hid hR
  have c0 : w.cell? ⟨p.pz, 0, none⟩ = some p.tv := hp.par.cell (i := 0) rfl
  rw [htv] at c0
  clear hpo hp hmv htv hmt how hL hR
  go_enter Tryd.func15, Tryd.ntmps15
  go_upto_block 0 with fail
  go_cut [5, 6, 7] from 25 to 79 (fun v _ _ wx => ∃ I, Below w.heap.size w wx ∧ NsI wx w.heap.size v (rnsAt O L p.n) I)
  case first => exact sqLoopA HP (Lib.hid (Below.refl _ _)) hn2 (by assumption) (by assumption)
  case rest =>
  obtain ⟨I, hbA, hns⟩ := hcut
  obtain ⟨wA, rfl⟩ : ∃ x : World, x = wc := ⟨_, rfl⟩
  obtain ⟨ra, rc, hv, hrc1, hrc2⟩ := hns.out.slice
  subst hv
  rw [← HR.out] at hns hrc1
  have HNS := Lib.hid hns
  have HBA := Lib.hid hbA
  rw [← HR.out]
  have hPA := HP.out.under hbA (Nat.le_refl _)
  have HPA := Lib.hid hPA
  have HMTA := Lib.hid (HMT.out.below hbA HMT.out.lt)
  have HOWA := Lib.hid (HOW.out.below hbA HOW.out.lt)
  have c0 : wA.cell? ⟨p.pz, 0, none⟩ = some p.tv := hPA.par.cell (i := 0) rfl
  rw [HTV.out] at c0
  have hsA := hbA.size
  have hmk1 := Ref.make_ints p.n (by omega) wA
  obtain ⟨w1, hw1⟩ : ∃ w1, w1 = wA.alloc (.cells (madeCells #[.int .i64 0] p.n) 3) := ⟨_, rfl⟩
  have hmk2 := make_bools R.length (by omega) w1
  have hw1s : w1.heap.size = wA.heap.size + 1 := by rw [hw1]; simp
  have HR1 := Lib.hid (show OwnF w1 3 wA.heap.size p.n (fun _ => 0) by rw [hw1]; exact OwnF.make _ _)
  have HB1 := Lib.hid (show Below wA.heap.size wA w1 by rw [hw1]; exact (Below.refl _ _).alloc (Nat.le_refl _) _)
  rw [← hw1] at hmk1
  obtain ⟨w2, hw2⟩ : ∃ w2, w2 = w1.alloc (.cells (madeCells #[.bool false] R.length) 4) := ⟨_, rfl⟩
  rw [← hw2] at hmk2
  have HR2 := Lib.hid (show OwnF w2 3 wA.heap.size p.n (fun _ => 0) by rw [hw2]; exact HR1.out.alloc _)
  have HF2 := Lib.hid (show OwnB w2 4 (wA.heap.size + 1) R.length (fun _ => false) by rw [hw2, ← hw1s]; exact OwnB.make _ _)
  have HB2 := Lib.hid (show Below wA.heap.size wA w2 by rw [hw2]; exact HB1.out.alloc (by omega) _)
  rw [hw1s] at hmk2
  obtain ⟨gr, hgr⟩ : ∃ g, g = wA.heap.size := ⟨_, rfl⟩
  obtain ⟨gf, hgf⟩ : ∃ g, g = wA.heap.size + 1 := ⟨_, rfl⟩
  rw [← hgr] at HR2 hmk1
  rw [← hgf] at HF2 hmk2
  have hgr2 : wA.heap.size ≤ gr := by omega
  have hgf2 : wA.heap.size ≤ gf := by omega
  have hgrf : gr ≠ gf := by omega
  clear hw1 hw2 hgr hgf hw1s hPA hns hbA
  go_upto_block 2 with fail
  go_cut [10, 11] from 91 to 103 (fun _ _ wx => OwnF wx 3 gr p.n (rnF R R.length) ∧ Only gr w2 wx)
  case first => exact sqLoopB HNS HOK HB2 HR2 hgr2 hn2 hRl (by assumption) (by assumption)
  case rest =>
  obtain ⟨hr3, ho3⟩ := hcut
  obtain ⟨w3, rfl⟩ : ∃ x : World, x = wc := ⟨_, rfl⟩
  have HR3 := Lib.hid hr3
  have HF3 := Lib.hid (show OwnB w3 4 gf R.length (fun _ => false) from HF2.out.block (Aside.block ho3 gf HF2.out.lt (Ne.symm hgrf) (by simp [Value.ownBlock])))
  have HB3 := Lib.hid (show Below wA.heap.size wA w3 from HB2.out.trans (Only.to_below ho3 HB2.out.size hgr2))
  clear hr3 ho3 HR2 HF2 HR1 hmk1 hmk2
  go_upto_block 4 with fail
  go_cut [13, 14] from 106 to 138 (fun _ _ wx => OwnB wx 4 gf R.length (flF K p.n R R.length) ∧ Only gf w3 wx)
  case first => exact sqLoopC HNS HOK HB3 HPA HMV HMTA HR3 HF3 hgf2 hgrf hn2 hRl (by assumption) (by assumption)
  case rest =>
  obtain ⟨hf4, ho4⟩ := hcut
  obtain ⟨w4, rfl⟩ : ∃ x : World, x = wc := ⟨_, rfl⟩
  have HF4 := Lib.hid hf4
  have HR4 := Lib.hid (show OwnF w4 3 gr p.n (rnF R R.length) from HR3.out.block (Aside.block ho4 gr HR3.out.lt hgrf (by simp [Value.ownBlock])))
  have HB4 := Lib.hid (show Below wA.heap.size wA w4 from HB3.out.trans (Only.to_below ho4 HB3.out.size hgf2))
  clear hf4 ho4 HR3 HF3
  go_upto_block 6 with fail
  go_cut [15, 16, 17, 18, 19] from 141 to 215 (fun v _ _ _ _ wx => ∃ sz av, SqD p K L O (.slice (some ⟨gw, 0, none⟩) p.n p.n) R w4 wx v R.length sz av)
  case first => exact sqLoopD HNS HOK HB4 HPO HPA HMV HTV HMTA HOWA HR4 HF4 hn2 hRl hbase HL (Lib.hid fun _ _ _ _ hd h => ⟨hd.symm.trans h.1, h.2⟩) (by assumption) (by assumption)
  case rest =>
  obtain ⟨sz, av, hd⟩ := hcut
  obtain ⟨w5, rfl⟩ : ∃ x : World, x = wc := ⟨_, rfl⟩
  obtain ⟨va, vc, hv5, _, _⟩ := hd.out.slice
  subst hv5
  have HD := Lib.hid hd
  clear hd
  go_wp2_with fail
  go_ret
  have hlow : w.heap.size ≤ w4.heap.size := Nat.le_trans hsA HB4.out.size
  have hsl : (seqsB K p.n R).length = (hds (rnX K p.n R) R.length).length := by unfold seqsB; rw [List.length_map]
  refine ⟨_, sz, av, rfl, ?_, fun t ht => ?_, (HBA.out.trans (HB4.out.mono hsA)).trans (HD.out.bel.mono hlow)⟩
  · rw [hsl]; exact HD.out.out.mono hlow
  · rw [hsl] at ht
    have h1 := HD.out.sq t ht
    have e : (seqsB K p.n R).getD t [] = atB R (chn (rnX K p.n R) R.length ((hds (rnX K p.n R) R.length).getD t 0)) := by
      unfold seqsB
      rw [List.getD_eq_getElem?_getD, List.getElem?_map, List.getElem?_eq_getElem ht, List.getD_eq_getElem?_getD, List.getElem?_eq_getElem ht]
      rfl
    rw [e]
    exact ⟨h1.blk, h1.row.mono hlow, Nat.le_trans hlow h1.low⟩
end Go.Proofs.YtojbicdmcodgdaaDoor.BD
namespace Go.Law.Bd
open Go Go.Law Go.RowKit
set_option linter.unusedVariables false
section
variable {T C Ow V L K : Nat → Int} {O : Nat → Bool} {bef own base : Int} {m n : Nat}
theorem bkSet_left (hb : bef = 0 ∨ bef = 1) (ho : own = 0 ∨ own = 1) (h : ∀ j, j < m → leftB (C j)) (x : Nat × Nat) : ∀ j, j < m → leftB (bkSet Ow bef own C x j) := by
  intro j hj
  unfold bkSet
  split
  · split
    · unfold leftB; omega
    · have := sdL_range (C := C) hb x.1
      unfold leftB; omega
  · exact h j hj
theorem fold_left (hb : bef = 0 ∨ bef = 1) (ho : own = 0 ∨ own = 1) : ∀ (l : List (Nat × Nat)) (C : Nat → Int), (∀ j, j < m → leftB (C j)) → ∀ j, j < m → leftB (l.foldl (bkSet Ow bef own) C j)
  | [], _, h => h
  | x :: t, C, h => by rw [List.foldl_cons]; exact fold_left hb ho t _ (bkSet_left hb ho h x)
theorem wBK_left (hb : bef = 0 ∨ bef = 1) (ho : own = 0 ∨ own = 1) (h : ∀ j, j < m → leftB (C j)) : ∀ j, j < m → leftB (wBK T Ow bef own m C j) := by
  unfold wBK
  cases bkAt T C m with
  | none => exact h
  | some s => exact fold_left hb ho _ C h
theorem sorted_len2 {n : Nat} {l : List Nat} (hp : l.Pairwise (· < ·)) (h : ∀ x, x ∈ l → x < n) : l.length ≤ n := by
  have key : ∀ (l : List Nat) (a : Nat), (∀ x, x ∈ l → a ≤ x ∧ x < n) → l.Pairwise (· < ·) → l.length ≤ n - a := by
    intro l
    induction l with
    | nil => intro a _ _; simp
    | cons y t ih =>
      intro a h hp
      have hy := h y (by simp)
      rw [List.pairwise_cons] at hp
      have := ih (y + 1) (fun x hx => ⟨hp.1 x hx, (h x (by simp [hx])).2⟩) hp.2
      simp only [List.length_cons]
      omega
  have := key l 0 (fun x hx => ⟨Nat.zero_le _, h x hx⟩) hp
  omega
theorem take_succ_getD {S : List (List Nat)} {t : Nat} (ht : t < S.length) : S.take (t + 1) = S.take t ++ [S.getD t []] := by
  rw [List.take_succ_eq_append_getElem ht, List.getD_eq_getElem?_getD, List.getElem?_eq_getElem ht]; rfl
/-- a place of an earlier sequence is of no later one -/
theorem take_not {S : List (List Nat)} (hd : S.Pairwise fun a b => ∀ x, x ∈ a → x ∉ b) {t : Nat} (ht : t < S.length) {x : Nat} (hx : x ∈ S.getD t []) : ∀ s, s ∈ S.take t → x ∉ s := by
  intro s hs h
  rw [List.getD_eq_getElem?_getD, List.getElem?_eq_getElem ht] at hx
  obtain ⟨i, hi, rfl⟩ := List.mem_iff_getElem.1 hs
  rw [List.getElem_take] at h
  have hi2 : i < t := by have := hi; rw [List.length_take] at this; omega
  exact List.pairwise_iff_getElem.1 hd i t (by omega) ht hi2 x h hx
theorem seqLv_in {S : List (List Nat)} (hd : S.Pairwise fun a b => ∀ x, x ∈ a → x ∉ b) {t k : Nat} (ht : t < S.length) (hn : (S.getD t []).Nodup) (hk : k < (S.getD t []).length) :
    seqLv O L V T K base n (S.take (t + 1)) ((S.getD t []).getD k 0) = seqLv O L V T K base n (S.take t) ((S.getD t []).getD k 0) + seqUp O L V T K base n (S.getD t []) k := by
  have hx : (S.getD t []).getD k 0 ∈ S.getD t [] := by rw [List.getD_eq_getElem?_getD (l := S.getD t []), List.getElem?_eq_getElem hk]; exact List.getElem_mem hk
  have h1 := take_not hd ht hx
  have hd2 : (S.take (t + 1)).Pairwise fun a b => ∀ x, x ∈ a → x ∉ b := hd.sublist (List.take_sublist _ _)
  have hs : S.getD t [] ∈ S.take (t + 1) := by rw [take_succ_getD ht]; simp
  rw [seqLv_at hd2 hs hx, seqLv_out h1]
  congr 2
  rw [List.getD_eq_getElem?_getD (l := S.getD t []), List.getElem?_eq_getElem hk]
  exact hn.idxOf_getElem k hk
theorem seqLv_ex {S : List (List Nat)} {t x : Nat} (ht : t < S.length) (hx : x ∉ S.getD t []) : seqLv O L V T K base n (S.take (t + 1)) x = seqLv O L V T K base n (S.take t) x := by
  unfold seqLv
  rw [take_succ_getD ht, List.find?_append]
  have : [S.getD t []].find? (fun s => s.contains x) = none := by
    rw [List.find?_eq_none]; intro s hs; simp at hs; subst hs; simpa using hx
  rw [this]
  cases (S.take t).find? fun s => s.contains x <;> rfl
end
end Go.Law.Bd
namespace Go.Proofs.YtojbicdmcodgdaaDoor.BD
open Go.RowKit Go.Law Go.Law.Bd
set_option linter.unusedVariables false
set_option linter.unusedSimpArgs false
set_option maxRecDepth 100000
section
variable {p : SqP} {C0 V : Nat → Int} {w0 w : World}
set_option maxHeartbeats 4000000 in
theorem ends_any (ok : SqOk p) (h : Sq p C0 w0 w V) :
    Calls Tryd.prog 39 #[.pointer (some ⟨p.sz, 0, none⟩)] w fun e w' => e = .returned (.tuple #[]) ∧ Sq p C0 w0 w' (w6 (wET V p.m)) := by
  have H := Lib.hid h
  have OK := Lib.hid ok
  have hm2 := ok.mn
  have hn2 := ok.n2
  clear h ok
  go_enter Tryd.func39, Tryd.ntmps39
  go_wp2_with fail
  go_loopw [2] (fun iv wr => ∃ k : Nat, iv = .int .i64 k ∧ k ≤ p.m ∧ (k = 0 ∨ V (k - 1) ≠ 5 ∨ k = p.m ∨ V k ≠ 5) ∧ Sq p C0 w0 wr (prt (wET V p.m) V k)) (fun iv _ => p.m - (intOf iv).toNat)
  case atStart => exact ⟨0, rfl, by omega, .inl rfl, H.out.congr fun j _ => (prt_zero _ _ _).symm⟩
  case round =>
    clear H
    obtain ⟨k, rfl, hk, hb, hq⟩ := hrel
    have HQ := Lib.hid hq
    have HB := Lib.hid hb
    have s1 : wr.cell? ⟨p.sz, 1, none⟩ = _ := hq.st.sb.cell (i := 1) rfl
    clear hq hb
    by_cases hkm : k < p.m
    · have HG := Lib.hid (getk0_any OK.out HQ.out k hkm)
      rw [prt_ge (Nat.le_refl _)] at HG
      by_cases h5 : V k = 5
      · rw [h5] at HG
        go_wp2_with fail
        refine HG.out.mono ?_
        rintro e w2 ⟨rfl, q, rfl⟩
        have H5 := Lib.hid h5
        clear HG h5
        go_upto_block 2 with fail
        go_cut [3] from 21 to 35 (fun v wx => ∃ t : Nat, v = .int .i64 t ∧ k ≤ t ∧ t ≤ p.m ∧ (∀ x, k ≤ x → x < t → V x = 5) ∧ (t = p.m ∨ V t ≠ 5) ∧ Sq p C0 w0 wx (prt (wET V p.m) V k))
        case first =>
          go_wp2_with fail
          go_loopw [3] (fun v wx => ∃ t : Nat, v = .int .i64 t ∧ k ≤ t ∧ t ≤ p.m ∧ (∀ x, k ≤ x → x < t → V x = 5) ∧ Sq p C0 w0 wx (prt (wET V p.m) V k)) (fun v _ => p.m - (intOf v).toNat)
          case atStart => exact ⟨k, rfl, Nat.le_refl _, by omega, fun x h1 h2 => by omega, HQ.out.drewN q⟩
          case round =>
            clear s1 HQ
            obtain ⟨t, rfl, hkt, htm, hall, hq⟩ := hrel
            have HQ := Lib.hid hq
            have HA := Lib.hid hall
            have s1 : wr.cell? ⟨p.sz, 1, none⟩ = _ := hq.st.sb.cell (i := 1) rfl
            clear hq hall
            by_cases htm2 : t < p.m
            · have HG := Lib.hid (getk0_any OK.out HQ.out t htm2)
              rw [prt_ge hkt] at HG
              by_cases h5 : V t = 5
              · rw [h5] at HG
                have HA2 := Lib.hid (show ∀ x, k ≤ x → x < t + 1 → V x = 5 from fun x h1 h2 => by
                  rcases Nat.lt_or_ge x t with h | h
                  · exact HA.out x h1 h
                  · rw [show x = t by omega]; exact h5)
                clear h5
                go_wp2_with fail
                refine HG.out.mono ?_
                rintro e w2 ⟨rfl, q, rfl⟩
                go_wp2_with fail
                go_roundw
                case rel => exact ⟨t + 1, by go_num, by omega, by omega, HA2.out, HQ.out.drewN q⟩
                case measure => simp [intOf]; omega
              · have h5' : (V t == 5) = false := by simpa using h5
                have HZ := Lib.hid h5
                clear h5
                go_wp2_with fail
                refine HG.out.mono ?_
                rintro e w2 ⟨rfl, q, rfl⟩
                go_wp2_with fail
                go_meet
                exact ⟨t, rfl, hkt, htm, HA.out, .inr HZ.out, HQ.out.drewN q⟩
            · go_wp2_with fail
              go_meet
              exact ⟨t, rfl, hkt, htm, HA.out, .inl (by omega), HQ.out⟩
        case rest =>
        clear HQ s1
        obtain ⟨t, rfl, hkt, htm, hall, hend, hq⟩ := hcut
        have hkt2 : k < t := by
          rcases Nat.lt_or_ge k t with h | h
          · exact h
          · obtain rfl : t = k := by omega
            rcases hend with h | h
            · omega
            · exact absurd H5.out h
        have hb0 : k = 0 ∨ V (k - 1) ≠ 5 := by
          rcases HB.out with h | h | h | h
          · exact .inl h
          · exact .inr h
          · omega
          · exact absurd H5.out h
        have HR := Lib.hid (fun j (h1 : k ≤ j) (h2 : j < t) => wET_run hb0 htm hend hall h1 h2)
        have HO := Lib.hid (show 0 < k → wET V p.m (k - 1) = V (k - 1) from fun h => wET_other (hb0.resolve_left (by omega)))
        have HN := Lib.hid (show t = 0 ∨ V (t - 1) ≠ 5 ∨ t = p.m ∨ V t ≠ 5 from .inr (.inr hend))
        have HALL := Lib.hid hall
        clear hb0 hend hall HB H5
        have HQ := Lib.hid hq
        have s1 : wc.cell? ⟨p.sz, 1, none⟩ = _ := hq.st.sb.cell (i := 1) rfl
        clear hq
        have e2 : ((t : Int) - 1) + 1 = t := by omega
        have hw1 := IntWalk.i64_in ((t : Int) - 1) (by omega)
        go_upto_region 7 with fail
        go_cut [59] from 36 to 59 (fun v wx => v = .bool (decide ((0 < k ∧ V (k - 1) = 3) ∨ (t < p.m ∧ V t = 3))) ∧ Sq p C0 w0 wx (prt (wET V p.m) V k))
        case first =>
          by_cases hk0 : 0 < k
          · have e1 : (k : Int) - 1 = ((k - 1 : Nat) : Int) := by omega
            have hw2 := IntWalk.i64_in ((k - 1 : Nat) : Int) (by omega)
            have HG1 := Lib.hid (getk0_any OK.out HQ.out (k - 1) (by omega))
            rw [prt_lt (show k - 1 < k by omega), HO.out hk0] at HG1
            by_cases h3 : V (k - 1) = 3
            · have HD := Lib.hid (show decide ((0 < k ∧ V (k - 1) = 3) ∨ (t < p.m ∧ V t = 3)) = true from decide_eq_true (.inl ⟨hk0, h3⟩))
              rw [h3] at HG1
              clear h3
              go_wp2_with fail
              refine HG1.out.mono ?_
              rintro e w2 ⟨rfl, q, rfl⟩
              go_wp2_with fail
              go_meet
              exact ⟨by rw [HD.out], HQ.out.drewN q⟩
            · have h3' : (V (k - 1) == 3) = false := by simpa using h3
              have HD := Lib.hid (show decide ((0 < k ∧ V (k - 1) = 3) ∨ (t < p.m ∧ V t = 3)) = decide (t < p.m ∧ V t = 3) by simp [h3])
              clear h3
              go_wp2_with fail
              refine HG1.out.mono ?_
              rintro e w2 ⟨rfl, q, rfl⟩
              by_cases htm3 : t < p.m
              · have HG2 := Lib.hid (getk_any OK.out HQ.out t htm3 q)
                rw [prt_ge (show k ≤ t by omega)] at HG2
                by_cases hv : V t = 3
                · have HD2 := Lib.hid (HD.out.trans (decide_eq_true ⟨htm3, hv⟩))
                  rw [hv] at HG2
                  clear hv
                  go_wp2_with fail
                  refine HG2.out.mono ?_
                  rintro e w2 ⟨rfl, q2, rfl⟩
                  go_wp2_with fail
                  go_meet
                  exact ⟨by rw [HD2.out], HQ.out.drewN q2⟩
                · have hv' : (V t == 3) = false := by simpa using hv
                  have HD2 := Lib.hid (HD.out.trans (decide_eq_false (fun h => hv h.2)))
                  clear hv
                  go_wp2_with fail
                  refine HG2.out.mono ?_
                  rintro e w2 ⟨rfl, q2, rfl⟩
                  go_wp2_with fail
                  go_meet
                  exact ⟨by rw [HD2.out], HQ.out.drewN q2⟩
              · have HD2 := Lib.hid (HD.out.trans (decide_eq_false (fun h => htm3 h.1)))
                go_wp2_with fail
                go_meet
                exact ⟨by rw [HD2.out], by first | exact HQ.out | exact HQ.out.drewN _⟩
          · have HD := Lib.hid (show decide ((0 < k ∧ V (k - 1) = 3) ∨ (t < p.m ∧ V t = 3)) = decide (t < p.m ∧ V t = 3) by simp [hk0])
            have hk1 : ¬ (0 : Int) < (k : Int) := by omega
            by_cases htm3 : t < p.m
            · have HG2 := Lib.hid (getk0_any OK.out HQ.out t htm3)
              rw [prt_ge (show k ≤ t by omega)] at HG2
              by_cases hv : V t = 3
              · have HD2 := Lib.hid (HD.out.trans (decide_eq_true ⟨htm3, hv⟩))
                rw [hv] at HG2
                clear hv
                go_wp2_with fail
                refine HG2.out.mono ?_
                rintro e w2 ⟨rfl, q2, rfl⟩
                go_wp2_with fail
                go_meet
                exact ⟨by rw [HD2.out], HQ.out.drewN q2⟩
              · have hv' : (V t == 3) = false := by simpa using hv
                have HD2 := Lib.hid (HD.out.trans (decide_eq_false (fun h => hv h.2)))
                clear hv
                go_wp2_with fail
                refine HG2.out.mono ?_
                rintro e w2 ⟨rfl, q2, rfl⟩
                go_wp2_with fail
                go_meet
                exact ⟨by rw [HD2.out], HQ.out.drewN q2⟩
            · have HD2 := Lib.hid (HD.out.trans (decide_eq_false (fun h => htm3 h.1)))
              go_wp2_with fail
              go_meet
              exact ⟨by rw [HD2.out], by first | exact HQ.out | exact HQ.out.drewN _⟩
        case rest =>
        obtain ⟨rfl, hq⟩ := hcut
        clear HQ s1
        have HQ := Lib.hid hq
        have s1 : wc.cell? ⟨p.sz, 1, none⟩ = _ := hq.st.sb.cell (i := 1) rfl
        clear hq HO
        by_cases hc : (0 < k ∧ V (k - 1) = 3) ∨ (t < p.m ∧ V t = 3)
        · have HW := Lib.hid (show ∀ j, k ≤ j → j < t → wET V p.m j = 3 from fun j h1 h2 => by rw [HR.out j h1 h2, if_pos hc])
          have hd : decide ((0 < k ∧ V (k - 1) = 3) ∨ (t < p.m ∧ V t = 3)) = true := decide_eq_true hc
          rw [hd]
          clear hc hd HR
          go_wp2_with fail
          go_loopw [4] (fun v wx => ∃ i : Nat, v = .int .i64 i ∧ k ≤ i ∧ i ≤ t ∧ Sq p C0 w0 wx (prt (wET V p.m) V i)) (fun v _ => t - (intOf v).toNat)
          case atStart => exact ⟨k, rfl, Nat.le_refl _, by omega, HQ.out⟩
          case round =>
            clear HQ s1
            obtain ⟨i, rfl, hki, hit, hq⟩ := hrel
            have HQ := Lib.hid hq
            clear hq
            by_cases hit2 : i < t
            · go_wp2_with fail
              refine (set_any OK.out HQ.out i (by omega) 3).mono ?_
              rintro e w3 ⟨rfl, hq3⟩
              have HQ3 := Lib.hid (hq3.congr fun j _ => prt_set _ _ i (HW.out i hki hit2) j)
              clear hq3 HQ
              go_wp2_with fail
              go_roundw
              case rel => exact ⟨i + 1, by go_num, by omega, by omega, HQ3.out⟩
              case measure => simp [intOf]; omega
            · obtain rfl : i = t := by omega
              go_wp2_with fail
              go_roundw
              case rel => exact ⟨i, rfl, by omega, HN.out, HQ.out⟩
              case measure => simp [intOf]; omega
        · have HW := Lib.hid (show ∀ j, k ≤ j → j < t → wET V p.m j = V j from fun j h1 h2 => by rw [HR.out j h1 h2, if_neg hc, HALL.out j h1 h2])
          have hd : decide ((0 < k ∧ V (k - 1) = 3) ∨ (t < p.m ∧ V t = 3)) = false := decide_eq_false hc
          rw [hd]
          have HQ2 := Lib.hid (show Sq p C0 w0 wc (prt (wET V p.m) V t) from HQ.out.congr fun j _ => by
            rcases Nat.lt_or_ge j k with h | h
            · rw [prt_lt h, prt_lt (by omega)]
            · rw [prt_ge h]
              rcases Nat.lt_or_ge j t with h2 | h2
              · rw [prt_lt h2, HW.out j h h2]
              · rw [prt_ge h2])
          clear hc hd HR HQ
          go_wp2_with fail
          go_roundw
          case rel => exact ⟨t, rfl, by omega, HN.out, HQ2.out⟩
          case measure => simp [intOf]; omega
      · have h5' : (V k != 5) = true := by simpa using h5
        have HE := Lib.hid (wET_other (m := p.m) h5)
        have H5 := Lib.hid h5
        clear h5
        go_wp2_with fail
        refine HG.out.mono ?_
        rintro e w2 ⟨rfl, q, rfl⟩
        go_wp2_with fail
        go_roundw
        case rel => exact ⟨k + 1, by go_num, by omega, .inr (.inl H5.out), (HQ.out.drewN q).congr fun j _ => prt_same HE.out j⟩
        case measure => simp [intOf]; omega
    · obtain rfl : k = p.m := by omega
      have HQ2 := Lib.hid (HQ.out.congr fun j hj => prt_lt hj)
      clear HQ HB
      go_wp2_with fail
      go_loopw [76] (fun iv wr => ∃ k : Nat, iv = .int .i64 k ∧ k ≤ p.m ∧ Sq p C0 w0 wr (prt (w6 (wET V p.m)) (wET V p.m) k)) (fun iv _ => p.m - (intOf iv).toNat)
      case atStart => exact ⟨0, rfl, by omega, HQ2.out.congr fun j _ => (prt_zero _ _ _).symm⟩
      case round =>
        clear HQ2 s1
        obtain ⟨k, rfl, hk, hq⟩ := hrel
        have HQ := Lib.hid hq
        clear hq
        by_cases hkm : k < p.m
        · have HG := Lib.hid (getk0_any OK.out HQ.out k hkm)
          rw [prt_ge (Nat.le_refl _)] at HG
          obtain ⟨x, hx⟩ : ∃ x, x = wET V p.m k := ⟨_, rfl⟩
          have HX := Lib.hid hx
          rw [← hx] at HG
          clear hx
          by_cases h4 : x = 4 ∨ x = 5 ∨ x = 7
          · have HW := Lib.hid (show w6 (wET V p.m) k = 13 by unfold w6; rw [← HX.out, if_pos h4])
            rcases h4 with rfl | rfl | rfl
            all_goals
              go_wp2_with fail
              refine HG.out.mono ?_
              rintro e w2 ⟨rfl, q, rfl⟩
              go_wp2_with fail
              refine (set_any OK.out (HQ.out.drewN q) k hkm 13).mono ?_
              rintro e w3 ⟨rfl, hq3⟩
              have HQ3 := Lib.hid (hq3.congr fun j _ => prt_set _ _ k HW.out j)
              clear hq3 HQ HG
              go_wp2_with fail
              go_roundw
              case rel => exact ⟨k + 1, by go_num, by omega, HQ3.out⟩
              case measure => simp [intOf]; omega
          · have HW := Lib.hid (show w6 (wET V p.m) k = wET V p.m k by unfold w6; rw [← HX.out, if_neg h4])
            have f4 : (x == 4) = false := by simp; omega
            have f5 : (x == 5) = false := by simp; omega
            have f7 : (x == 7) = false := by simp; omega
            clear h4
            go_wp2_with fail
            refine HG.out.mono ?_
            rintro e w2 ⟨rfl, q, rfl⟩
            go_wp2_with fail
            go_roundw
            case rel => exact ⟨k + 1, by go_num, by omega, (HQ.out.drewN q).congr fun j _ => prt_same HW.out j⟩
            case measure => simp [intOf]; omega
        · obtain rfl : k = p.m := by omega
          go_wp2_with fail
          first | go_end0 | (simp only [Exit.inBlock, Exit.then]; refine bodyPost_ret (results_none rfl _ _ _) rfl ?_) | refine bodyPost_ret (results_none rfl _ _ _) rfl ?_
          exact ⟨rfl, HQ.out.congr fun j hj => prt_lt hj⟩
end
end Go.Proofs.YtojbicdmcodgdaaDoor.BD
