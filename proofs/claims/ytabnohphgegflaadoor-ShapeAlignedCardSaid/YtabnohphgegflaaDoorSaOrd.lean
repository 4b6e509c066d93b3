

/-
  The reference's order of items.
-/
import Derived.Test.YtabnohphgegflaaDoorSaOrdP
import Derived.Test.YtabnohphgegflaaDoorSaFrameR
import Derived.Test.YtabnohphgegflaaDoorShFind
import Derived.Test.YtabnohphgegflaaDoorTakes
import Derived.Test.YtabnohphgegflaaDoorParts
import Derived.BigRegion
namespace Go.Proofs.YtabnohphgegflaaDoor.ShT
open Go.RowKit Go.Law Go.Law.Sh
set_option linter.unusedVariables false
set_option linter.unusedSimpArgs false
set_option maxRecDepth 100000
set_option maxHeartbeats 8000000 in
theorem rsSort {n c ca cap g b0 off0 : Nat} {E : Nat → Nat → Int} {N : Nat → Nat → ByteArray} {It : Nat → Int} {ax : Int} {w w1 : World} (hn : n ≤ 1000) (hc2 : c ≤ 1000)
    (HA : Hid (ShF w (some ⟨b0, off0, none⟩) n E N)) (HT : Hid (Arr w 6)) (HRI : Hid (∀ k, k < n → Right E k)) (HFI : Hid (∀ i, i < c → ∃ k : Nat, k < n ∧ findV n E (It i) = k)) (HDI : Hid (∀ a b, a < b → b < c → plc n E It a ≠ plc n E It b))
    (HB1 : Hid (Below w.heap.size w w1)) (HR1 : Hid (RowI w1 w.heap.size 3 1 (.slice (some ⟨g, 0, none⟩) c cap) c It)) (hgB : w.heap.size ≤ g)
    {s1 s3 s4 s5 s6 s7 s8 s9 s10 s11 s13 s14 s15 s16 s17 s18 s19 s20 s21 s22 s23 s24 s25 s26 s27 s28 s29 s30 s31 s32 s33 s34 s35 s36 s37 s38 s39 s40 s41 s42 s43 s44 s45 s46 s47 s48 s49 s50 s51 s52 s53 s54 s55 s56 s57 s58 s61 s62 s63 s64 s65 s66 s67 s68 s69 s70 s71 s72 s73 s74 s75 s76 s77 s78 s79 s80 s81 s82 s83 s84 s85 s86 s87 s88 s89 s90 s91 s92 s93 s94 s95 s96 s97 s98 s99 s100 s101 s102 s103 s104 s105 s106 s107 s108 s109 s110 s111 s112 s113 s114 s115 s116 s117 s118 s119 s120 s121 s122 s123 s124 s125 s126 s127 s128 s129 s130 s131 s132 s133 s134 s135 s136 s137 s138 s139 s140 s141 s142 s143 s144 s145 s146 s147 s148 s149 s150 s151 s152 s153 s154 s155 s156 s157 s158 s159 s160 s161 s162 s163 s164 s165 s166 s167 s168 s169 s170 s171 s172 s173 s174 s175 s176 s177 s178 s179 s180 s181 s182 s183 s184 s185 s186 s187 s188 s189 s190 s191 s192 s193 s194 s195 s196 s197 s198 s199 s200 s201 s202 s203 s204 s205 s206 s207 s208 s209 s210 s211 s212 s213 s214 s215 s216 s217 s218 s219 s220 s221 s222 s223 s224 s225 s226 s227 s228 s229 s230 s231 s232 s233 s234 : Value} {J K : Act → World → Prop} {Q : Exit → Act → World → Prop}
    (HQ : Hid (∀ (c : List PanicEntry) (a a' : Act) (w : World), a.defers = a'.defers → Q (.panic c) a w → Q (.panic c) a' w))
    (hJ : ∀ (a' : Act) (w' : World), (∃ u13 u14 u15 u16 u17 u18 u19 u20 u60 u61 u62 u63 u64 u65 u66 u67 u68 u69 u70 u71 u72 u73 u74 u75 u76 u77 u78 u79 u80 u81 u82 u83 u84 u85 u86 u87 u88 u89 u90 u91 u92 u93 u94 u95 u96 u97 u98 u99 u100 u101 u102 u103 u104 u105 u106 u107 u108 u109 u110 u111 u112 u113 u114 u115 u116 u117 u118 u119 u120 u121 u122 u123 u124 u125 u126 u127 u128 : Value, (Below w.heap.size w w' ∧ ∃ O, RowI w' w.heap.size 3 1 (.slice (some ⟨g, 0, none⟩) c cap) c O ∧ PermF c O It ∧ ∀ a b, a < b → b < c → lexL (fun p => extA (E p.toNat) ax) (plc n E O a) (plc n E O b)) ∧ a' = ⟨#[.slice (some ⟨b0, off0, none⟩) n ca, s1, .int .i64 ax, s3, s4, s5, s6, s7, s8, s9, s10, s11, .slice (some ⟨g, 0, none⟩) c cap, u13, u14, u15, u16, u17, u18, u19, u20, s21, s22, s23, s24, s25, s26, s27, s28, s29, s30, s31, s32, s33, s34, s35, s36, s37, s38, s39, s40, s41, s42, s43, s44, s45, s46, s47, s48, s49, s50, s51, s52, s53, s54, s55, s56, s57, s58, .int .i64 c, u60, u61, u62, u63, u64, u65, u66, u67, u68, u69, u70, u71, u72, u73, u74, u75, u76, u77, u78, u79, u80, u81, u82, u83, u84, u85, u86, u87, u88, u89, u90, u91, u92, u93, u94, u95, u96, u97, u98, u99, u100, u101, u102, u103, u104, u105, u106, u107, u108, u109, u110, u111, u112, u113, u114, u115, u116, u117, u118, u119, u120, u121, u122, u123, u124, u125, u126, u127, u128, s129, s130, s131, s132, s133, s134, s135, s136, s137, s138, s139, s140, s141, s142, s143, s144, s145, s146, s147, s148, s149, s150, s151, s152, s153, s154, s155, s156, s157, s158, s159, s160, s161, s162, s163, s164, s165, s166, s167, s168, s169, s170, s171, s172, s173, s174, s175, s176, s177, s178, s179, s180, s181, s182, s183, s184, s185, s186, s187, s188, s189, s190, s191, s192, s193, s194, s195, s196, s197, s198, s199, s200, s201, s202, s203, s204, s205, s206, s207, s208, s209, s210, s211, s212, s213, s214, s215, s216, s217, s218, s219, s220, s221, s222, s223, s224, s225, s226, s227, s228, s229, s230, s231, s232, s233, s234], []⟩) → J a' w')
    (hK : ∀ (a' : Act) (w' : World), Met J a' w' → K a' w') :
    Code.wp Tryd.prog (theBlk Tryd.f12 0) (Exit.then K Q) ⟨#[.slice (some ⟨b0, off0, none⟩) n ca, s1, .int .i64 ax, s3, s4, s5, s6, s7, s8, s9, s10, s11, .slice (some ⟨g, 0, none⟩) c cap, s13, s14, s15, s16, s17, s18, s19, s20, s21, s22, s23, s24, s25, s26, s27, s28, s29, s30, s31, s32, s33, s34, s35, s36, s37, s38, s39, s40, s41, s42, s43, s44, s45, s46, s47, s48, s49, s50, s51, s52, s53, s54, s55, s56, s57, s58, .int .i64 c, .int .i64 0, s61, s62, s63, s64, s65, s66, s67, s68, s69, s70, s71, s72, s73, s74, s75, s76, s77, s78, s79, s80, s81, s82, s83, s84, s85, s86, s87, s88, s89, s90, s91, s92, s93, s94, s95, s96, s97, s98, s99, s100, s101, s102, s103, s104, s105, s106, s107, s108, s109, s110, s111, s112, s113, s114, s115, s116, s117, s118, s119, s120, s121, s122, s123, s124, s125, s126, s127, s128, s129, s130, s131, s132, s133, s134, s135, s136, s137, s138, s139, s140, s141, s142, s143, s144, s145, s146, s147, s148, s149, s150, s151, s152, s153, s154, s155, s156, s157, s158, s159, s160, s161, s162, s163, s164, s165, s166, s167, s168, s169, s170, s171, s172, s173, s174, s175, s176, s177, s178, s179, s180, s181, s182, s183, s184, s185, s186, s187, s188, s189, s190, s191, s192, s193, s194, s195, s196, s197, s198, s199, s200, s201, s202, s203, s204, s205, s206, s207, s208, s209, s210, s211, s212, s213, s214, s215, s216, s217, s218, s219, s220, s221, s222, s223, s224, s225, s226, s227, s228, s229, s230, s231, s232, s233, s234], []⟩ w1 := by
  conv => arg 2; whnf
  go_wp2_with fail
  obtain ⟨X, hX⟩ : ∃ X : Int → Int, X = fun p => extA (E p.toNat) ax := ⟨_, rfl⟩
  have HX := Lib.hid (show ∀ p, X p = extA (E p.toNat) ax from fun p => by rw [hX])
  rw [← hX] at hJ
  clear hX
  go_loopw [60] (fun ix wr => ∃ i : Nat, ix = .int .i64 i ∧ i ≤ c ∧ Below w.heap.size w wr ∧ ∃ O, RowI wr w.heap.size 3 1 (.slice (some ⟨g, 0, none⟩) c cap) c O ∧ PermF c O It ∧ ∀ a b, a < b → b < i → lexL X (plc n E O a) (plc n E O b)) (fun ix _ => c - (intOf ix).toNat)
  case atStart => exact ⟨0, rfl, by omega, HB1.out, It, HR1.out, PermF.refl _ _, fun a b h1 h2 => by omega⟩
  case round =>
    obtain ⟨i, rfl, hic, hbel, O, hrow, hperm, hord⟩ := hrel
    have HB := Lib.hid hbel
    have HR := Lib.hid hrow
    have HP := Lib.hid hperm
    have HO := Lib.hid hord
    clear hbel hrow hperm hord HB1 HR1
    by_cases h : i < c
    · have hi2 : (i : Int) < (c : Int) := by omega
      go_wp2_with fail
      go_loopw [14] (fun jx wr => ∃ j : Nat, jx = .int .i64 j ∧ j ≤ i ∧ Below w.heap.size w wr ∧ ∃ O, RowI wr w.heap.size 3 1 (.slice (some ⟨g, 0, none⟩) c cap) c O ∧ PermF c O It ∧ InsR X (plc n E O) i j) (fun jx _ => (intOf jx).toNat)
      case atStart => exact ⟨i, rfl, by omega, HB.out, O, HR.out, HP.out, insR_start HO.out⟩
      case round =>
        clear HB HR HP HO
        obtain ⟨j, rfl, hji, hbel, O', hrow, hperm, hins⟩ := hrel
        have HB := Lib.hid hbel
        have HR := Lib.hid hrow
        have HP := Lib.hid hperm
        have HI := Lib.hid hins
        clear hbel hrow hperm hins
        by_cases hj0 : j = 0
        · subst hj0
          have HSE := Lib.hid (insR_end HI.out (by omega) (.inl rfl))
          go_wp2_with fail
          go_roundw
          case rel => exact ⟨i + 1, by go_num, by omega, HB.out, O', HR.out, HP.out, HSE.out⟩
          case measure => simp [intOf]; omega
        · have hj1 : (0 : Int) < (j : Int) := by omega
          have hj2 : 0 < j := by omega
          obtain ⟨_, _, hv, _, hlt, _, _, hfz, hcc⟩ := RowI.at HR.out (by omega)
          cases hv
          have c1 := hcc j (by omega)
          have c2 := hcc (j - 1) (by omega)
          obtain ⟨v, hv⟩ : ∃ v, v = O' j := ⟨_, rfl⟩
          obtain ⟨u, hu⟩ : ∃ v, v = O' (j - 1) := ⟨_, rfl⟩
          rw [← hv] at c1
          rw [← hu] at c2
          have HVV := Lib.hid hv
          have HUU := Lib.hid hu
          have hjc : (j : Int) < (c : Int) := by omega
          have hj3 : (0 : Int) ≤ (j : Int) := by omega
          have e1 : (j : Int) - 1 = ((j - 1 : Nat) : Int) := by omega
          have hjc2 : ((j - 1 : Nat) : Int) < (c : Int) := by omega
          have hj4 : (0 : Int) ≤ ((j - 1 : Nat) : Int) := by omega
          have hw1 := IntWalk.i64_in ((j - 1 : Nat) : Int) (by omega)
          obtain ⟨kv, hkv, hkvf⟩ : ∃ k : Nat, k < n ∧ findV n E v = k := by
            obtain ⟨q, hq, e⟩ := HP.out.mem (i := j) (by omega)
            rw [hv, ← e]; exact HFI.out q hq
          obtain ⟨ku, hku, hkuf⟩ : ∃ k : Nat, k < n ∧ findV n E u = k := by
            obtain ⟨q, hq, e⟩ := HP.out.mem (i := j - 1) (by omega)
            rw [hu, ← e]; exact HFI.out q hq
          have HKV := Lib.hid (show plc n E O' j = kv by unfold plc; rw [← hv]; exact hkvf)
          have HKU := Lib.hid (show plc n E O' (j - 1) = ku by unfold plc; rw [← hu]; exact hkuf)
          have HNE := Lib.hid (show (ku : Int) ≠ kv by
            rw [← HKV.out, ← HKU.out]
            exact (PermF.distinct (plc_perm HP.out) HDI.out) (j - 1) j (by omega) (by omega))
          have HSV := Lib.hid (fun W (hW : Below w.heap.size w W) => shapeAt_any n E N v (some ⟨b0, off0, none⟩) ca W (HA.out.below (Nat.le_refl _) hW) (by omega))
          have HSU := Lib.hid (fun W (hW : Below w.heap.size w W) => shapeAt_any n E N u (some ⟨b0, off0, none⟩) ca W (HA.out.below (Nat.le_refl _) hW) (by omega))
          rw [hkvf] at HSV
          rw [hkuf] at HSU
          clear hcc hv hu hfz hkvf hkuf
          go_upto_region 13 with fail
          refine wp_region_held_drew (S := fun w' => w'.cell? ⟨g, j, none⟩ = some (.int .i64 v) ∧ w'.cell? ⟨g, j - 1, none⟩ = some (.int .i64 u)) (by kernel_rfl) (by exact ⟨by rw [World.cell?_drew]; exact c1, by rw [World.cell?_drew]; exact c2⟩) ?_
          intro hHeld
          refine takeD (i := 0) (oi := { dst := some 68, op := _, type := _, pos := _, after := _, guard := _ }) (d := some 68) (v := ?vva68) rfl rfl (by kernel_rfl) (by kernel_rfl) (by kernel_rfl) ?dda68 (by rfl) ?yya68 hHeld ?rra68
          case dda68 => first | exact fun _ _ _ h => h | exact fun _ _ _ h => HQ.out _ _ _ _ (by rfl) h
          case yya68 => (intro wx hSw; obtain ⟨y0, y1⟩ := hSw; go_simp; try (with_reducible rfl))
          try simp only [Act.put, List.setIfInBounds_toArray, List.set_cons_zero, List.set_cons_succ]
          refine takeD (i := 1) (oi := { dst := some 69, op := _, type := _, pos := _, after := _, guard := _ }) (d := some 69) (v := ?vva69) rfl rfl (by kernel_rfl) (by kernel_rfl) (by kernel_rfl) ?dda69 (by rfl) ?yya69 hHeld ?rra69
          case dda69 => first | exact fun _ _ _ h => h | exact fun _ _ _ h => HQ.out _ _ _ _ (by rfl) h
          case yya69 => (intro wx hSw; obtain ⟨y0, y1⟩ := hSw; go_simp; try (with_reducible rfl))
          try simp only [Act.put, List.setIfInBounds_toArray, List.set_cons_zero, List.set_cons_succ]
          refine takeD (i := 2) (oi := { dst := some 70, op := _, type := _, pos := _, after := _, guard := _ }) (d := some 70) (v := ?vva70) rfl rfl (by kernel_rfl) (by kernel_rfl) (by kernel_rfl) ?dda70 (by rfl) ?yya70 hHeld ?rra70
          case dda70 => first | exact fun _ _ _ h => h | exact fun _ _ _ h => HQ.out _ _ _ _ (by rfl) h
          case yya70 => (intro wx hSw; obtain ⟨y0, y1⟩ := hSw; go_simp; try (with_reducible rfl))
          try simp only [Act.put, List.setIfInBounds_toArray, List.set_cons_zero, List.set_cons_succ]
          refine takeD (i := 3) (oi := { dst := some 71, op := _, type := _, pos := _, after := _, guard := _ }) (d := some 71) (v := ?vva71) rfl rfl (by kernel_rfl) (by kernel_rfl) (by kernel_rfl) ?dda71 (by rfl) ?yya71 hHeld ?rra71
          case dda71 => first | exact fun _ _ _ h => h | exact fun _ _ _ h => HQ.out _ _ _ _ (by rfl) h
          case yya71 => (intro wx hSw; obtain ⟨y0, y1⟩ := hSw; go_simp; try (with_reducible rfl))
          try simp only [Act.put, List.setIfInBounds_toArray, List.set_cons_zero, List.set_cons_succ]
          refine takeD (i := 4) (oi := { dst := some 72, op := _, type := _, pos := _, after := _, guard := _ }) (d := some 72) (v := ?vva72) rfl rfl (by kernel_rfl) (by kernel_rfl) (by kernel_rfl) ?dda72 (by rfl) ?yya72 hHeld ?rra72
          case dda72 => first | exact fun _ _ _ h => h | exact fun _ _ _ h => HQ.out _ _ _ _ (by rfl) h
          case yya72 => (intro wx hSw; obtain ⟨y0, y1⟩ := hSw; go_simp; try (with_reducible rfl))
          try simp only [Act.put, List.setIfInBounds_toArray, List.set_cons_zero, List.set_cons_succ]
          refine takeD (i := 5) (oi := { dst := some 73, op := _, type := _, pos := _, after := _, guard := _ }) (d := some 73) (v := ?vva73) rfl rfl (by kernel_rfl) (by kernel_rfl) (by kernel_rfl) ?dda73 (by rfl) ?yya73 hHeld ?rra73
          case dda73 => first | exact fun _ _ _ h => h | exact fun _ _ _ h => HQ.out _ _ _ _ (by rfl) h
          case yya73 => (intro wx hSw; obtain ⟨y0, y1⟩ := hSw; go_simp; try (with_reducible rfl))
          try simp only [Act.put, List.setIfInBounds_toArray, List.set_cons_zero, List.set_cons_succ]
          refine takeD (i := 7) (oi := { dst := some 75, op := _, type := _, pos := _, after := _, guard := _ }) (d := some 75) (v := ?vva75) rfl rfl (by kernel_rfl) (by kernel_rfl) (by kernel_rfl) ?dda75 (by rfl) ?yya75 hHeld ?rra75
          case dda75 => first | exact fun _ _ _ h => h | exact fun _ _ _ h => HQ.out _ _ _ _ (by rfl) h
          case yya75 => (intro wx hSw; obtain ⟨y0, y1⟩ := hSw; go_simp; try (with_reducible rfl))
          try simp only [Act.put, List.setIfInBounds_toArray, List.set_cons_zero, List.set_cons_succ]
          refine takeD (i := 8) (oi := { dst := some 76, op := _, type := _, pos := _, after := _, guard := _ }) (d := some 76) (v := ?vva76) rfl rfl (by kernel_rfl) (by kernel_rfl) (by kernel_rfl) ?dda76 (by rfl) ?yya76 hHeld ?rra76
          case dda76 => first | exact fun _ _ _ h => h | exact fun _ _ _ h => HQ.out _ _ _ _ (by rfl) h
          case yya76 => (intro wx hSw; obtain ⟨y0, y1⟩ := hSw; go_simp; try (with_reducible rfl))
          try simp only [Act.put, List.setIfInBounds_toArray, List.set_cons_zero, List.set_cons_succ]
          refine takeD (i := 9) (oi := { dst := some 77, op := _, type := _, pos := _, after := _, guard := _ }) (d := some 77) (v := ?vva77) rfl rfl (by kernel_rfl) (by kernel_rfl) (by kernel_rfl) ?dda77 (by rfl) ?yya77 hHeld ?rra77
          case dda77 => first | exact fun _ _ _ h => h | exact fun _ _ _ h => HQ.out _ _ _ _ (by rfl) h
          case yya77 => (intro wx hSw; obtain ⟨y0, y1⟩ := hSw; go_simp; try (with_reducible rfl))
          try simp only [Act.put, List.setIfInBounds_toArray, List.set_cons_zero, List.set_cons_succ]
          refine takeD (i := 10) (oi := { dst := some 78, op := _, type := _, pos := _, after := _, guard := _ }) (d := some 78) (v := ?vva78) rfl rfl (by kernel_rfl) (by kernel_rfl) (by kernel_rfl) ?dda78 (by rfl) ?yya78 hHeld ?rra78
          case dda78 => first | exact fun _ _ _ h => h | exact fun _ _ _ h => HQ.out _ _ _ _ (by rfl) h
          case yya78 => (intro wx hSw; obtain ⟨y0, y1⟩ := hSw; go_simp; try (with_reducible rfl))
          try simp only [Act.put, List.setIfInBounds_toArray, List.set_cons_zero, List.set_cons_succ]
          refine takeD (i := 11) (oi := { dst := some 79, op := _, type := _, pos := _, after := _, guard := _ }) (d := some 79) (v := ?vva79) rfl rfl (by kernel_rfl) (by kernel_rfl) (by kernel_rfl) ?dda79 (by rfl) ?yya79 hHeld ?rra79
          case dda79 => first | exact fun _ _ _ h => h | exact fun _ _ _ h => HQ.out _ _ _ _ (by rfl) h
          case yya79 => (intro wx hSw; obtain ⟨y0, y1⟩ := hSw; go_simp; try (with_reducible rfl))
          try simp only [Act.put, List.setIfInBounds_toArray, List.set_cons_zero, List.set_cons_succ]
          refine wpAnyH_ready (rs := [6]) (by kernel_rfl) (by simp) ?_
          refine AllReadyH.cons (o := { dst := some 74, op := _, type := _, pos := _, after := _, guard := _ }) rfl (fun K hK => ?_) AllReadyH.nil
          go_simp
          refine (HSU.out wr.drew HB.out.drew).mono ?_
          rintro e w2 ⟨rfl, hb2⟩
          have HB2 := Lib.hid (HB.out.drew.trans (hb2.mono HB.out.size))
          have HR2 := Lib.hid (RowI.below (RowI.drew HR.out) hb2 (Nat.le_refl _))
          have HC2 := Lib.hid (show w2.cell? ⟨g, j, none⟩ = some (.int .i64 v) ∧ w2.cell? ⟨g, j - 1, none⟩ = some (.int .i64 u) from ⟨by rw [hb2.cell (by simp; omega), World.cell?_drew]; exact c1, by rw [hb2.cell (by simp; omega), World.cell?_drew]; exact c2⟩)
          have hs2 := hb2.size
          refine hK.out _ _ HC2.out (fun hHeld2 => ?_)
          clear hK K hHeld hb2
          try simp only [Act.put, List.setIfInBounds_toArray, List.set_cons_zero, List.set_cons_succ]
          refine wpAnyH_ready (rs := [12]) (by kernel_rfl) (by simp) ?_
          refine AllReadyH.cons (o := { dst := some 80, op := _, type := _, pos := _, after := _, guard := _ }) rfl (fun K hK => ?_) AllReadyH.nil
          go_simp
          refine (HSV.out w2 HB2.out).mono ?_
          rintro e w3 ⟨rfl, hb3⟩
          have HB3 := Lib.hid (HB2.out.trans (hb3.mono HB2.out.size))
          have HR3 := Lib.hid (RowI.below HR2.out hb3 (Nat.le_refl _))
          refine hK.out _ _ ⟨by rw [hb3.cell (lt_of_cell HC2.out.1)]; exact HC2.out.1, by rw [hb3.cell (lt_of_cell HC2.out.2)]; exact HC2.out.2⟩ (fun hHeld3 => ?_)
          clear hK K hHeld2 hb3
          try simp only [Act.put, List.setIfInBounds_toArray, List.set_cons_zero, List.set_cons_succ]
          refine takeD (i := 13) (oi := { dst := some 15, op := _, type := _, pos := _, after := _, guard := _ }) (d := some 15) (v := ?vvb15) rfl rfl (by kernel_rfl) (by kernel_rfl) (by kernel_rfl) ?ddb15 (by rfl) ?yyb15 hHeld3 ?rrb15
          case ddb15 => first | exact fun _ _ _ h => h | exact fun _ _ _ h => HQ.out _ _ _ _ (by rfl) h
          case yyb15 => (intro wx hSw; obtain ⟨y0, y1⟩ := hSw; go_simp; try (with_reducible rfl))
          try simp only [Act.put, List.setIfInBounds_toArray, List.set_cons_zero, List.set_cons_succ]
          refine takeD (i := 14) (oi := { dst := some 16, op := _, type := _, pos := _, after := _, guard := _ }) (d := some 16) (v := ?vvb16) rfl rfl (by kernel_rfl) (by kernel_rfl) (by kernel_rfl) ?ddb16 (by rfl) ?yyb16 hHeld3 ?rrb16
          case ddb16 => first | exact fun _ _ _ h => h | exact fun _ _ _ h => HQ.out _ _ _ _ (by rfl) h
          case yyb16 => (intro wx hSw; obtain ⟨y0, y1⟩ := hSw; go_simp; try (with_reducible rfl))
          try simp only [Act.put, List.setIfInBounds_toArray, List.set_cons_zero, List.set_cons_succ]
          refine wpAnyH_done (by kernel_rfl) ?_ _
          clear hHeld3 c1 c2 HSV HSU HR HR2 HC2 HB2 HB
          have hkun : (ku : Int) < (n : Int) := by omega
          have hku0 : (0 : Int) ≤ (ku : Int) := by omega
          have hkvn : (kv : Int) < (n : Int) := by omega
          have hkv0 : (0 : Int) ≤ (kv : Int) := by omega
          obtain ⟨b2, off2, hba2, hcc⟩ := (HA.out.below (Nat.le_refl _) HB3.out) (by omega)
          cases hba2
          obtain ⟨hci, d10, d11⟩ := hcc ku (by omega)
          have d0 := hci 0 (by omega)
          rw [Nat.add_zero] at d0
          have d1 := hci 1 (by omega)
          have d2 := hci 2 (by omega)
          have d3 := hci 3 (by omega)
          have d4 := hci 4 (by omega)
          have d5 := hci 5 (by omega)
          have d6 := hci 6 (by omega)
          have d7 := hci 7 (by omega)
          have d8 := hci 8 (by omega)
          have d9 := hci 9 (by omega)
          clear hcc hci
          go_wp2_with fail
          refine (ends_any ku E N ax w3 (HRI.out ku hku) (HT.out.below (Nat.le_refl _) HB3.out)).mono ?_
          rintro e w4 ⟨rfl, hb4⟩
          have HB4 := Lib.hid (HB3.out.trans (hb4.mono HB3.out.size))
          have HR4 := Lib.hid (RowI.below HR3.out hb4 (Nat.le_refl _))
          clear d0 d1 d2 d3 d4 d5 d6 d7 d8 d9 d10 d11 hb4 HR3
          obtain ⟨b2, off2, hba2, hcc⟩ := (HA.out.below (Nat.le_refl _) HB4.out) (by omega)
          cases hba2
          obtain ⟨hci, d10, d11⟩ := hcc kv (by omega)
          have d0 := hci 0 (by omega)
          rw [Nat.add_zero] at d0
          have d1 := hci 1 (by omega)
          have d2 := hci 2 (by omega)
          have d3 := hci 3 (by omega)
          have d4 := hci 4 (by omega)
          have d5 := hci 5 (by omega)
          have d6 := hci 6 (by omega)
          have d7 := hci 7 (by omega)
          have d8 := hci 8 (by omega)
          have d9 := hci 9 (by omega)
          clear hcc hci
          obtain ⟨xu, hxu⟩ : ∃ x, x = extA (E ku) ax := ⟨_, rfl⟩
          obtain ⟨yu, hyu⟩ : ∃ x, x = extB (E ku) ax := ⟨_, rfl⟩
          rw [← hxu, ← hyu]
          have HXU := Lib.hid (show X ku = xu by rw [HX.out, hxu]; rfl)
          clear hxu hyu
          go_wp2_with fail
          refine (ends_any kv E N ax w4 (HRI.out kv hkv) (HT.out.below (Nat.le_refl _) HB4.out)).mono ?_
          rintro e w5 ⟨rfl, hb5⟩
          have HB5 := Lib.hid (HB4.out.trans (hb5.mono HB4.out.size))
          have HR5 := Lib.hid (RowI.below HR4.out hb5 (Nat.le_refl _))
          clear d0 d1 d2 d3 d4 d5 d6 d7 d8 d9 d10 d11 hb5 HR4
          obtain ⟨xv, hxv⟩ : ∃ x, x = extA (E kv) ax := ⟨_, rfl⟩
          obtain ⟨yv, hyv⟩ : ∃ x, x = extB (E kv) ax := ⟨_, rfl⟩
          rw [← hxv, ← hyv]
          have HXV := Lib.hid (show X kv = xv by rw [HX.out, hxv]; rfl)
          clear hxv hyv
          by_cases hlx : xu < xv ∨ (xu = xv ∧ ku < kv)
          · have HSE := Lib.hid (insR_end HI.out hji (.inr (by rw [HKV.out, HKU.out]; unfold lexL; rw [HXU.out, HXV.out]; omega)))
            rcases hlx with h1 | ⟨h1, h2⟩
            · go_wp2_with fail
              go_roundw
              case rel => exact ⟨i + 1, by go_num, by omega, HB5.out, O', HR5.out, HP.out, HSE.out⟩
              case measure => simp [intOf]; omega
            · have f1 : ¬ xu < xv := by omega
              have f2 : (xv == xu) = true := by simpa using h1.symm
              have f3 : (ku : Int) < (kv : Int) := by omega
              clear h1
              go_wp2_with fail
              go_roundw
              case rel => exact ⟨i + 1, by go_num, by omega, HB5.out, O', HR5.out, HP.out, HSE.out⟩
              case measure => simp [intOf]; omega
          · have HSW := Lib.hid (insR_swap HI.out hj2 hji (by rw [HKV.out, HKU.out]; unfold lexL; rw [HXU.out, HXV.out]; have := HNE.out; omega))
            have f1 : ¬ xu < xv := by omega
            obtain ⟨_, _, hv, _, hlt2, _, _, hfz2, hcc⟩ := RowI.at HR5.out (by omega)
            cases hv
            have c1 := hcc j (by omega)
            have c2 := hcc (j - 1) (by omega)
            rw [← HVV.out] at c1
            rw [← HUU.out] at c2
            have g1 := hfz2 j
            have g2 := hfz2 (j - 1)
            have hj5 : ¬ j = j - 1 := by omega
            have hj6 : ¬ j - 1 = j := by omega
            clear hcc hfz2
            have HFT := Lib.hid (show ((xv == xu) && decide ((ku : Int) < (kv : Int))) = false by
              by_cases h1 : xu = xv
              · have : ¬ (ku : Int) < (kv : Int) := by omega
                simp [this]
              · have : (xv == xu) = false := by simp; omega
                simp [this])
            have HF1 := Lib.hid (Int.not_lt.1 f1)
            clear hlx
            go_upto_region 16 with fail
            go_cut [111] from 99 to 110 (fun tv wx => tv = .bool false ∧ wx = w5)
            case first =>
              have HK0 := HFT.out
              by_cases h1 : xv = xu
              · have f2 : (xv == xu) = true := by simpa using h1
                have f3 : ¬ (ku : Int) < (kv : Int) := by intro h3; simp [f2, h3] at HK0
                clear h1 HK0
                go_wp2_with fail
                go_meet
                exact ⟨by first | rfl | rw [decide_eq_false (Int.not_lt.2 HF1.out)], rfl⟩
              · have f2 : (xv == xu) = false := by simpa using h1
                clear h1 HK0
                go_wp2_with fail
                go_meet
                exact ⟨by first | rfl | rw [decide_eq_false (Int.not_lt.2 HF1.out)], rfl⟩
            case rest =>
              obtain ⟨rfl, hw⟩ := hcut
              obtain rfl : w5 = wc := hw.symm
              clear hw
              go_upto_region 17 with fail
              refine wp_region_until 15 (fun w' => w'.cell? ⟨g, j, none⟩ = some (.int .i64 v) ∧ w'.cell? ⟨g, j - 1, none⟩ = some (.int .i64 u)) (by kernel_rfl) (by exact ⟨by rw [World.cell?_drew]; exact c1, by rw [World.cell?_drew]; exact c2⟩) ?_
              intro hHeld
              refine moveU (i := 0) (oi := { dst := some 112, op := _, type := _, pos := _, after := _, guard := _ }) (d := some 112) (v := ?vvz112) rfl rfl (by kernel_rfl) (by kernel_rfl) (by kernel_rfl) (by rfl) ?ddz112 (by rfl) ?yyz112 hHeld ?rrz112
              case ddz112 => first | exact fun _ _ _ h => h | exact fun _ _ _ h => HQ.out _ _ _ _ (by rfl) h
              case yyz112 => (intro wx; go_simp; try (with_reducible rfl))
              clear hHeld; intro hHeld
              try simp only [Act.put, List.setIfInBounds_toArray, List.set_cons_zero, List.set_cons_succ]
              refine moveU (i := 1) (oi := { dst := some 113, op := _, type := _, pos := _, after := _, guard := _ }) (d := some 113) (v := ?vvz113) rfl rfl (by kernel_rfl) (by kernel_rfl) (by kernel_rfl) (by rfl) ?ddz113 (by rfl) ?yyz113 hHeld ?rrz113
              case ddz113 => first | exact fun _ _ _ h => h | exact fun _ _ _ h => HQ.out _ _ _ _ (by rfl) h
              case yyz113 => (intro wx; go_simp; try (with_reducible rfl))
              clear hHeld; intro hHeld
              try simp only [Act.put, List.setIfInBounds_toArray, List.set_cons_zero, List.set_cons_succ]
              refine moveU (i := 2) (oi := { dst := some 114, op := _, type := _, pos := _, after := _, guard := _ }) (d := some 114) (v := ?vvz114) rfl rfl (by kernel_rfl) (by kernel_rfl) (by kernel_rfl) (by rfl) ?ddz114 (by rfl) ?yyz114 hHeld ?rrz114
              case ddz114 => first | exact fun _ _ _ h => h | exact fun _ _ _ h => HQ.out _ _ _ _ (by rfl) h
              case yyz114 => (intro wx; go_simp; try (with_reducible rfl))
              clear hHeld; intro hHeld
              try simp only [Act.put, List.setIfInBounds_toArray, List.set_cons_zero, List.set_cons_succ]
              refine moveU (i := 3) (oi := { dst := some 115, op := _, type := _, pos := _, after := _, guard := _ }) (d := some 115) (v := ?vvz115) rfl rfl (by kernel_rfl) (by kernel_rfl) (by kernel_rfl) (by rfl) ?ddz115 (by rfl) ?yyz115 hHeld ?rrz115
              case ddz115 => first | exact fun _ _ _ h => h | exact fun _ _ _ h => HQ.out _ _ _ _ (by rfl) h
              case yyz115 => (intro wx; go_simp; try (with_reducible rfl))
              clear hHeld; intro hHeld
              try simp only [Act.put, List.setIfInBounds_toArray, List.set_cons_zero, List.set_cons_succ]
              refine moveU (i := 4) (oi := { dst := some 116, op := _, type := _, pos := _, after := _, guard := _ }) (d := some 116) (v := ?vvz116) rfl rfl (by kernel_rfl) (by kernel_rfl) (by kernel_rfl) (by rfl) ?ddz116 (by rfl) ?yyz116 hHeld ?rrz116
              case ddz116 => first | exact fun _ _ _ h => h | exact fun _ _ _ h => HQ.out _ _ _ _ (by rfl) h
              case yyz116 => (intro wx; go_simp; try (with_reducible rfl))
              clear hHeld; intro hHeld
              try simp only [Act.put, List.setIfInBounds_toArray, List.set_cons_zero, List.set_cons_succ]
              refine moveU (i := 5) (oi := { dst := some 117, op := _, type := _, pos := _, after := _, guard := _ }) (d := some 117) (v := ?vvz117) rfl rfl (by kernel_rfl) (by kernel_rfl) (by kernel_rfl) (by rfl) ?ddz117 (by rfl) ?yyz117 hHeld ?rrz117
              case ddz117 => first | exact fun _ _ _ h => h | exact fun _ _ _ h => HQ.out _ _ _ _ (by rfl) h
              case yyz117 => (intro wx; go_simp; try (with_reducible rfl))
              clear hHeld; intro hHeld
              try simp only [Act.put, List.setIfInBounds_toArray, List.set_cons_zero, List.set_cons_succ]
              refine moveU (i := 6) (oi := { dst := some 118, op := _, type := _, pos := _, after := _, guard := _ }) (d := some 118) (v := ?vvz118) rfl rfl (by kernel_rfl) (by kernel_rfl) (by kernel_rfl) (by rfl) ?ddz118 (by rfl) ?yyz118 hHeld ?rrz118
              case ddz118 => first | exact fun _ _ _ h => h | exact fun _ _ _ h => HQ.out _ _ _ _ (by rfl) h
              case yyz118 => (intro wx; go_simp; try (with_reducible rfl))
              clear hHeld; intro hHeld
              try simp only [Act.put, List.setIfInBounds_toArray, List.set_cons_zero, List.set_cons_succ]
              refine moveU (i := 7) (oi := { dst := some 119, op := _, type := _, pos := _, after := _, guard := _ }) (d := some 119) (v := ?vvz119) rfl rfl (by kernel_rfl) (by kernel_rfl) (by kernel_rfl) (by rfl) ?ddz119 (by rfl) ?yyz119 hHeld ?rrz119
              case ddz119 => first | exact fun _ _ _ h => h | exact fun _ _ _ h => HQ.out _ _ _ _ (by rfl) h
              case yyz119 => (intro wx; go_simp; try (with_reducible rfl))
              clear hHeld; intro hHeld
              try simp only [Act.put, List.setIfInBounds_toArray, List.set_cons_zero, List.set_cons_succ]
              refine takeU [15] (i := 8) (oi := { dst := some 120, op := _, type := _, pos := _, after := _, guard := _ }) (d := some 120) (v := ?vvz120) rfl rfl (by kernel_rfl) (by kernel_rfl) (by kernel_rfl) (by kernel_rfl) ?ddz120 (by rfl) ?yyz120 hHeld ?rrz120
              case ddz120 => first | exact fun _ _ _ h => h | exact fun _ _ _ h => HQ.out _ _ _ _ (by rfl) h
              case yyz120 => (intro wx hSw; obtain ⟨y0, y1⟩ := hSw; go_simp; try (with_reducible rfl))
              clear hHeld; intro hHeld
              try simp only [Act.put, List.setIfInBounds_toArray, List.set_cons_zero, List.set_cons_succ]
              refine moveU (i := 9) (oi := { dst := some 121, op := _, type := _, pos := _, after := _, guard := _ }) (d := some 121) (v := ?vvz121) rfl rfl (by kernel_rfl) (by kernel_rfl) (by kernel_rfl) (by rfl) ?ddz121 (by rfl) ?yyz121 hHeld ?rrz121
              case ddz121 => first | exact fun _ _ _ h => h | exact fun _ _ _ h => HQ.out _ _ _ _ (by rfl) h
              case yyz121 => (intro wx; go_simp; try (with_reducible rfl))
              clear hHeld; intro hHeld
              try simp only [Act.put, List.setIfInBounds_toArray, List.set_cons_zero, List.set_cons_succ]
              refine moveU (i := 10) (oi := { dst := some 122, op := _, type := _, pos := _, after := _, guard := _ }) (d := some 122) (v := ?vvz122) rfl rfl (by kernel_rfl) (by kernel_rfl) (by kernel_rfl) (by rfl) ?ddz122 (by rfl) ?yyz122 hHeld ?rrz122
              case ddz122 => first | exact fun _ _ _ h => h | exact fun _ _ _ h => HQ.out _ _ _ _ (by rfl) h
              case yyz122 => (intro wx; go_simp; try (with_reducible rfl))
              clear hHeld; intro hHeld
              try simp only [Act.put, List.setIfInBounds_toArray, List.set_cons_zero, List.set_cons_succ]
              refine moveU (i := 11) (oi := { dst := some 123, op := _, type := _, pos := _, after := _, guard := _ }) (d := some 123) (v := ?vvz123) rfl rfl (by kernel_rfl) (by kernel_rfl) (by kernel_rfl) (by rfl) ?ddz123 (by rfl) ?yyz123 hHeld ?rrz123
              case ddz123 => first | exact fun _ _ _ h => h | exact fun _ _ _ h => HQ.out _ _ _ _ (by rfl) h
              case yyz123 => (intro wx; go_simp; try (with_reducible rfl))
              clear hHeld; intro hHeld
              try simp only [Act.put, List.setIfInBounds_toArray, List.set_cons_zero, List.set_cons_succ]
              refine moveU (i := 12) (oi := { dst := some 124, op := _, type := _, pos := _, after := _, guard := _ }) (d := some 124) (v := ?vvz124) rfl rfl (by kernel_rfl) (by kernel_rfl) (by kernel_rfl) (by rfl) ?ddz124 (by rfl) ?yyz124 hHeld ?rrz124
              case ddz124 => first | exact fun _ _ _ h => h | exact fun _ _ _ h => HQ.out _ _ _ _ (by rfl) h
              case yyz124 => (intro wx; go_simp; try (with_reducible rfl))
              clear hHeld; intro hHeld
              try simp only [Act.put, List.setIfInBounds_toArray, List.set_cons_zero, List.set_cons_succ]
              refine takeU [15] (i := 13) (oi := { dst := some 125, op := _, type := _, pos := _, after := _, guard := _ }) (d := some 125) (v := ?vvz125) rfl rfl (by kernel_rfl) (by kernel_rfl) (by kernel_rfl) (by kernel_rfl) ?ddz125 (by rfl) ?yyz125 hHeld ?rrz125
              case ddz125 => first | exact fun _ _ _ h => h | exact fun _ _ _ h => HQ.out _ _ _ _ (by rfl) h
              case yyz125 => (intro wx hSw; obtain ⟨y0, y1⟩ := hSw; go_simp; try (with_reducible rfl))
              clear hHeld; intro hHeld
              try simp only [Act.put, List.setIfInBounds_toArray, List.set_cons_zero, List.set_cons_succ]
              refine moveU (i := 14) (oi := { dst := some 126, op := _, type := _, pos := _, after := _, guard := _ }) (d := some 126) (v := ?vvz126) rfl rfl (by kernel_rfl) (by kernel_rfl) (by kernel_rfl) (by rfl) ?ddz126 (by rfl) ?yyz126 hHeld ?rrz126
              case ddz126 => first | exact fun _ _ _ h => h | exact fun _ _ _ h => HQ.out _ _ _ _ (by rfl) h
              case yyz126 => (intro wx; go_simp; try (with_reducible rfl))
              clear hHeld; intro hHeld
              try simp only [Act.put, List.setIfInBounds_toArray, List.set_cons_zero, List.set_cons_succ]
              refine wpAnyU_ready (rs := [15]) (by kernel_rfl) (by simp) ?_
              refine AllReadyU.cons (o := { dst := none, op := _, type := _, pos := _, after := _, guard := _ }) rfl (fun K hK => ?_) AllReadyU.nil
              have p1 : w5.drew.cell? ⟨g, j - 1, none⟩ = some (.int .i64 u) := by rw [World.cell?_drew]; exact c2
              have p2 : w5.drew.frozen? ⟨g, j - 1, none⟩ = false := g2
              go_simp
              refine hK.out _ _ (fun h => absurd h (by decide)) (fun hHeld2 => ?_)
              clear hK K hHeld
              try simp only [Act.put, List.setIfInBounds_toArray, List.set_cons_zero, List.set_cons_succ]
              refine moveU (i := 16) (oi := { dst := some 127, op := _, type := _, pos := _, after := _, guard := _ }) (d := some 127) (v := ?vvy127) rfl rfl (by kernel_rfl) (by kernel_rfl) (by kernel_rfl) (by rfl) ?ddy127 (by rfl) ?yyy127 hHeld2 ?rry127
              case ddy127 => first | exact fun _ _ _ h => h | exact fun _ _ _ h => HQ.out _ _ _ _ (by rfl) h
              case yyy127 => (intro wx; go_simp; try (with_reducible rfl))
              clear hHeld2; intro hHeld2
              try simp only [Act.put, List.setIfInBounds_toArray, List.set_cons_zero, List.set_cons_succ]
              refine wpAnyU_ready (rs := [17]) (by kernel_rfl) (by simp) ?_
              refine AllReadyU.cons (o := { dst := none, op := _, type := _, pos := _, after := _, guard := _ }) rfl (fun K hK => ?_) AllReadyU.nil
              go_simp
              obtain ⟨w6, hw6⟩ : ∃ v' : World, v' = ((w5.setCell ⟨g, j - 1, none⟩ (.int .i64 v)).setCell ⟨g, j, none⟩ (.int .i64 u)).drew := ⟨_, rfl⟩
              have HR6 := Lib.hid (show RowI w6 w.heap.size 3 1 (.slice (some ⟨g, 0, none⟩) c cap) c (swF O' j) by
                rw [hw6]
                refine RowI.congr (((HR5.out.set (j - 1) (by omega) v).set j (by omega) u).drew) (fun k hk => ?_)
                unfold swF
                rw [← HVV.out, ← HUU.out]
                unfold upd
                by_cases q1 : k = j
                · rw [if_pos q1, if_neg (by omega), if_pos q1]
                · by_cases q2 : k = j - 1
                  · rw [if_neg q1, if_pos q2, if_pos q2]
                  · rw [if_neg q1, if_neg q2, if_neg q2, if_neg q1])
              have HB6 := Lib.hid (show Below w.heap.size w w6 by
                rw [hw6]
                exact ((HB5.out.setCell (by simpa using hgB) _).setCell (by simpa using hgB) _).drew)
              have HP6 := Lib.hid (show PermF c (swF O' j) It from PermF.trans (swF_perm hj2 (by omega)) HP.out)
              rw [← hw6]
              refine hK.out _ _ (fun h => absurd h (by decide)) (fun hHeld => ?_)
              clear hK K hHeld2 hHeld hw6 p1 p2 c1 c2 g1 g2
              try simp only [Act.put, List.setIfInBounds_toArray, List.set_cons_zero, List.set_cons_succ]
              refine wpAnyU_done (by kernel_rfl) ?_ _
              go_wp2_with fail
              go_roundw
              case rel => exact ⟨j - 1, rfl, by omega, HB6.out, swF O' j, HR6.out, HP6.out, by rw [plc_sw]; exact HSW.out⟩
              case measure => simp [intOf]; omega
    · obtain rfl : i = c := by omega
      have hnn : ¬ (i : Int) < (i : Int) := by omega
      go_wp2_with fail
      go_meet
      exact ⟨HB.out, O, HR.out, HP.out, HO.out⟩
end Go.Proofs.YtabnohphgegflaaDoor.ShT
