


/-
  The reference's spread: its loops.
  The reference's spread.
-/
import Derived.Test.YtabnohphgegflaaDoorSaOrdP
import Derived.Test.YtabnohphgegflaaDoorSaSpreadP
import Derived.Test.YtabnohphgegflaaDoorSaFrameR
import Derived.Test.YtabnohphgegflaaDoorSaMoved
import Derived.Test.YtabnohphgegflaaDoorShFind
import Derived.Test.YtabnohphgegflaaDoorParts
import Derived.Test.YtabnohphgegflaaDoorSaOrd
import Derived.Test.YtabnohphgegflaaDoorSaAligned
namespace Go.Proofs.YtabnohphgegflaaDoor.ShT
open Go.RowKit Go.Law Go.Law.Sh
set_option linter.unusedVariables false
set_option linter.unusedSimpArgs false
set_option maxRecDepth 100000
set_option maxHeartbeats 8000000 in
theorem rsRoom {n c ca cap g b0 off0 : Nat} {E : Nat → Nat → Int} {N : Nat → Nat → ByteArray} {O : Nat → Int} {ax : Int} {w w1 : World} (hn : n ≤ 1000) (hc0 : 3 ≤ c) (hc2 : c ≤ 1000)
    (HA : Hid (ShF w (some ⟨b0, off0, none⟩) n E N)) (HT : Hid (Arr w 6)) (HRI : Hid (∀ k, k < n → Right E k)) (HFI : Hid (∀ i, i < c → ∃ k : Nat, k < n ∧ findV n E (O i) = k))
    (HB1 : Hid (Below w.heap.size w w1)) (HR1 : Hid (RowI w1 w.heap.size 3 1 (.slice (some ⟨g, 0, none⟩) c cap) c O)) (hgB : w.heap.size ≤ g)
    {R0 : Int} (HR0 : Hid (R0 = roomR E (plc n E O) ax c 0))
    {s1 s3 s4 s5 s6 s7 s8 s9 s10 s11 s12 s13 s14 s15 s16 s17 s18 s19 s20 s21 s22 s23 s25 s26 s27 s28 s29 s30 s31 s32 s33 s34 s35 s36 s37 s38 s39 s40 s41 s42 s43 s44 s45 s46 s47 s48 s49 s50 s51 s52 s53 s54 s55 s56 s57 s58 s59 s60 s61 s62 s63 s64 s65 s66 s67 s68 s69 s70 s71 s72 s73 s74 s75 s76 s77 s78 s79 s80 s81 s82 s83 s84 s85 s86 s87 s88 s89 s90 s91 s92 s93 s94 s95 s96 s97 s98 s99 s100 s101 s102 s103 s104 s105 s106 s107 s108 s109 s110 s111 s112 s113 s114 s115 s116 s117 s118 s119 s120 s121 s122 s123 s124 s125 s126 s127 s128 s129 s130 s131 s132 s133 s134 s135 s136 s137 s138 s139 s140 s141 s142 s143 s144 s145 s146 s147 s148 s149 s150 s151 s152 s153 s154 s155 s156 s157 s158 s159 s160 s161 s162 s163 s167 s168 s169 s170 s171 s172 s173 s174 s175 s176 s177 s178 s179 s180 s181 s182 s183 s184 s185 s186 s187 s188 s189 s190 s191 s192 s193 s194 s195 s196 s197 s198 s199 s200 s201 s202 s203 s204 s205 s206 s207 s208 s209 s210 s211 s212 s213 s214 s215 s216 s217 s218 s219 s220 s221 s222 s223 s224 s225 s226 s227 s228 s229 s230 s231 s232 s233 s234 : Value} {J K : Act → World → Prop} {Q : Exit → Act → World → Prop}
    (HQ : Hid (∀ (c : List PanicEntry) (a a' : Act) (w : World), a.defers = a'.defers → Q (.panic c) a w → Q (.panic c) a' w))
    (hJ : ∀ (a' : Act) (w' : World), (∃ u24 u27 u28 u29 u166 u167 u168 u169 u170 u171 u172 u173 u174 u175 u176 u177 u178 u179 u180 u181 u182 u183 u184 u185 u186 : Value, (u24 = .int .i64 (roomR E (plc n E O) ax c (c - 2)) ∧ Below w.heap.size w w' ∧ RowI w' w.heap.size 3 1 (.slice (some ⟨g, 0, none⟩) c cap) c O) ∧ a' = ⟨#[.slice (some ⟨b0, off0, none⟩) n ca, s1, .int .i64 ax, s3, s4, s5, s6, s7, s8, s9, s10, s11, s12, s13, s14, s15, s16, s17, s18, s19, s20, s21, s22, s23, u24, s25, s26, u27, u28, u29, s30, s31, s32, s33, s34, s35, s36, s37, s38, s39, s40, s41, s42, s43, s44, s45, s46, s47, s48, s49, s50, s51, s52, s53, s54, s55, s56, s57, s58, s59, s60, s61, s62, s63, s64, s65, s66, s67, s68, s69, s70, s71, s72, s73, s74, s75, s76, s77, s78, s79, s80, s81, s82, s83, s84, s85, s86, s87, s88, s89, s90, s91, s92, s93, s94, s95, s96, s97, s98, s99, s100, s101, s102, s103, s104, s105, s106, s107, s108, s109, s110, s111, s112, s113, s114, s115, s116, s117, s118, s119, s120, s121, s122, s123, s124, s125, s126, s127, s128, s129, s130, s131, s132, s133, s134, s135, s136, s137, s138, s139, s140, s141, s142, s143, s144, s145, s146, s147, s148, s149, s150, s151, s152, s153, s154, s155, s156, s157, s158, s159, s160, s161, s162, s163, .slice (some ⟨g, 1, none⟩) (c - 1 - 1 : Nat) (cap - 1), .int .i64 (c - 1 - 1 : Nat), u166, u167, u168, u169, u170, u171, u172, u173, u174, u175, u176, u177, u178, u179, u180, u181, u182, u183, u184, u185, u186, s187, s188, s189, s190, s191, s192, s193, s194, s195, s196, s197, s198, s199, s200, s201, s202, s203, s204, s205, s206, s207, s208, s209, s210, s211, s212, s213, s214, s215, s216, s217, s218, s219, s220, s221, s222, s223, s224, s225, s226, s227, s228, s229, s230, s231, s232, s233, s234], []⟩) → J a' w')
    (hK : ∀ (a' : Act) (w' : World), Met J a' w' → K a' w') :
    Code.wp Tryd.prog (theBlk Tryd.f12 4) (Exit.then K Q) ⟨#[.slice (some ⟨b0, off0, none⟩) n ca, s1, .int .i64 ax, s3, s4, s5, s6, s7, s8, s9, s10, s11, s12, s13, s14, s15, s16, s17, s18, s19, s20, s21, s22, s23, .int .i64 R0, s25, s26, s27, s28, s29, s30, s31, s32, s33, s34, s35, s36, s37, s38, s39, s40, s41, s42, s43, s44, s45, s46, s47, s48, s49, s50, s51, s52, s53, s54, s55, s56, s57, s58, s59, s60, s61, s62, s63, s64, s65, s66, s67, s68, s69, s70, s71, s72, s73, s74, s75, s76, s77, s78, s79, s80, s81, s82, s83, s84, s85, s86, s87, s88, s89, s90, s91, s92, s93, s94, s95, s96, s97, s98, s99, s100, s101, s102, s103, s104, s105, s106, s107, s108, s109, s110, s111, s112, s113, s114, s115, s116, s117, s118, s119, s120, s121, s122, s123, s124, s125, s126, s127, s128, s129, s130, s131, s132, s133, s134, s135, s136, s137, s138, s139, s140, s141, s142, s143, s144, s145, s146, s147, s148, s149, s150, s151, s152, s153, s154, s155, s156, s157, s158, s159, s160, s161, s162, s163, .slice (some ⟨g, 1, none⟩) (c - 1 - 1 : Nat) (cap - 1), .int .i64 (c - 1 - 1 : Nat), .int .i64 0, s167, s168, s169, s170, s171, s172, s173, s174, s175, s176, s177, s178, s179, s180, s181, s182, s183, s184, s185, s186, s187, s188, s189, s190, s191, s192, s193, s194, s195, s196, s197, s198, s199, s200, s201, s202, s203, s204, s205, s206, s207, s208, s209, s210, s211, s212, s213, s214, s215, s216, s217, s218, s219, s220, s221, s222, s223, s224, s225, s226, s227, s228, s229, s230, s231, s232, s233, s234], []⟩ w1 := by
  conv => arg 2; whnf
  go_wp2_with fail
  go_loopw [24, 166] (fun rv ix wr => ∃ j : Nat, ix = .int .i64 j ∧ j ≤ c - 2 ∧ rv = .int .i64 (roomR E (plc n E O) ax c j) ∧ Below w.heap.size w wr ∧ RowI wr w.heap.size 3 1 (.slice (some ⟨g, 0, none⟩) c cap) c O) (fun _ ix _ => c - 2 - (intOf ix).toNat)
  case atStart => exact ⟨0, rfl, by omega, by rw [HR0.out], HB1.out, HR1.out⟩
  case round =>
    obtain ⟨j, rfl, hj, rfl, hbel, hrow⟩ := hrel
    have HB := Lib.hid hbel
    have HR := Lib.hid hrow
    clear hbel hrow HB1 HR1 HR0
    by_cases h : j < c - 2
    · have hj2 : (j : Int) < ((c - 1 - 1 : Nat) : Int) := by omega
      have hj0 : (0 : Int) ≤ (j : Int) := by omega
      obtain ⟨_, _, hv, _, hg3, _, _, hfz, hcell⟩ := RowI.at HR.out (by omega)
      cases hv
      have z0 := hcell (1 + j) (by omega)
      rw [Nat.add_comm 1 j] at z0
      rw [Nat.add_comm j 1] at z0
      clear hfz hcell
      go_wp2_with fail
      rw [Nat.add_comm 1 j]
      obtain ⟨kw2, hknw2, hkfw2⟩ := HFI.out (j + 1) (by omega)
      have HPw2 := Lib.hid (show (plc n E O (j + 1)).toNat = kw2 by unfold plc; rw [hkfw2]; rfl)
      have HFw2 := Lib.hid hkfw2
      have hkmw2 : (kw2 : Int) < (n : Int) := by omega
      have hk0w2 : (0 : Int) ≤ (kw2 : Int) := by omega
      clear hkfw2
      refine (shapeAt_any n E N _ _ ca wr (HA.out.below (Nat.le_refl _) HB.out) (by omega)).mono ?_
      rintro e w2 ⟨rfl, hbs⟩
      rw [HFw2.out]
      have HBS := Lib.hid ((HB.out).trans (hbs.mono (HB.out).size))
      have HSS := Lib.hid hbs
      obtain ⟨b2, off2, hba2, hcc⟩ := (HA.out.below (Nat.le_refl _) HBS.out) (by omega)
      cases hba2
      obtain ⟨hci, d10, d11⟩ := hcc kw2 (by omega)
      have d0 := hci 0 (by omega)
      rw [Nat.add_zero] at d0
      have d1 := hci 1 (by omega)
      have d2 := hci 2 (by omega)
      have d3 := hci 3 (by omega)
      have d4 := hci 4 (by omega)
      have d5 := hci 5 (by omega)
      have d6 := hci 6 (by omega)
      have d7 := hci 7 (by omega)
      have d8 := hci 8 (by omega)
      have d9 := hci 9 (by omega)
      clear hcc hci hbs
      go_wp2_with fail
      refine (ends_any kw2 E N ax w2 (HRI.out kw2 hknw2) (HT.out.below (Nat.le_refl _) HBS.out)).mono ?_
      rintro e w3 ⟨rfl, hbx⟩
      rw [show extA (E kw2) ax = sA E (plc n E O) ax (j + 1) by unfold sA; rw [HPw2.out], show extB (E kw2) ax = sB E (plc n E O) ax (j + 1) by unfold sB; rw [HPw2.out]]
      have HBw3 := Lib.hid (HBS.out.trans (hbx.mono HBS.out.size))
      clear d0 d1 d2 d3 d4 d5 d6 d7 d8 d9 d10 d11 HBS hkmw2 hk0w2
      have HR3 := Lib.hid (RowI.below (RowI.below HR.out HSS.out (Nat.le_refl _)) hbx (Nat.le_refl _))
      obtain ⟨tv, htv⟩ : ∃ x, x = sA E (plc n E O) ax (j + 1) := ⟨_, rfl⟩
      obtain ⟨tb, htb⟩ : ∃ x, x = sB E (plc n E O) ax (j + 1) := ⟨_, rfl⟩
      rw [← htv, ← htb]
      have HRM := Lib.hid (show roomR E (plc n E O) ax c (j + 1) = wrap64 (roomR E (plc n E O) ax c j - wrap64 (tb - tv)) by rw [htv, htb]; rfl)
      clear htv htb hbx z0 HR HSS
      go_wp2_with fail
      go_roundw
      case rel => exact ⟨j + 1, by go_num, by omega, by rw [HRM.out], HBw3.out, HR3.out⟩
      case measure => simp [intOf]; omega
    · obtain rfl : j = c - 2 := by omega
      have hnn : ¬ ((c - 2 : Nat) : Int) < ((c - 1 - 1 : Nat) : Int) := by omega
      go_wp2_with fail
      go_meet
      exact ⟨rfl, HB.out, HR.out⟩
set_option maxHeartbeats 8000000 in
theorem rsMove {n c ca cap g b0 off0 : Nat} {E : Nat → Nat → Int} {N : Nat → Nat → ByteArray} {O : Nat → Int} {ax : Int} {w w1 : World} (hn : n ≤ 1000) (hc0 : 3 ≤ c) (hc2 : c ≤ 1000)
    (HA : Hid (ShF w (some ⟨b0, off0, none⟩) n E N)) (HT : Hid (Arr w 6)) (HRI : Hid (∀ k, k < n → Right E k)) (HFI : Hid (∀ i, i < c → ∃ k : Nat, k < n ∧ findV n E (O i) = k))
    (HB1 : Hid (Below w.heap.size w w1)) (HR1 : Hid (RowI w1 w.heap.size 3 1 (.slice (some ⟨g, 0, none⟩) c cap) c O)) (hgB : w.heap.size ≤ g)
    {fr room : Int} {o oc : Nat} (HFR : Hid (fr = sB E (plc n E O) ax 0)) (HRO : Hid (room = roomR E (plc n E O) ax c (c - 2))) (hgo : g < o) (HO1 : Hid (ShR w1 w.heap.size (.slice (some ⟨o, 0, none⟩) n oc) n E N))
    {s1 s3 s4 s5 s6 s7 s8 s9 s10 s11 s12 s13 s14 s15 s16 s17 s18 s19 s20 s22 s25 s26 s27 s28 s29 s32 s33 s34 s35 s36 s37 s38 s39 s40 s41 s42 s43 s44 s45 s46 s47 s48 s49 s50 s51 s52 s53 s54 s55 s56 s57 s58 s59 s60 s61 s62 s63 s64 s65 s66 s67 s68 s69 s70 s71 s72 s73 s74 s75 s76 s77 s78 s79 s80 s81 s82 s83 s84 s85 s86 s87 s88 s89 s90 s91 s92 s93 s94 s95 s96 s97 s98 s99 s100 s101 s102 s103 s104 s105 s106 s107 s108 s109 s110 s111 s112 s113 s114 s115 s116 s117 s118 s119 s120 s121 s122 s123 s124 s125 s126 s127 s128 s129 s130 s131 s132 s133 s134 s135 s136 s137 s138 s139 s140 s141 s142 s143 s144 s145 s146 s147 s148 s149 s150 s151 s152 s153 s154 s155 s156 s157 s158 s159 s160 s161 s162 s163 s164 s165 s166 s167 s168 s169 s170 s171 s172 s173 s174 s175 s176 s177 s178 s179 s180 s181 s182 s183 s184 s185 s186 s187 s188 s189 s190 s194 s195 s196 s197 s198 s199 s200 s201 s202 s203 s204 s205 s206 s207 s208 s209 s210 s211 s212 s213 s214 s215 s216 s217 s218 s219 s220 s221 s222 s223 s224 s225 s226 s227 s228 s229 s230 s231 s232 s233 s234 : Value} {J K : Act → World → Prop} {Q : Exit → Act → World → Prop}
    (HQ : Hid (∀ (c : List PanicEntry) (a a' : Act) (w : World), a.defers = a'.defers → Q (.panic c) a w → Q (.panic c) a' w))
    (hJ : ∀ (a' : Act) (w' : World), (∃ u31 u32 u33 u34 u35 u193 u194 u195 u196 u197 u198 u199 u200 u201 u202 u203 u204 u205 u206 u207 u208 u209 u210 u211 u212 u213 u214 u215 u216 u217 u218 u219 u220 u221 u222 u223 u224 u225 u226 u227 u228 u229 u230 : Value, (Below w.heap.size w w' ∧ ShR w' w.heap.size (.slice (some ⟨o, 0, none⟩) n oc) n (sprT E (plc n E O) ax c) N) ∧ a' = ⟨#[.slice (some ⟨b0, off0, none⟩) n ca, s1, .int .i64 ax, s3, s4, s5, s6, s7, s8, s9, s10, s11, s12, s13, s14, s15, s16, s17, s18, s19, s20, .int .i64 (c - 1 : Nat), s22, .int .i64 fr, .int .i64 room, s25, s26, s27, s28, s29, .slice (some ⟨o, 0, none⟩) n oc, u31, u32, u33, u34, u35, s36, s37, s38, s39, s40, s41, s42, s43, s44, s45, s46, s47, s48, s49, s50, s51, s52, s53, s54, s55, s56, s57, s58, s59, s60, s61, s62, s63, s64, s65, s66, s67, s68, s69, s70, s71, s72, s73, s74, s75, s76, s77, s78, s79, s80, s81, s82, s83, s84, s85, s86, s87, s88, s89, s90, s91, s92, s93, s94, s95, s96, s97, s98, s99, s100, s101, s102, s103, s104, s105, s106, s107, s108, s109, s110, s111, s112, s113, s114, s115, s116, s117, s118, s119, s120, s121, s122, s123, s124, s125, s126, s127, s128, s129, s130, s131, s132, s133, s134, s135, s136, s137, s138, s139, s140, s141, s142, s143, s144, s145, s146, s147, s148, s149, s150, s151, s152, s153, s154, s155, s156, s157, s158, s159, s160, s161, s162, s163, s164, s165, s166, s167, s168, s169, s170, s171, s172, s173, s174, s175, s176, s177, s178, s179, s180, s181, s182, s183, s184, s185, s186, s187, s188, s189, s190, .slice (some ⟨g, 1, none⟩) (c - 1 - 1 : Nat) (cap - 1), .int .i64 (c - 1 - 1 : Nat), u193, u194, u195, u196, u197, u198, u199, u200, u201, u202, u203, u204, u205, u206, u207, u208, u209, u210, u211, u212, u213, u214, u215, u216, u217, u218, u219, u220, u221, u222, u223, u224, u225, u226, u227, u228, u229, u230, s231, s232, s233, s234], []⟩) → J a' w')
    (hK : ∀ (a' : Act) (w' : World), Met J a' w' → K a' w') :
    Code.wp Tryd.prog (theBlk Tryd.f12 6) (Exit.then K Q) ⟨#[.slice (some ⟨b0, off0, none⟩) n ca, s1, .int .i64 ax, s3, s4, s5, s6, s7, s8, s9, s10, s11, s12, s13, s14, s15, s16, s17, s18, s19, s20, .int .i64 (c - 1 : Nat), s22, .int .i64 fr, .int .i64 room, s25, s26, s27, s28, s29, .slice (some ⟨o, 0, none⟩) n oc, .int .i64 0, s32, s33, s34, s35, s36, s37, s38, s39, s40, s41, s42, s43, s44, s45, s46, s47, s48, s49, s50, s51, s52, s53, s54, s55, s56, s57, s58, s59, s60, s61, s62, s63, s64, s65, s66, s67, s68, s69, s70, s71, s72, s73, s74, s75, s76, s77, s78, s79, s80, s81, s82, s83, s84, s85, s86, s87, s88, s89, s90, s91, s92, s93, s94, s95, s96, s97, s98, s99, s100, s101, s102, s103, s104, s105, s106, s107, s108, s109, s110, s111, s112, s113, s114, s115, s116, s117, s118, s119, s120, s121, s122, s123, s124, s125, s126, s127, s128, s129, s130, s131, s132, s133, s134, s135, s136, s137, s138, s139, s140, s141, s142, s143, s144, s145, s146, s147, s148, s149, s150, s151, s152, s153, s154, s155, s156, s157, s158, s159, s160, s161, s162, s163, s164, s165, s166, s167, s168, s169, s170, s171, s172, s173, s174, s175, s176, s177, s178, s179, s180, s181, s182, s183, s184, s185, s186, s187, s188, s189, s190, .slice (some ⟨g, 1, none⟩) (c - 1 - 1 : Nat) (cap - 1), .int .i64 (c - 1 - 1 : Nat), .int .i64 0, s194, s195, s196, s197, s198, s199, s200, s201, s202, s203, s204, s205, s206, s207, s208, s209, s210, s211, s212, s213, s214, s215, s216, s217, s218, s219, s220, s221, s222, s223, s224, s225, s226, s227, s228, s229, s230, s231, s232, s233, s234], []⟩ w1 := by
  conv => arg 2; whnf
  go_wp2_with fail
  obtain ⟨E1, hE1⟩ : ∃ F : Nat → Nat → Nat → Int, F = mvR E (fun j => plc n E O (j + 1)) ax (byT E (plc n E O) ax c) := ⟨_, rfl⟩
  have HE1 := Lib.hid hE1
  have HE10 := Lib.hid (show E1 0 = E by rw [hE1]; rfl)
  clear hE1
  have e1 : (c : Int) - 1 = ((c - 1 : Nat) : Int) := by omega
  go_loopw [31, 193] (fun uv ix wr => ∃ j : Nat, ix = .int .i64 j ∧ j ≤ c - 2 ∧ uv = .int .i64 (usedR E (plc n E O) ax j) ∧ Below w.heap.size w wr ∧ RowI wr w.heap.size 3 1 (.slice (some ⟨g, 0, none⟩) c cap) c O ∧ ShR wr w.heap.size (.slice (some ⟨o, 0, none⟩) n oc) n (E1 j) N) (fun _ ix _ => c - 2 - (intOf ix).toNat)
  case atStart => exact ⟨0, rfl, by omega, rfl, HB1.out, HR1.out, by rw [HE10.out]; exact HO1.out⟩
  case round =>
    obtain ⟨j, rfl, hj, rfl, hbel, hrow, hso⟩ := hrel
    have HB := Lib.hid hbel
    have HR := Lib.hid hrow
    have HOO := Lib.hid hso
    clear hbel hrow hso HB1 HR1 HO1
    by_cases h : j < c - 2
    · have hj2 : (j : Int) < ((c - 1 - 1 : Nat) : Int) := by omega
      have hj0 : (0 : Int) ≤ (j : Int) := by omega
      obtain ⟨_, _, hv, _, hg3, _, _, hfz, hcell⟩ := RowI.at HR.out (by omega)
      cases hv
      have z0 := hcell (1 + j) (by omega)
      rw [Nat.add_comm 1 j] at z0
      rw [Nat.add_comm j 1] at z0
      clear hfz hcell
      go_wp2_with fail
      rw [Nat.add_comm 1 j]
      obtain ⟨kw2, hknw2, hkfw2⟩ := HFI.out (j + 1) (by omega)
      have HPw2 := Lib.hid (show (plc n E O (j + 1)).toNat = kw2 by unfold plc; rw [hkfw2]; rfl)
      have HFw2 := Lib.hid hkfw2
      have hkmw2 : (kw2 : Int) < (n : Int) := by omega
      have hk0w2 : (0 : Int) ≤ (kw2 : Int) := by omega
      clear hkfw2
      refine (shapeAt_any n E N _ _ ca wr (HA.out.below (Nat.le_refl _) HB.out) (by omega)).mono ?_
      rintro e w2 ⟨rfl, hbs⟩
      rw [HFw2.out]
      have HBS := Lib.hid ((HB.out).trans (hbs.mono (HB.out).size))
      have HSS := Lib.hid hbs
      obtain ⟨b2, off2, hba2, hcc⟩ := (HA.out.below (Nat.le_refl _) HBS.out) (by omega)
      cases hba2
      obtain ⟨hci, d10, d11⟩ := hcc kw2 (by omega)
      have d0 := hci 0 (by omega)
      rw [Nat.add_zero] at d0
      have d1 := hci 1 (by omega)
      have d2 := hci 2 (by omega)
      have d3 := hci 3 (by omega)
      have d4 := hci 4 (by omega)
      have d5 := hci 5 (by omega)
      have d6 := hci 6 (by omega)
      have d7 := hci 7 (by omega)
      have d8 := hci 8 (by omega)
      have d9 := hci 9 (by omega)
      clear hcc hci hbs
      go_wp2_with fail
      refine (ends_any kw2 E N ax w2 (HRI.out kw2 hknw2) (HT.out.below (Nat.le_refl _) HBS.out)).mono ?_
      rintro e w3 ⟨rfl, hbx⟩
      rw [show extA (E kw2) ax = sA E (plc n E O) ax (j + 1) by unfold sA; rw [HPw2.out], show extB (E kw2) ax = sB E (plc n E O) ax (j + 1) by unfold sB; rw [HPw2.out]]
      have HBw3 := Lib.hid (HBS.out.trans (hbx.mono HBS.out.size))
      clear d0 d1 d2 d3 d4 d5 d6 d7 d8 d9 d10 d11 HBS hkmw2 hk0w2
      have HR3 := Lib.hid (RowI.below (RowI.below HR.out HSS.out (Nat.le_refl _)) hbx (Nat.le_refl _))
      have HO3 := Lib.hid (show ShR w3 w.heap.size (.slice (some ⟨o, 0, none⟩) n oc) n (E1 j) N from RowV.below (RowV.below HOO.out HSS.out (Nat.le_refl _)) hbx (Nat.le_refl _))
      obtain ⟨tv, htv⟩ : ∃ x, x = sA E (plc n E O) ax (j + 1) := ⟨_, rfl⟩
      obtain ⟨tb, htb⟩ : ∃ x, x = sB E (plc n E O) ax (j + 1) := ⟨_, rfl⟩
      rw [← htv, ← htb]
      obtain ⟨us, hus⟩ : ∃ x, x = usedR E (plc n E O) ax j := ⟨_, rfl⟩
      rw [← hus]
      have HUM := Lib.hid (show usedR E (plc n E O) ax (j + 1) = wrap64 (us + wrap64 (tb - tv)) by rw [htv, htb, hus]; rfl)
      have HBY := Lib.hid (show byT E (plc n E O) ax c j = wrap64 (wrap64 (wrap64 (fr + wrap64 (((j : Int) + 1) * room) / ((c - 1 : Nat) : Int)) + us) - tv) by
        rw [hus, htv, HFR.out, HRO.out, ← e1]; rfl)
      have HDN := Lib.hid (fun W => down_any (wrap64 (((j : Int) + 1) * room)) ((c - 1 : Nat) : Int) W (wrap_range _) (by omega))
      have hwj := IntWalk.i64_in ((j : Int) + 1) (by omega)
      have HMV := Lib.hid (fun B => moved_only n kw2 o oc w.heap.size (E1 j) N (O (j + 1)) ax B w3 HO3.out hn hknw2 (by rw [HE1.out, mvR_findV]; exact HFw2.out) (by omega) HBw3.out.size)
      clear htv htb hus hbx z0 HR HSS
      go_wp2_with fail
      refine (HDN.out w3).mono ?_
      rintro e w4 ⟨rfl, rfl⟩
      go_wp2_with fail
      rw [← HBY.out]
      refine (HMV.out _).mono ?_
      rintro e w5 ⟨rfl, ho5, hb5, hon⟩
      have HB5 := Lib.hid (HBw3.out.trans hb5)
      have HO5 := Lib.hid (show ShR w5 w.heap.size (.slice (some ⟨o, 0, none⟩) n oc) n (E1 (j + 1)) N by
        rw [HE1.out] at ho5 ⊢
        show ShR _ _ _ n (movE (mvR E (fun j => plc n E O (j + 1)) ax (byT E (plc n E O) ax c) j) (plc n E O (j + 1)).toNat ax (byT E (plc n E O) ax c j)) N
        rw [HPw2.out]
        exact ho5)
      have HR5 := Lib.hid (show RowI w5 w.heap.size 3 1 (.slice (some ⟨g, 0, none⟩) c cap) c O from RowI.block HR3.out (fun q hq => by
        simp [Value.ownBlock] at hq
        subst hq
        obtain ⟨_, _, hv, _, hlt, _⟩ := RowI.at HR3.out (by omega)
        cases hv
        exact hon.block _ hlt (by omega) (by simp [Value.ownBlock])))
      clear ho5 hb5 hon HMV HDN
      go_wp2_with fail
      go_roundw
      case rel => exact ⟨j + 1, by go_num, by omega, by rw [HUM.out], HB5.out, HR5.out, HO5.out⟩
      case measure => simp [intOf]; omega
    · obtain rfl : j = c - 2 := by omega
      have hnn : ¬ ((c - 2 : Nat) : Int) < ((c - 1 - 1 : Nat) : Int) := by omega
      have HFIN := Lib.hid (show E1 (c - 2) = sprT E (plc n E O) ax c by rw [HE1.out]; rfl)
      go_wp2_with fail
      go_meet
      exact ⟨HB.out, by rw [← HFIN.out]; exact HOO.out⟩
end Go.Proofs.YtabnohphgegflaaDoor.ShT
namespace Go.Proofs.YtabnohphgegflaaDoor.ShT
open Go.RowKit Go.Law Go.Law.Sh
set_option linter.unusedVariables false
set_option linter.unusedSimpArgs false
set_option maxRecDepth 100000
section
variable (n c ca cb : Nat) (E : Nat → Nat → Int) (N : Nat → Nat → ByteArray) (It : Nat → Int) (ax : Int) (a b : Option Addr) (w : World) (ha : ShF w a n E N) (hi : IntsF w b c It) (hn : n ≤ 1000) (hnc : n ≤ ca) (hc : c ≤ cb) (hm : cb ≤ maxLen)
include ha hi hn hnc hc hm
set_option maxHeartbeats 4000000 in
theorem spreadR_err (hbad : togE n E It c 3 ≠ 0) : Calls Tryd.prog 12 #[.slice a n ca, .slice b c cb, .int .i64 ax, .slice none 0 0, .int .i64 (togE n E It c 3)] w (TrueB w) := by
  have HAK := Lib.hid (together_any n c ca cb E N It 3 a b w ha hi hn hnc hc hm)
  obtain ⟨V, hV⟩ : ∃ V, V = togE n E It c 3 := ⟨_, rfl⟩
  have g1 : (V != 0) = true := by rw [hV]; simpa using hbad
  have g2 : (V == V) = true := by simp
  have g3 : (V == 0) = false := by rw [hV]; simpa using hbad
  rw [← hV] at HAK ⊢
  clear ha hi hbad hV
  go_enter Tryd.func12, Tryd.ntmps12
  go_wp2_with fail
  refine HAK.out.mono ?_
  rintro e w1 ⟨rfl, hb1⟩
  have HB := Lib.hid hb1
  clear hb1
  go_wp2_with fail
  go_ret
  exact ⟨rfl, HB.out⟩
set_option maxHeartbeats 4000000 in
theorem spreadR_arg (hok : togE n E It c 3 = 0) (hs : ax < 0 ∨ 1 < ax) : Calls Tryd.prog 12 #[.slice a n ca, .slice b c cb, .int .i64 ax, .slice none 0 0, .int .i64 1] w (TrueB w) := by
  have HAK := Lib.hid (together_any n c ca cb E N It 3 a b w ha hi hn hnc hc hm)
  rw [hok] at HAK
  have HIN := Lib.hid (show Ref.inB ax 0 1 = false by rw [Ref.inB_false]; omega)
  clear ha hi hok hs
  go_enter Tryd.func12, Tryd.ntmps12
  go_wp2_with fail
  refine HAK.out.mono ?_
  rintro e w1 ⟨rfl, hb1⟩
  have HB := Lib.hid hb1
  clear hb1
  go_wp2_with fail
  refine (Ref.in_any ax 0 1 w1).mono ?_
  rintro e w2 ⟨rfl, rfl⟩
  rw [HIN.out]
  go_wp2_with fail
  go_ret
  exact ⟨rfl, HB.out⟩
end
/-- the ints of a row, one after the other -/
def inL (c : Nat) (It : Nat → Int) : List Value := (List.range c).map (fun j => Value.int .i64 (It j))
theorem inL_len (c : Nat) (It : Nat → Int) : (inL c It).length = c * 1 := by unfold inL; simp
theorem inL_get {c : Nat} {It : Nat → Int} {j : Nat} (hj : j < c) : (inL c It)[j]? = some (.int .i64 (It j)) := by
  unfold inL; rw [List.getElem?_map, List.getElem?_range hj]; rfl
theorem inL_one {c : Nat} {It : Nat → Int} : ∀ u, u ∈ inL c It → u.oneCell' = true := by
  intro u hu
  unfold inL at hu
  obtain ⟨j, _, rfl⟩ := List.mem_map.1 hu
  rfl
set_option maxHeartbeats 8000000 in
theorem spreadR_ok (n c ca cb : Nat) (E : Nat → Nat → Int) (N : Nat → Nat → ByteArray) (It : Nat → Int) (ax : Int) (a b : Option Addr) (w : World) (ha : ShF w a n E N) (hi : IntsF w b c It) (hn : n ≤ 1000) (hnc : n ≤ ca) (hc : c ≤ cb) (hm : cb ≤ maxLen)
    (hok : togE n E It c 3 = 0) (hs0 : 0 ≤ ax) (hs1 : ax ≤ 1) (ht : Arr w 6)
    (S : Nat → Int) (hS : PermF c S (posF n E It)) (hSo : ∀ a b, a < b → b < c → lexL (fun p => extA (E p.toNat) ax) (S a) (S b))
    (rv : Value) (re : Int)
    (hres : (shE n (sprE E S ax c) ≠ 0 ∧ rv = .slice none 0 0 ∧ re = shE n (sprE E S ax c)) ∨ (shE n (sprE E S ax c) = 0 ∧ re = 0 ∧ ∃ al cl, rv = .slice al n cl ∧ n ≤ cl ∧ ShF w al n (sprE E S ax c) N)) :
    Calls Tryd.prog 12 #[.slice a n ca, .slice b c cb, .int .i64 ax, rv, .int .i64 re] w (TrueB w) := by
  obtain ⟨hE0, hc1, hall⟩ := togE_zero hok
  have hcn := count_le hall
  have hc0 : 3 ≤ c := by omega
  obtain ⟨b0, off0, rfl, _⟩ := ha (by omega)
  obtain ⟨b1, o1, rfl, _⟩ := hi (by omega)
  have HAK := Lib.hid (together_any n c ca cb E N It 3 (some ⟨b0, off0, none⟩) (some ⟨b1, o1, none⟩) w ha hi hn hnc hc hm)
  rw [hok] at HAK
  have HIN := Lib.hid (show Ref.inB ax 0 1 = true by rw [Ref.inB_true]; omega)
  have HA := Lib.hid ha
  have HI := Lib.hid hi
  have HT := Lib.hid ht
  have HRI := Lib.hid (show ∀ k, k < n → Right E k from fun k hk => right_of ((shE_zero hE0).2 k hk))
  have HFI0 := Lib.hid (show ∀ i, i < c → ∃ k : Nat, k < n ∧ findV n E (It i) = k from fun i hi' => ⟨_, (pos_find (ok_bad (hall i hi')).1).2.1, (pos_find (ok_bad (hall i hi')).1).1⟩)
  have HPP := Lib.hid (show ∀ j, j < c → plc n E It j = posF n E It j from plc_posF hall)
  have HDI := Lib.hid (show ∀ a b, a < b → b < c → plc n E It a ≠ plc n E It b from fun a b h1 h2 => by rw [HPP.out a (by omega), HPP.out b h2]; exact posF_ne hall a b h1 h2)
  have HS := Lib.hid hS
  have HSO := Lib.hid hSo
  have HRES := Lib.hid hres
  have HM := Lib.hid hm
  clear ha hi hok hc1 hall hE0 ht hS hSo hres hm
  go_enter Tryd.func12, Tryd.ntmps12
  go_wp2_with fail
  refine HAK.out.mono ?_
  rintro e w1 ⟨rfl, hb1⟩
  have HB1 := Lib.hid hb1
  clear hb1 HAK
  go_wp2_with fail
  refine (Ref.in_any ax 0 1 w1).mono ?_
  rintro e w2 ⟨rfl, rfl⟩
  rw [HIN.out]
  have hsz1 := HB1.out.size
  have hown := World.ownsRow_nil w1 w.heap.size 3 1
  obtain ⟨b1', o1', he, hcell⟩ := (HI.out.below (Nat.le_refl _) HB1.out) (by omega)
  cases he
  have HCE := Lib.hid hcell
  obtain ⟨ii, hii, hz0, hz1, hz2⟩ := info_parts (show (Tryd.prog.info? 3).map (fun i => (i.zero, i.size, i.bytes)) = some (some (.int .i64 0), 1, 8) by kernel_rfl)
  clear hcell
  go_upto_region 6 with fail
  go_wp2_with (at_builtin; go_loud (refine wpList_append_own _ rfl _ _ 22 rfl w.heap.size 3 ii (.int .i64 0) 1 8 Tryd.underlying22 hii hz0 hz1 hz2 rfl (by decide) _ _ _ rfl hown ⟨b1, o1, none⟩ c cb (inL c It) rfl (inL_len c It) ?c1 ?c2 ?c3 ?c4 ?c5 ?_))
  case c1 =>
    intro j u hj
    have hj1 := (List.getElem?_eq_some_iff.1 hj).1
    rw [inL_len] at hj1
    rw [inL_get (by omega)] at hj
    obtain rfl := Option.some.inj hj
    rw [show (⟨b1, o1, none⟩ : Addr).add j = ⟨b1, o1 + j, none⟩ by simp [Addr.add]]
    exact HCE.out j (by omega)
  case c2 => exact inL_one
  case c3 => unfold maxLen; omega
  case c4 => omega
  case c5 => omega
  intro v' wb hown' hgrow _
  have hrow : RowI wb w.heap.size 3 1 v' c It := by
    refine ⟨_, by simpa using hown', fun i hi => ?_⟩
    exact inL_get (by omega)
  have HBB := Lib.hid (show Below w.heap.size w wb from HB1.out.grown hgrow hsz1 (fun k hk => by simp [Value.ownBlock] at hk))
  obtain ⟨g, cap, rfl, hgB, hgb, hcap, _, hfz, hcx⟩ := RowI.at hrow (by omega)
  have HRB := Lib.hid hrow
  clear hown hown' hgrow hrow hii hz0 hz1 hz2 hfz hcx HB1 HCE
  go_upto_block 0 with fail
  go_cut [] from 13 to 13 (fun wx => Below w.heap.size w wx ∧ ∃ O, RowI wx w.heap.size 3 1 (.slice (some ⟨g, 0, none⟩) c cap) c O ∧ PermF c O It ∧ ∀ a b, a < b → b < c → lexL (fun p => extA (E p.toNat) ax) (plc n E O a) (plc n E O b))
  case first => exact rsSort hn (by omega) HA HT HRI HFI0 HDI HBB HRB hgB (Lib.hid fun _ _ _ _ hd h => ⟨hd.symm.trans h.1, h.2⟩) (by assumption) (by assumption)
  case rest =>
  obtain ⟨hbel, O, hrow, hperm, hord⟩ := hcut
  obtain ⟨wr, rfl⟩ : ∃ v : World, v = wc := ⟨_, rfl⟩
  have HB := Lib.hid hbel
  have HR := Lib.hid hrow
  have HFI := Lib.hid (show ∀ i, i < c → ∃ k : Nat, k < n ∧ findV n E (O i) = k from fun i hi => by
    obtain ⟨q, hq, e⟩ := hperm.mem hi
    rw [← e]; exact HFI0.out q hq)
  have HSE := Lib.hid (show sprT E (plc n E O) ax c = sprE E S ax c by
    rw [sprT_eq]
    refine (sprE_congr hc0 (sorted_unique (X := fun p => extA (E p.toNat) ax) ?_ HSO.out hord)).symm
    refine HS.out.trans (PermF.symm ?_)
    exact ((plc_perm hperm).symm.congr (fun i hi => (HPP.out i hi).symm)).symm)
  clear hbel hrow hperm hord HBB HRB HFI0 HDI HPP HS HSO
  have hc00 : 0 < c := by omega
  have e1 : (c : Int) - 1 = ((c - 1 : Nat) : Int) := by omega
  have hw1 := IntWalk.i64_in ((c - 1 : Nat) : Int) (by omega)
  have hc01 : ((c - 1 : Nat) : Int) < (c : Int) := by omega
  have hc02 : (0 : Int) ≤ ((c - 1 : Nat) : Int) := by omega
  obtain ⟨_, _, hv, _, _, _, _, hfz, hcell⟩ := RowI.at HR.out (by omega)
  cases hv
  have z0 := hcell 0 (by omega)
  have HCELL := Lib.hid hcell
  have HCAP := Lib.hid hcap
  clear hcell hfz
  go_wp2_with fail
  obtain ⟨kw2, hknw2, hkfw2⟩ := HFI.out 0 (by omega)
  have HPw2 := Lib.hid (show (plc n E O 0).toNat = kw2 by unfold plc; rw [hkfw2]; rfl)
  have HFw2 := Lib.hid hkfw2
  have hkmw2 : (kw2 : Int) < (n : Int) := by omega
  have hk0w2 : (0 : Int) ≤ (kw2 : Int) := by omega
  clear hkfw2
  refine (shapeAt_any n E N _ _ ca wr (HA.out.below (Nat.le_refl _) HB.out) (by omega)).mono ?_
  rintro e w2 ⟨rfl, hbs⟩
  rw [HFw2.out]
  have HBS := Lib.hid ((HB.out).trans (hbs.mono (HB.out).size))
  have HSS := Lib.hid hbs
  obtain ⟨b2, off2, hba2, hcc⟩ := (HA.out.below (Nat.le_refl _) HBS.out) (by omega)
  cases hba2
  obtain ⟨hci, d10, d11⟩ := hcc kw2 (by omega)
  have d0 := hci 0 (by omega)
  rw [Nat.add_zero] at d0
  have d1 := hci 1 (by omega)
  have d2 := hci 2 (by omega)
  have d3 := hci 3 (by omega)
  have d4 := hci 4 (by omega)
  have d5 := hci 5 (by omega)
  have d6 := hci 6 (by omega)
  have d7 := hci 7 (by omega)
  have d8 := hci 8 (by omega)
  have d9 := hci 9 (by omega)
  clear hcc hci hbs
  go_wp2_with fail
  refine (ends_any kw2 E N ax w2 (HRI.out kw2 hknw2) (HT.out.below (Nat.le_refl _) HBS.out)).mono ?_
  rintro e w3 ⟨rfl, hbx⟩
  rw [show extA (E kw2) ax = sA E (plc n E O) ax 0 by unfold sA; rw [HPw2.out], show extB (E kw2) ax = sB E (plc n E O) ax 0 by unfold sB; rw [HPw2.out]]
  have HBw3 := Lib.hid (HBS.out.trans (hbx.mono HBS.out.size))
  clear d0 d1 d2 d3 d4 d5 d6 d7 d8 d9 d10 d11 HBS hkmw2 hk0w2
  have HR3 := Lib.hid (RowI.below (RowI.below HR.out HSS.out (Nat.le_refl _)) hbx (Nat.le_refl _))
  obtain ⟨fr, hfr⟩ : ∃ x, x = sB E (plc n E O) ax 0 := ⟨_, rfl⟩
  obtain ⟨fa, hfa⟩ : ∃ x, x = sA E (plc n E O) ax 0 := ⟨_, rfl⟩
  rw [← hfr, ← hfa]
  have HFR := Lib.hid hfr
  clear hfr hfa hbx z0 HR HSS HCELL
  obtain ⟨_, _, hv, _, _, _, _, hfz, hcell⟩ := RowI.at HR3.out (by omega)
  cases hv
  have z0 := hcell (c - 1) (by omega)
  clear hcell hfz
  go_wp2_with fail
  obtain ⟨kw4, hknw4, hkfw4⟩ := HFI.out (c - 1) (by omega)
  have HPw4 := Lib.hid (show (plc n E O (c - 1)).toNat = kw4 by unfold plc; rw [hkfw4]; rfl)
  have HFw4 := Lib.hid hkfw4
  have hkmw4 : (kw4 : Int) < (n : Int) := by omega
  have hk0w4 : (0 : Int) ≤ (kw4 : Int) := by omega
  clear hkfw4
  refine (shapeAt_any n E N _ _ ca w3 (HA.out.below (Nat.le_refl _) HBw3.out) (by omega)).mono ?_
  rintro e w4 ⟨rfl, hbs⟩
  rw [HFw4.out]
  have HBS := Lib.hid ((HBw3.out).trans (hbs.mono (HBw3.out).size))
  have HSS := Lib.hid hbs
  obtain ⟨b2, off2, hba2, hcc⟩ := (HA.out.below (Nat.le_refl _) HBS.out) (by omega)
  cases hba2
  obtain ⟨hci, d10, d11⟩ := hcc kw4 (by omega)
  have d0 := hci 0 (by omega)
  rw [Nat.add_zero] at d0
  have d1 := hci 1 (by omega)
  have d2 := hci 2 (by omega)
  have d3 := hci 3 (by omega)
  have d4 := hci 4 (by omega)
  have d5 := hci 5 (by omega)
  have d6 := hci 6 (by omega)
  have d7 := hci 7 (by omega)
  have d8 := hci 8 (by omega)
  have d9 := hci 9 (by omega)
  clear hcc hci hbs
  go_wp2_with fail
  refine (ends_any kw4 E N ax w4 (HRI.out kw4 hknw4) (HT.out.below (Nat.le_refl _) HBS.out)).mono ?_
  rintro e w5 ⟨rfl, hbx⟩
  rw [show extA (E kw4) ax = sA E (plc n E O) ax (c - 1) by unfold sA; rw [HPw4.out], show extB (E kw4) ax = sB E (plc n E O) ax (c - 1) by unfold sB; rw [HPw4.out]]
  have HBw5 := Lib.hid (HBS.out.trans (hbx.mono HBS.out.size))
  clear d0 d1 d2 d3 d4 d5 d6 d7 d8 d9 d10 d11 HBS hkmw4 hk0w4
  have HR5 := Lib.hid (RowI.below (RowI.below HR3.out HSS.out (Nat.le_refl _)) hbx (Nat.le_refl _))
  obtain ⟨tv, htv⟩ : ∃ x, x = sA E (plc n E O) ax (c - 1) := ⟨_, rfl⟩
  obtain ⟨tb, htb⟩ : ∃ x, x = sB E (plc n E O) ax (c - 1) := ⟨_, rfl⟩
  rw [← htv, ← htb]
  have HTV := Lib.hid htv
  clear htv htb hbx z0 HR3 HSS
  go_upto_block 4 with fail
  go_cut [24] from 24 to 24 (fun rv wx => rv = .int .i64 (roomR E (plc n E O) ax c (c - 2)) ∧ Below w.heap.size w wx ∧ RowI wx w.heap.size 3 1 (.slice (some ⟨g, 0, none⟩) c cap) c O)
  case first => exact rsRoom hn hc0 (by omega) HA HT HRI HFI HBw5 HR5 hgB (Lib.hid (show wrap64 (tv - fr) = roomR E (plc n E O) ax c 0 by rw [HTV.out, HFR.out]; rfl)) (Lib.hid fun _ _ _ _ hd h => ⟨hd.symm.trans h.1, h.2⟩) (by assumption) (by assumption)
  case rest =>
  obtain ⟨rfl, hbel, hrow⟩ := hcut
  obtain ⟨w6, rfl⟩ : ∃ v : World, v = wc := ⟨_, rfl⟩
  have HB6 := Lib.hid hbel
  have HR6 := Lib.hid hrow
  have hsz6 := hbel.size
  obtain ⟨room, hroom⟩ : ∃ x, x = roomR E (plc n E O) ax c (c - 2) := ⟨_, rfl⟩
  rw [← hroom]
  have HRO := Lib.hid hroom
  clear hbel hrow hroom HBw5 HR5
  have hown := World.ownsRow_nil w6 w6.heap.size 30 12
  obtain ⟨ii, hii, hz0, hz1, hz2⟩ := info_parts shape_info
  have HAA := Lib.hid (HA.out.below (Nat.le_refl _) HB6.out)
  go_upto_region 29 with fail
  go_wp2_with (at_builtin; go_loud (refine wpList_append_own _ rfl _ _ 28 rfl w6.heap.size 30 ii (.agg #[.int .i64 0, .int .i64 0, .int .i64 0, .int .i64 0, .int .i64 0, .int .i64 0, .int .i64 0, .int .i64 0, .int .i64 0, .int .i64 0, .string ⟨#[]⟩, .string ⟨#[]⟩]) 12 112 Tryd.underlying28 hii hz0 hz1 hz2 rfl (by decide) _ _ _ rfl hown ⟨b0, off0, none⟩ n ca (shL n E N) rfl (shL_len n E N) ?c1 ?c2 ?c3 ?c4 ?c5 ?_))
  case c1 =>
    intro j u hj
    have hj1 := (List.getElem?_eq_some_iff.1 hj).1
    rw [shL_len] at hj1
    rw [shL_get hj1] at hj
    obtain rfl := Option.some.inj hj
    exact ShF.cells HAA.out hj1
  case c2 => exact shL_one
  case c3 => unfold maxLen; omega
  case c4 => omega
  case c5 => omega
  intro v' wb2 hown' hgrow _
  have hrow : ShR wb2 w6.heap.size v' n E N := by
    refine ⟨_, by simpa using hown', fun i hi j hj => ?_⟩
    exact shL_row hi hj
  have hbg := (Below.refl w6.heap.size w6).grown hgrow (Nat.le_refl _) (fun k hk => by simp [Value.ownBlock] at hk)
  have HB7 := Lib.hid (HB6.out.trans (hbg.mono hsz6))
  have HR7 := Lib.hid (RowI.below HR6.out hbg (Nat.le_refl _))
  obtain ⟨o, oc, rfl, hoB, hob, hnoc, _, hfz, hcx⟩ := RowV.at hrow (by omega)
  obtain ⟨_, _, hv, _, hg5, _, _, hfz2, hcx2⟩ := RowI.at HR6.out (by omega)
  cases hv
  have hgo : g < o := by omega
  have HO7 := Lib.hid (show ShR wb2 w.heap.size (.slice (some ⟨o, 0, none⟩) n oc) n E N from RowV.mono hrow hsz6)
  have HNOC := Lib.hid hnoc
  clear hown hown' hgrow hrow hii hz0 hz1 hz2 hfz hcx hfz2 hcx2 hbg hnoc HAA HB6 HR6
  go_upto_block 6 with fail
  go_cut [] from 31 to 31 (fun wx => Below w.heap.size w wx ∧ ShR wx w.heap.size (.slice (some ⟨o, 0, none⟩) n oc) n (sprT E (plc n E O) ax c) N)
  case first => exact rsMove hn hc0 (by omega) HA HT HRI HFI HB7 HR7 hgB HFR HRO hgo HO7 (Lib.hid fun _ _ _ _ hd h => ⟨hd.symm.trans h.1, h.2⟩) (by assumption) (by assumption)
  case rest =>
  obtain ⟨hbel, hso⟩ := hcut
  obtain ⟨wf, rfl⟩ : ∃ v : World, v = wc := ⟨_, rfl⟩
  have HBF := Lib.hid hbel
  have HOF := Lib.hid hso
  have hszf := hbel.size
  obtain ⟨E', hE'⟩ : ∃ E', E' = sprT E (plc n E O) ax c := ⟨_, rfl⟩
  rw [← hE'] at HOF
  have HRR := Lib.hid (show (shE n E' ≠ 0 ∧ rv = .slice none 0 0 ∧ re = shE n E') ∨ (shE n E' = 0 ∧ re = 0 ∧ ∃ al cl, rv = .slice al n cl ∧ n ≤ cl ∧ ShF w al n E' N) by rw [hE', HSE.out]; exact HRES.out)
  clear hbel hso hE' HRES HSE HB7 HR7 HO7
  rcases HRR.out with ⟨h1, rfl, rfl⟩ | ⟨h1, rfl, al, cl, rfl, h2, h3⟩
  · have HSM := Lib.hid (same_err n oc E' N (some ⟨o, 0, none⟩) wf (ShR.shF HOF.out) hn HNOC.out h1)
    clear h1
    go_wp2_with fail
    refine HSM.out.mono ?_
    rintro e wg ⟨rfl, hbg⟩
    have HBG := Lib.hid (HBF.out.trans (hbg.mono hszf))
    clear hbg HSM
    go_wp2_with fail
    go_ret
    exact ⟨rfl, HBG.out⟩
  · have HSM := Lib.hid (same_ok n cl oc E' N al (some ⟨o, 0, none⟩) wf (h3.below (Nat.le_refl _) HBF.out) (ShR.shF HOF.out) hn h2 HNOC.out h1)
    clear h1 h3
    go_wp2_with fail
    refine HSM.out.mono ?_
    rintro e wg ⟨rfl, hbg⟩
    have HBG := Lib.hid (HBF.out.trans (hbg.mono hszf))
    clear hbg HSM
    go_wp2_with fail
    go_ret
    exact ⟨rfl, HBG.out⟩
end Go.Proofs.YtabnohphgegflaaDoor.ShT
