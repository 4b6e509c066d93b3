
/-
  The text of a character.
-/
import Derived.Test.YtghbicajcffjhaaDoorPcHex
import Derived.Laws.Cover4
namespace Go.Proofs.YtghbicajcffjhaaDoor.PC
open Go.RowKit Go.Law Go.Law.Pn
set_option linter.unusedVariables false
set_option linter.unusedSimpArgs false
set_option maxRecDepth 100000
theorem hexL_len (u : Nat) : (hexL u).length ≤ 4 := by
  unfold hexL hexJ
  rw [List.length_map, List.length_range]
  repeat' split
  all_goals omega
set_option maxHeartbeats 4000000 in
theorem finner_any (u : Nat) (hu : u < 65536) (w : World) (hd : w.cell? ⟨12, 15, none⟩ = some (.int .u8 4)) :
    Calls Tryd.prog 148 #[.int .i64 (u : Nat), .int .i64 16] w fun e w' => e = .returned (.string (strOfNums (hexL u))) ∧ Below w.heap.size w w' := by
  have hw : IntKind.u64.wrap (u : Int) = (u : Int) := by rw [IntKind.wrap_u64]; omega
  have h0 : ¬ (u : Int) < 0 := by omega
  have HC := Lib.hid (fbits_any u hu w hd)
  clear hd
  go_enter Tryd.func148, Tryd.ntmps148
  go_wp2_with (go_at_call 168; refine HC.out.mono ?_; rintro e w2 ⟨rfl, hb2⟩)
  go_ret
  exact ⟨rfl, hb2⟩
theorem fint_any (u : Nat) (hu : u < 65536) (w : World) (hd : w.cell? ⟨12, 15, none⟩ = some (.int .u8 4)) :
    Calls Tryd.prog 121 #[.int .i64 (u : Nat), .int .i64 16] w fun e w' => e = .returned (.string (strOfNums (hexL u))) ∧ Below w.heap.size w w' := by
  go_enter Tryd.func121, Tryd.ntmps121
  go_wp2_with (go_at_call 148; refine (finner_any u hu _ hd).mono ?_; rintro e w2 ⟨rfl, hb2⟩)
  go_ret
  exact ⟨rfl, hb2⟩
/-- the characters that are written behind a backslash -/
def specS : ByteArray := ⟨#[92, 46, 91, 93, 40, 41, 123, 125, 124, 42, 43, 63, 94, 36, 45]⟩
/-- the text of a character -/
noncomputable def chrS (c : Nat) : ByteArray :=
  if c = 9 then ⟨#[92, 116]⟩ else if c = 10 then ⟨#[92, 110]⟩
  else if c < 127 ∧ 32 ≤ c ∧ 0 ≤ Lib.indexByte specS.data.toList (UInt8.ofNat c) then ⟨#[92]⟩ ++ Utf8.encode c
  else if c < 32 ∨ (127 ≤ c ∧ c < 160) ∨ (55296 ≤ c ∧ c ≤ 57343) then ⟨#[92, 117, 123]⟩ ++ strOfNums (hexL c) ++ ⟨#[125]⟩
  else Utf8.encode c
set_option maxHeartbeats 4000000 in
theorem showChar_any (c : Nat) (hc : c ≤ 1114111) (w : World) (hd : w.cell? ⟨12, 15, none⟩ = some (.int .u8 4)) :
    Calls Tryd.prog 85 #[.int .i64 (c : Nat)] w fun e w' => e = .returned (.string (chrS c)) ∧ Below w.heap.size w w' := by
  have HC := Lib.hid (fun (h : c < 65536) => fint_any c h w hd)
  clear hd
  obtain ⟨V, hV⟩ : ∃ V, V = chrS c := ⟨_, rfl⟩
  rw [← hV]
  have HV := Lib.hid hV
  clear hV
  obtain ⟨U, hU⟩ : ∃ U, Utf8.encode (c : Int) = U := ⟨_, rfl⟩
  obtain ⟨S, hS⟩ : ∃ S, strOfNums (hexL c) = S := ⟨_, rfl⟩
  have hUs : U.size ≤ 4 := by rw [← hU]; exact encode_size_le _
  have hSs : S.size ≤ 4 := by rw [← hS, strOfNums_size]; exact hexL_len c
  rw [hS] at HC
  have HU := Lib.hid hU
  have HS := Lib.hid hS
  clear hS
  have hw1 : IntKind.u8.wrap (c : Int) = ((c % 256 : Nat) : Int) := by rw [IntKind.wrap_u8]; omega
  have hw2 : IntKind.i32.wrap (c : Int) = (c : Int) := by rw [IntKind.wrap_i32]; omega
  by_cases h9 : c = 9
  · have HE := Lib.hid (show V = ⟨#[92, 116]⟩ by rw [HV.out, chrS, if_pos h9])
    subst h9
    go_enter Tryd.func85, Tryd.ntmps85
    go_wp2_with fail
    go_ret
    exact ⟨by rw [HE.out]; rfl, Below.refl _ _⟩
  by_cases h10 : c = 10
  · have HE := Lib.hid (show V = ⟨#[92, 110]⟩ by rw [HV.out, chrS, if_neg h9, if_pos h10])
    subst h10
    go_enter Tryd.func85, Tryd.ntmps85
    go_wp2_with fail
    go_ret
    exact ⟨by rw [HE.out]; rfl, Below.refl _ _⟩
  have c9 : ((c : Int) == 9) = false := by simp; omega
  have c10 : ((c : Int) == 10) = false := by simp; omega
  obtain ⟨ix, hix⟩ : ∃ x, x = Lib.indexByte specS.data.toList (UInt8.ofNat c) := ⟨_, rfl⟩
  have HIX := Lib.hid (show c < 127 → Calls Tryd.prog 120 #[.string ⟨#[92, 46, 91, 93, 40, 41, 123, 125, 124, 42, 43, 63, 94, 36, 45]⟩, .int .u8 ((c : Int) % 256)] w fun e w' => e = .returned (.int .i64 ix) ∧ w' = w from fun hc2 => by
    have h1 := Tryd.strings_IndexByte specS ((c : Int) % 256) w
    rw [show ((c : Int) % 256).toNat.toUInt8 = UInt8.ofNat c by rw [show ((c : Int) % 256).toNat = c by omega]] at h1
    rw [hix]
    exact h1)
  have HXX := Lib.hid hix
  clear hix
  have HW := Lib.hid (show c < 32 ∨ (127 ≤ c ∧ c < 160) ∨ (55296 ≤ c ∧ c ≤ 57343) → c < 65536 by omega)
  by_cases hs : c < 127 ∧ 32 ≤ c
  · obtain ⟨s1, s2⟩ := hs
    have s4 : (c : Int) < 127 := by omega
    have s5 : 32 ≤ (c : Int) := by omega
    have s7 : ¬ (c : Int) < 32 := by omega
    have s9 : ¬ 55296 ≤ (c : Int) := by omega
    by_cases hi : 0 ≤ ix
    · have HE := Lib.hid (show V = ⟨#[92]⟩ ++ U by rw [← HU.out, HV.out, chrS, if_neg h9, if_neg h10, if_pos ⟨s1, s2, by rw [← HXX.out]; exact hi⟩])
      go_enter Tryd.func85, Tryd.ntmps85
      go_wp2_with (go_at_call 120; refine (HIX.out s1).mono ?_; rintro e w2 ⟨rfl, rfl⟩)
      go_ret
      exact ⟨by rw [HE.out]; rfl, Below.refl _ _⟩
    · have HE := Lib.hid (show V = U by rw [← HU.out, HV.out, chrS, if_neg h9, if_neg h10, if_neg (by rw [← HXX.out]; exact fun h => hi h.2.2), if_neg (by omega)])
      obtain rfl : ix = -1 := by
        have h1 := Lib.indexByte_ge specS.data.toList (UInt8.ofNat c)
        rw [← HXX.out] at h1
        omega
      clear hi
      go_enter Tryd.func85, Tryd.ntmps85
      go_upto_region 7 with (go_at_call 120; refine (HIX.out s1).mono ?_; rintro e w2 ⟨rfl, rfl⟩)
      have s8b : (decide (127 ≤ (c : Int))) = false := by simp; omega
      have s9b : (decide (55296 ≤ (c : Int))) = false := by simp; omega
      have s7b : (decide ((c : Int) < 32)) = false := by simp; omega
      clear s4 s5 s9 s7 s1 s2 h9 h10 c9 c10 hw1
      go_upto_region 9 with fail
      go_wp2_with fail
      go_ret
      exact ⟨by rw [HE.out]; rfl, Below.refl _ _⟩
  have hs2 : ¬ (c < 127 ∧ 32 ≤ c ∧ 0 ≤ Lib.indexByte specS.data.toList (UInt8.ofNat c)) := fun h => hs ⟨h.1, h.2.1⟩
  have HVN := Lib.hid (show V = if c < 32 ∨ (127 ≤ c ∧ c < 160) ∨ (55296 ≤ c ∧ c ≤ 57343) then ⟨#[92, 117, 123]⟩ ++ S ++ ⟨#[125]⟩ else U by rw [← HU.out, ← HS.out, HV.out, chrS, if_neg h9, if_neg h10, if_neg hs2])
  clear hs2
  by_cases h1 : c < 32
  · have HE := Lib.hid (show V = ⟨#[92, 117, 123]⟩ ++ S ++ ⟨#[125]⟩ by rw [HVN.out, if_pos (.inl h1)])
    have s1 : (c : Int) < 32 := by omega
    have s2 : (c : Int) < 127 := by omega
    have s3 : ¬ 32 ≤ (c : Int) := by omega
    go_enter Tryd.func85, Tryd.ntmps85
    go_wp2_with (go_at_call 121; refine (HC.out (by omega)).mono ?_; rintro e w2 ⟨rfl, hb2⟩)
    go_ret
    exact ⟨by rw [HE.out]; rfl, hb2⟩
  have s1 : ¬ (c : Int) < 32 := by omega
  have s2 : ¬ (c : Int) < 127 := by omega
  have s3 : 127 ≤ (c : Int) := by omega
  by_cases h2 : c < 160
  · have HE := Lib.hid (show V = ⟨#[92, 117, 123]⟩ ++ S ++ ⟨#[125]⟩ by rw [HVN.out, if_pos (.inr (.inl ⟨by omega, h2⟩))])
    have s4 : (c : Int) < 160 := by omega
    go_enter Tryd.func85, Tryd.ntmps85
    go_wp2_with (go_at_call 121; refine (HC.out (by omega)).mono ?_; rintro e w2 ⟨rfl, hb2⟩)
    go_ret
    exact ⟨by rw [HE.out]; rfl, hb2⟩
  have s4 : ¬ (c : Int) < 160 := by omega
  by_cases h3 : 55296 ≤ c ∧ c ≤ 57343
  · have HE := Lib.hid (show V = ⟨#[92, 117, 123]⟩ ++ S ++ ⟨#[125]⟩ by rw [HVN.out, if_pos (.inr (.inr h3))])
    have s5 : 55296 ≤ (c : Int) := by omega
    have s6 : (c : Int) ≤ 57343 := by omega
    go_enter Tryd.func85, Tryd.ntmps85
    go_wp2_with (go_at_call 121; refine (HC.out (by omega)).mono ?_; rintro e w2 ⟨rfl, hb2⟩)
    go_ret
    exact ⟨by rw [HE.out]; rfl, hb2⟩
  have HE := Lib.hid (show V = U by rw [HVN.out, if_neg (by omega)])
  by_cases h4 : 55296 ≤ c
  · have s5 : 55296 ≤ (c : Int) := by omega
    have s6 : ¬ (c : Int) ≤ 57343 := by omega
    go_enter Tryd.func85, Tryd.ntmps85
    go_wp2_with fail
    go_ret
    exact ⟨by rw [HE.out]; rfl, Below.refl _ _⟩
  · have s5 : ¬ 55296 ≤ (c : Int) := by omega
    go_enter Tryd.func85, Tryd.ntmps85
    go_wp2_with fail
    go_ret
    exact ⟨by rw [HE.out]; rfl, Below.refl _ _⟩
end Go.Proofs.YtghbicajcffjhaaDoor.PC
