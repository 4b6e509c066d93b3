
/-
  A number in base 16.
-/
import Derived.Test.YtghbicajcffjhaaDoorPcEnv
namespace Go.Proofs.YtghbicajcffjhaaDoor.PC
open Go.RowKit Go.Law Go.Law.Pn
set_option linter.unusedVariables false
set_option linter.unusedSimpArgs false
set_option maxRecDepth 100000
theorem pow2_any (w : World) : Calls Tryd.prog 176 #[.int .i64 16] w fun e w' => e = .returned (.bool true) ∧ w = w' := by
  have e1 : bits BinOp.and IntKind.i64 16 15 = 0 := by decide +kernel
  go_enter Tryd.func176, Tryd.ntmps176
  go_wp2_with fail
  go_ret
  exact ⟨rfl, rfl⟩
theorem and15 (E : Nat) (h : E < 18446744073709551616) : bits BinOp.and IntKind.u64 (E : Int) 15 = ((E % 16 : Nat) : Int) := by
  have h2 := bits_and_u64_nat E 15 (by omega) (by omega)
  rw [show E &&& 15 = E % 2 ^ 4 from Nat.and_two_pow_sub_one_eq_mod E 4] at h2
  exact h2
/-- the bytes of digits -/
def hexA : ByteArray := ⟨#[48, 49, 50, 51, 52, 53, 54, 55, 56, 57, 97, 98, 99, 100, 101, 102, 103, 104, 105, 106, 107, 108, 109, 110, 111, 112, 113, 114, 115, 116, 117, 118, 119, 120, 121, 122]⟩
def hexB (x : Nat) : Int := if h : x < 36 then ((hexA[x]'h).toNat : Nat) else 0
/-- how many digits stand behind the first -/
def hexJ (u : Nat) : Nat := if u < 16 then 0 else if u < 256 then 1 else if u < 4096 then 2 else 3
def hexL (u : Nat) : List Int := (List.range (hexJ u + 1)).map fun i => hexB (u / 16 ^ (hexJ u - i) % 16)
theorem hexJ_of {u j : Nat} (hj : j ≤ 3) (h1 : u / 16 ^ j < 16) (h2 : j = 0 ∨ 16 ≤ u / 16 ^ (j - 1)) : j = hexJ u := by
  unfold hexJ
  obtain rfl | rfl | rfl | rfl : j = 0 ∨ j = 1 ∨ j = 2 ∨ j = 3 := by omega
  · simp at h1; rw [if_pos h1]
  · simp at h1 h2; rw [if_neg (by omega), if_pos (by omega)]
  · simp at h1 h2; rw [if_neg (by omega), if_neg (by omega), if_pos (by omega)]
  · simp at h1 h2; rw [if_neg (by omega), if_neg (by omega), if_neg (by omega)]
set_option maxHeartbeats 4000000 in
theorem fbits_any (u : Nat) (hu : u < 65536) (w : World) (hd : w.cell? ⟨12, 15, none⟩ = some (.int .u8 4)) :
    Calls Tryd.prog 168 #[.slice none 0 0, .int .u64 (u : Nat), .int .i64 16, .bool false, .bool false] w fun e w' => e = .returned (.tuple #[.slice none 0 0, .string (strOfNums (hexL u))]) ∧ Below w.heap.size w w' := by
  have hlt := lt_of_cell hd
  simp only at hlt
  obtain ⟨w1, hw1⟩ : ∃ x, x = w.alloc (.cells Tryd.zeroCells248 248) := ⟨_, rfl⟩
  have HB1 := Lib.hid (show Below w.heap.size w w1 by rw [hw1]; exact (Below.refl _ _).alloc (Nat.le_refl _) _)
  have HX1 := Lib.hid (show Blk w1 w.heap.size Tryd.zeroCells248 248 by rw [hw1]; exact Blk.new _ _ _)
  have HD := Lib.hid (show w1.cell? ⟨12, 15, none⟩ = some (.int .u8 4) by rw [HB1.out.cell (by simpa using hlt)]; exact hd)
  have HW1 := Lib.hid hw1
  have HSZ := Lib.hid (show (Tryd.zeroCells248 : Array Value).size = 65 by kernel_rfl)
  clear hd hw1
  obtain ⟨G, hG⟩ : ∃ g, g = w.heap.size := ⟨_, rfl⟩
  rw [← hG] at HX1
  have HG := Lib.hid hG
  clear hG
  go_enter Tryd.func168, Tryd.ntmps168
  go_upto_region 7 with fail
  rw [← HW1.out, ← HG.out]
  go_wp2_with (first | (go_at_call 176; refine (pow2_any _).mono ?_; rintro e w2 ⟨rfl, rfl⟩) | (go_at_call 177; refine (tz_any _ HD.out).mono ?_; rintro e w2 ⟨rfl, rfl⟩))
  go_loopw [1, 13] (fun uv iv wr => ∃ (v m j : Nat) (cs : Array Value), uv = .int .u64 (v : Int) ∧ iv = .int .i64 (m + 1 : Nat) ∧ v = u / 16 ^ j ∧ m + j = 64 ∧ (j ≤ 3 ∧ (j = 0 ∨ 16 ≤ u / 16 ^ (j - 1))) ∧ Blk wr G cs 248 ∧ cs.size = 65 ∧ (∀ k, k < j → cs[64 - k]? = some (.int .u8 (hexB (u / 16 ^ k % 16)))) ∧ Below w.heap.size w wr) (fun uv _ _ => (intOf uv).toNat)
  case atStart => exact ⟨u, 64, 0, _, rfl, rfl, by simp, rfl, ⟨by omega, .inl rfl⟩, HX1.out, HSZ.out, fun k hk => by omega, HB1.out⟩
  case round =>
    obtain ⟨v, m, j, cs, rfl, rfl, hv, hm, ⟨hj, hj2⟩, hbk, hsz, hc, hb⟩ := hrel
    have HJ2 := Lib.hid hj2
    clear hj2
    have HBK := Lib.hid hbk
    have HC := Lib.hid hc
    have HB := Lib.hid hb
    have hvu : v < 65536 := by rw [hv]; exact Nat.lt_of_le_of_lt (Nat.div_le_self _ _) hu
    have HV := Lib.hid hv
    have HM := Lib.hid hm
    have hm1 : 61 ≤ m := by omega
    have hm2 : m ≤ 64 := by omega
    obtain ⟨x, hx⟩ : ∃ x, cs[m]? = some x := ⟨cs[m]'(by omega), by simp⟩
    have c0 := HBK.out.cell hx
    have cf := HBK.out.frozen
    have hGl := HBK.out.lt
    obtain ⟨d, hd⟩ : ∃ d, d = v % 16 := ⟨_, rfl⟩
    have hd16 : d < 16 := by omega
    have hand := and15 v (by omega)
    rw [← hd] at hand
    have HD2 := Lib.hid hd
    clear hbk hc hb hv hm hx hd
    by_cases hge : 16 ≤ v
    · have hge2 : (16 : Int) ≤ (v : Int) := by omega
      have hv16 : (v : Int).fdiv (2 ^ min (Int.toNat 4) IntKind.u64.bits) = ((v / 16 : Nat) : Int) := by
        show (v : Int).fdiv 16 = _
        rw [Int.fdiv_eq_ediv_of_nonneg _ (by omega)]
        omega
      have hj4 : j < 3 := by
        rcases Nat.lt_or_ge j 3 with h | h
        · exact h
        · have h1 : j = 3 := by omega
          have h2 := HV.out
          rw [h1] at h2
          simp at h2
          omega
      go_wp2_with fail
      go_roundw
      case rel => exact ⟨v / 16, m - 1, j + 1, _, rfl, by go_num, by rw [HV.out, Nat.pow_succ, Nat.div_div_eq_div_mul], by have := HM.out; omega, ⟨by omega, .inr (by rw [Nat.add_sub_cancel, ← HV.out]; exact hge)⟩, HBK.out.set m _, by simp [hsz], fun k hk => by
        have hm3 := HM.out
        by_cases hkj : k = j
        · subst hkj
          rw [show 64 - k = m by omega, Array.getElem?_setIfInBounds_self, if_pos (by omega)]
          congr 2
          rw [← HV.out, ← HD2.out]
          unfold hexB
          rw [dif_pos (by omega)]
          rfl
        · rw [Array.getElem?_setIfInBounds_ne (by omega)]
          exact HC.out k (by omega), (HB.out.setCell (by rw [HG.out]; exact Nat.le_refl _) _)⟩
      case measure => (simp [intOf]; try omega)
    · have hge2 : ¬ (16 : Int) ≤ (v : Int) := by omega
      have hd2 : d = v := by have := HD2.out; omega
      have HJ := Lib.hid (hexJ_of hj (by rw [← HV.out]; omega) HJ2.out)
      go_upto_region 30 with fail
      obtain ⟨w3, hw3⟩ : ∃ x, x = wr.setCell ⟨G, m, none⟩ (.int .u8 (hexB v)) := ⟨_, rfl⟩
      have hbv : ((hexA[v]'(by show v < 36; omega)).toNat : Int) = hexB v := by (unfold hexB; rw [dif_pos (by omega)]; try rfl)
      unfold hexA at hbv
      rw [hbv, ← hw3]
      have HB3 := Lib.hid (show Below w.heap.size w w3 by rw [hw3]; exact HB.out.setCell (by rw [HG.out]; exact Nat.le_refl _) _)
      have HK3 := Lib.hid (show Blk w3 G (cs.setIfInBounds m (.int .u8 (hexB v))) 248 by rw [hw3]; exact HBK.out.set m _)
      have hal : Tryd.prog.arrayLen 248 = 65 := by kernel_rfl
      have hsl : ∀ W, (Instr.sliceAt 248 (.pointer (some ⟨G, 0, none⟩)) (some (.int .i64 (m : Int))) none none).run Tryd.prog W = .ok (.slice (some ⟨G, m, none⟩) (65 - m) (65 - m)) W := fun W => by
        rw [run_sliceAt_array_l W 248 ⟨G, 0, none⟩ (by kernel_rfl) .i64 (m : Int) (by omega) (by rw [hal]; omega), hal]
        go_simp
        (try simp [slicedAt, Addr.add])
        (try omega)
      have hcv := run_convert_bytes_arg (P := Tryd.prog) w3 94 5 Tryd.underlying94 Tryd.underlying5 G m (65 - m) (65 - m) (hexL u) (by unfold hexL; rw [List.length_map, List.length_range, ← HJ.out]; have := HM.out; omega) (fun i hi => by
        have hm3 := HM.out
        refine HK3.out.cell ?_
        have hg : (hexL u).getD i 0 = hexB (u / 16 ^ (j - i) % 16) := by
          unfold hexL
          rw [← HJ.out, List.getD_eq_getElem?_getD, List.getElem?_map, List.getElem?_range (by omega)]
          rfl
        rw [hg]
        by_cases h0 : i = 0
        · subst h0
          rw [Nat.add_zero, Array.getElem?_setIfInBounds_self, if_pos (by omega), Nat.sub_zero, ← HV.out, ← HD2.out, hd2]
        · rw [Array.getElem?_setIfInBounds_ne (by omega)]
          have h1 := HC.out (j - i) (by omega)
          rw [show 64 - (j - i) = m + i by omega] at h1
          exact h1) 9 Tryd.underlying9
      have HW3 := Lib.hid hw3
      clear hw3 hal c0 cf
      go_wp2_with fail
      go_ret2
      exact ⟨rfl, HB3.out⟩
end Go.Proofs.YtghbicajcffjhaaDoor.PC
