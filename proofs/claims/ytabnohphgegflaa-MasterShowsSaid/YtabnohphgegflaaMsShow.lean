


/-
  What a slide shows.
-/
import Derived.Test.YtabnohphgegflaaMsIn
import Derived.Test.YtabnohphgegflaaMsMap
import Derived.Test.YtabnohphgegflaaShCheck
import Derived.Test.YtabnohphgegflaaTakes
import Derived.Test.YtabnohphgegflaaSteps
namespace Go.Proofs.Ytabnohphgegflaa.MS
open Go.RowKit Go.Law Go.Law.Sh Go.Law.Ms ShT
set_option linter.unusedVariables false
set_option linter.unusedSimpArgs false
set_option maxRecDepth 100000
set_option maxHeartbeats 2000000 in
theorem show_bad1 (n1 n2 : Nat) (E1 E2 : Nat → Nat → Int) (N1 N2 : Nat → Nat → ByteArray) (a1 a2 : Option Addr) (c1 c2 : Nat) (w : World) (h1 : ShF w a1 n1 E1 N1) (h2 : ShF w a2 n2 E2 N2) (hn : n1 ≤ 1000000000000000000 ∧ n1 ≤ c1) (he : shE n1 E1 ≠ 0) :
    Calls Try.prog 5 #[.slice a1 n1 c1, .slice a2 n2 c2] w fun e w' => e = .returned (.tuple #[.slice none 0 0, .slice none 0 0, .int .i64 (shE n1 E1)]) ∧ Below w.heap.size w w' := by
  obtain ⟨V, hV⟩ : ∃ V, V = shE n1 E1 := ⟨_, rfl⟩
  rw [← hV] at he ⊢
  have HV := Lib.hid hV
  have g : (V != 0) = true := by simpa using he
  have H1 := Lib.hid h1
  clear he hV h1 h2
  go_enter Try.func5, Try.ntmps5
  go_wp2_with fail
  refine (check_any n1 E1 N1 a1 c1 w H1.out hn.1 hn.2).mono ?_
  rintro e w2 ⟨rfl, hb2⟩
  rw [← HV.out]
  have HB2 := Lib.hid hb2
  clear hb2
  go_wp2_with fail
  go_ret3
  exact ⟨rfl, HB2.out⟩
set_option maxHeartbeats 2000000 in
theorem show_bad2 (n1 n2 : Nat) (E1 E2 : Nat → Nat → Int) (N1 N2 : Nat → Nat → ByteArray) (a1 a2 : Option Addr) (c1 c2 : Nat) (w : World) (h1 : ShF w a1 n1 E1 N1) (h2 : ShF w a2 n2 E2 N2) (hn : n1 ≤ 1000000000000000000 ∧ n1 ≤ c1) (hm : n2 ≤ 1000000000000000000 ∧ n2 ≤ c2) (h0 : shE n1 E1 = 0) (he : shE n2 E2 ≠ 0) :
    Calls Try.prog 5 #[.slice a1 n1 c1, .slice a2 n2 c2] w fun e w' => e = .returned (.tuple #[.slice none 0 0, .slice none 0 0, .int .i64 (shE n2 E2)]) ∧ Below w.heap.size w w' := by
  obtain ⟨V, hV⟩ : ∃ V, V = shE n2 E2 := ⟨_, rfl⟩
  rw [← hV] at he ⊢
  have HV := Lib.hid hV
  have H0 := Lib.hid h0
  have g : (V != 0) = true := by simpa using he
  have H1 := Lib.hid h1
  have H2 := Lib.hid h2
  clear he hV h1 h2 h0
  go_enter Try.func5, Try.ntmps5
  go_wp2_with fail
  refine (check_any n1 E1 N1 a1 c1 w H1.out hn.1 hn.2).mono ?_
  rintro e w2 ⟨rfl, hb2⟩
  rw [H0.out]
  have HB2 := Lib.hid hb2
  clear hb2
  go_wp2_with fail
  refine (check_any n2 E2 N2 a2 c2 w2 (H2.out.below (Nat.le_refl _) HB2.out) hm.1 hm.2).mono ?_
  rintro e w3 ⟨rfl, hb3⟩
  rw [← HV.out]
  have HB3 := Lib.hid (HB2.out.trans (hb3.mono HB2.out.size))
  clear hb3
  go_wp2_with fail
  go_ret3
  exact ⟨rfl, HB3.out⟩
/-- what is left of a master, and the map of what is gone -/
structure GnS (w : World) (mb cnt : Nat) (G : Int → Bool) (v : Value) (L : List ShD) (wx : World) : Prop where
  below : Below w.heap.size w wx
  map : MapI Try.prog 3 4 wx mb cnt G
  row : RowV wx (mb + 1) 24 12 v L.length (fun q => (L.getD q default).V)
  low : w.heap.size ≤ mb
section
variable {w wx wy : World} {mb cnt : Nat} {G G' : Int → Bool} {v v' : Value} {L : List ShD}
theorem GnS.under (h : GnS w mb cnt G v L wx) (hb : Below wx.heap.size wx wy) : GnS w mb cnt G v L wy :=
  ⟨h.below.trans (hb.mono h.below.size), h.map.block (hb.block _ h.map.lt), h.row.below hb (Nat.le_refl _), h.low⟩
theorem GnS.put (h : GnS w mb cnt G v L wx) {c2 : Nat} (hg : wx.grownBy wy (some mb)) (hm : MapI Try.prog 3 4 wy mb c2 G') : GnS w mb c2 G' v L wy :=
  ⟨Below.grown h.below hg h.below.size (fun k hk => by cases hk; exact h.low), hm, h.row.block fun k hk => hg.block k (h.row.lt hk) (fun e => by cases e; have := h.row.ge _ hk; omega), h.low⟩
theorem row_push {base : Nat} {T : TypeId} {s : ShD} {xs : List Value} (hr : wy.ownsRow base T 12 v' (L.length + 1) (xs ++ s.cells)) (hl : xs.length = L.length * 12) (hx : ∀ i, i < L.length → ∀ j, j < 12 → xs[i * 12 + j]? = some ((L.getD i default).V j)) : RowV wy base T 12 v' (L ++ [s]).length (fun q => ((L ++ [s]).getD q default).V) := by
  rw [List.length_append]
  refine RowV.push hr hl hx (fun j hj => ?_) (fun i hi j hj => ?_)
  · show s.cells[j]? = some (((L ++ [s]).getD L.length default).V j)
    rw [List.getD_eq_getElem?_getD, List.getElem?_append_right (Nat.le_refl _)]
    simp only [Nat.sub_self, List.getElem?_cons_zero, Option.getD_some]
    exact s.V_get hj
  · show (L.getD i default).V j = ((L ++ [s]).getD i default).V j
    rw [List.getD_eq_getElem?_getD, List.getD_eq_getElem?_getD, List.getElem?_append_left hi]
theorem GnS.push (h : GnS w mb cnt G v L wx) {s : ShD} {o : Obj} {xs : List Value} (hg : (wx.alloc o).grownBy wy v.ownBlock) (hr : wy.ownsRow (mb + 1) 24 12 v' (L.length + 1) (xs ++ s.cells)) (hl : xs.length = L.length * 12) (hx : ∀ i, i < L.length → ∀ j, j < 12 → xs[i * 12 + j]? = some ((L.getD i default).V j)) : GnS w mb cnt G v' (L ++ [s]) wy := by
  have h2 := h.under ((Below.refl _ _).alloc (Nat.le_refl _) o)
  have hv : ∀ k, v.ownBlock = some k → mb + 1 ≤ k := RowV.ge h2.row
  have hlow := h.low
  exact ⟨Below.grown h2.below hg h2.below.size (fun k hk => by have := hv k hk; omega), h2.map.block (hg.block _ h2.map.lt (fun e => by have := hv _ e.symm; omega)), row_push hr hl hx, h.low⟩
end
/-- the row while links lose their ends -/
structure BkS (w : World) (mb cnt : Nat) (G : Int → Bool) (v : Value) (n : Nat) (F : Nat → ShD) (wx : World) : Prop where
  below : Below w.heap.size w wx
  map : MapI Try.prog 3 4 wx mb cnt G
  row : RowV wx (mb + 1) 24 12 v n (fun q => (F q).V)
  low : w.heap.size ≤ mb
def updF (F : Nat → ShD) (k : Nat) (s : ShD) : Nat → ShD := fun q => if q = k then s else F q
section
variable {w wx wy : World} {mb cnt n g cap k0 : Nat} {G : Int → Bool} {v : Value} {F F' : Nat → ShD}
theorem BkS.under (h : BkS w mb cnt G v n F wx) (hb : Below wx.heap.size wx wy) : BkS w mb cnt G v n F wy :=
  ⟨h.below.trans (hb.mono h.below.size), h.map.block (hb.block _ h.map.lt), h.row.below hb (Nat.le_refl _), h.low⟩
theorem BkS.congr (h : BkS w mb cnt G v n F wx) (he : ∀ q, q < n → F q = F' q) : BkS w mb cnt G v n F' wx :=
  ⟨h.below, h.map, h.row.congr (fun q hq j hj => by rw [he q hq]), h.low⟩
theorem BkS.set (h : BkS w mb cnt G (.slice (some ⟨g, 0, none⟩) n cap) n F wx) {k : Nat} (hk : k < n) {j : Nat} (hj : j < 12) (u : Value) (s : ShD) (hs : ∀ q, q < 12 → (if q = j then u else (F k).V q) = s.V q) :
    BkS w mb cnt G (.slice (some ⟨g, 0, none⟩) n cap) n (updF F k s) (wx.setCell ⟨g, k * 12 + j, none⟩ u) := by
  have hg : mb + 1 ≤ g := RowV.ge h.row g rfl
  have hlow := h.low
  refine ⟨h.below.setCell (by simp; omega) _, h.map.block (Below.heap_setCell _ _ _ _ (by simp; omega)), (h.row.set k j hk hj u).congr (fun q hq i hi => ?_), h.low⟩
  show (if q = k ∧ i = j then u else (F q).V i) = ((if q = k then s else F q) : ShD).V i
  by_cases hqk : q = k
  · rw [if_pos hqk, ← hs i hi]
    by_cases hij : i = j
    · rw [if_pos ⟨hqk, hij⟩, if_pos hij]
    · rw [if_neg (fun h => hij h.2), if_neg hij, hqk]
  · rw [if_neg (fun h => hqk h.1), if_neg hqk]
theorem updF_same {F : Nat → ShD} {k : Nat} {s : ShD} : updF F k s k = s := if_pos rfl
theorem BkS.set2 {s1 : ShD} (h : BkS w mb cnt G (.slice (some ⟨g, 0, none⟩) n cap) n (updF F k0 s1) wx) (hk : k0 < n) {j : Nat} (hj : j < 12) (u : Value) (s : ShD) (hs : ∀ q, q < 12 → (if q = j then u else s1.V q) = s.V q) :
    BkS w mb cnt G (.slice (some ⟨g, 0, none⟩) n cap) n (updF F k0 s) (wx.setCell ⟨g, k0 * 12 + j, none⟩ u) :=
  (h.set hk hj u s (fun q hq => by rw [updF_same]; exact hs q hq)).congr (fun q hq => by unfold updF; by_cases hqk : q = k0 <;> simp [hqk])
theorem BkS.start {L : List ShD} {D : ShD} (h : BkS w mb cnt G v n (fun q => if q < k0 then cutX G (L.getD q default) else L.getD q default) wx) (hD : D = L.getD k0 default) : BkS w mb cnt G v n (updF (fun q => if q < k0 then cutX G (L.getD q default) else L.getD q default) k0 D) wx :=
  h.congr (fun q hq => by
    unfold updF
    by_cases hqk : q = k0
    · rw [if_pos hqk, if_neg (by omega), hqk, hD]
    · rw [if_neg hqk])
theorem BkS.fin {L : List ShD} {s : ShD} (h : BkS w mb cnt G v n (updF (fun q => if q < k0 then cutX G (L.getD q default) else L.getD q default) k0 s) wx) (hs : s = cutX G (L.getD k0 default)) : BkS w mb cnt G v n (fun q => if q < k0 + 1 then cutX G (L.getD q default) else L.getD q default) wx :=
  h.congr (fun q hq => by
    unfold updF
    by_cases hqk : q = k0
    · rw [if_pos hqk, if_pos (by omega), hqk, hs]
    · rw [if_neg hqk]
      show (if q < k0 then cutX G (L.getD q default) else L.getD q default) = _
      by_cases hlt : q < k0
      · rw [if_pos hlt, if_pos (by omega)]
      · rw [if_neg hlt, if_neg (by omega)])
theorem set_fr (s : ShD) : ∀ q, q < 12 → (if q = 8 then .int .i64 0 else s.V q) = ({ s with fr := 0 } : ShD).V q := by
  intro q hq
  obtain rfl | rfl | rfl | rfl | rfl | rfl | rfl | rfl | rfl | rfl | rfl | rfl : q = 0 ∨ q = 1 ∨ q = 2 ∨ q = 3 ∨ q = 4 ∨ q = 5 ∨ q = 6 ∨ q = 7 ∨ q = 8 ∨ q = 9 ∨ q = 10 ∨ q = 11 := by omega
  all_goals rfl
theorem set_to (s : ShD) : ∀ q, q < 12 → (if q = 9 then .int .i64 0 else s.V q) = ({ s with tn := 0 } : ShD).V q := by
  intro q hq
  obtain rfl | rfl | rfl | rfl | rfl | rfl | rfl | rfl | rfl | rfl | rfl | rfl : q = 0 ∨ q = 1 ∨ q = 2 ∨ q = 3 ∨ q = 4 ∨ q = 5 ∨ q = 6 ∨ q = 7 ∨ q = 8 ∨ q = 9 ∨ q = 10 ∨ q = 11 := by omega
  all_goals rfl
end
def ShowPost (w : World) (n1 n2 : Nat) (E1 E2 : Nat → Nat → Int) (N1 N2 : Nat → Nat → ByteArray) (e : Ending) (w' : World) : Prop :=
  ∃ v1 v2, e = .returned (.tuple #[v1, v2, .int .i64 0]) ∧ RowV w' w.heap.size 24 12 v1 (backL E2 N2 n2).length (fun i => (cutX (goneK E2 N2 n2) ((backL E2 N2 n2).getD i default)).V) ∧ RowV w' w.heap.size 24 12 v2 n1 (fun i => (frontD n2 E2 N2 (shD E1 N1 i)).V) ∧ Below w.heap.size w w'
set_option maxHeartbeats 8000000 in
theorem show_ok (n1 n2 : Nat) (E1 E2 : Nat → Nat → Int) (N1 N2 : Nat → Nat → ByteArray) (a1 a2 : Option Addr) (c1 c2 : Nat) (w : World) (h1 : ShF w a1 n1 E1 N1) (h2 : ShF w a2 n2 E2 N2) (hc1 : n1 ≤ c1) (hc2 : n2 ≤ c2) (h01 : shE n1 E1 = 0) (h02 : shE n2 E2 = 0) :
    Calls Try.prog 5 #[.slice a1 n1 c1, .slice a2 n2 c2] w (ShowPost w n1 n2 E1 E2 N1 N2) := by
  have hn1 := (shE_zero h01).1
  have hn2 := (shE_zero h02).1
  have H01 := Lib.hid h01
  have H02 := Lib.hid h02
  have H1 := Lib.hid h1
  have H2 := Lib.hid h2
  have HIS := Lib.hid (show (Try.prog.info? 24).map (fun i => (i.zero, i.size, i.bytes)) = some (some (.agg #[.int .i64 0, .int .i64 0, .int .i64 0, .int .i64 0, .int .i64 0, .int .i64 0, .int .i64 0, .int .i64 0, .int .i64 0, .int .i64 0, .string ⟨#[]⟩, .string ⟨#[]⟩]), 12, 112) by kernel_rfl)
  clear h1 h2 h01 h02
  have hmm := @run_makeMap Try.prog
  go_enter Try.func5, Try.ntmps5
  go_wp2_with fail
  refine (check_any n1 E1 N1 a1 c1 w H1.out (by omega) hc1).mono ?_
  rintro e w2 ⟨rfl, hb2⟩
  rw [H01.out]
  have HB2 := Lib.hid hb2
  clear hb2
  go_wp2_with fail
  refine (check_any n2 E2 N2 a2 c2 w2 (H2.out.below (Nat.le_refl _) HB2.out) (by omega) hc2).mono ?_
  rintro e w3 ⟨rfl, hb3⟩
  rw [H02.out]
  have HB3 := Lib.hid (HB2.out.trans (hb3.mono HB2.out.size))
  clear hb3
  obtain ⟨w4, hrun4, hmap4, hgrow4⟩ := (MapI.made w3 Try.prog 3 4).put Try.underlying3 Try.underlying4 Try.underlying53 (by unfold maxLen; omega) 0 false (by decide)
  obtain ⟨mb, hmb⟩ : ∃ mb, mb = w3.heap.size := ⟨_, rfl⟩
  have HS4 := Lib.hid (show GnS w mb 1 (goneK E2 N2 0) (.slice none 0 0) [] w4 from
    ⟨Below.grown (HB3.out.alloc HB3.out.size _) hgrow4 (by have := HB3.out.size; simp; omega) (fun k hk => by cases hk; exact HB3.out.size), by rw [hmb]; exact hmap4.congr (fun x => by show (if x = 0 then false else false) = _; simp [goneK]), RowV.nil _ _ _ _ _, by rw [hmb]; exact HB3.out.size⟩)
  clear hmap4 hgrow4
  go_upto_region 9 with fail
  rw [← hmb]
  clear hrun4 hmm hmb
  go_wp2_with fail
  go_loopw [9, 34] (fun bv iv wx => ∃ i : Nat, iv = .int .i64 i ∧ i ≤ n2 ∧ GnS w mb (i + 1) (goneK E2 N2 i) bv (backL E2 N2 i) wx) (fun _ iv _ => n2 - (intOf iv).toNat)
  case atStart => exact ⟨0, rfl, by omega, HS4.out⟩
  case round =>
    clear HS4
    obtain ⟨i, rfl, hi, hS⟩ := hrel
    have HS := Lib.hid hS
    have hsz := hS.below.size
    obtain ⟨av, cv, hv, _, _⟩ := RowV.slice hS.row
    subst hv
    have hbl := back_len (E := E2) (N := N2) i
    clear hS
    by_cases hin : i < n2
    · have hin2 : (i : Int) < (n2 : Int) := by omega
      obtain ⟨b, off, hba, hcellG⟩ := (H2.out.below (Nat.le_refl _) HS.out.below) (by omega)
      have hcell := hcellG i hin
      clear hcellG
      obtain ⟨hci, hc10, hc11⟩ := hcell
      have d0 := hci 0 (by omega)
      rw [Nat.add_zero] at d0
      have d1 := hci 1 (by omega)
      have d2 := hci 2 (by omega)
      have d3 := hci 3 (by omega)
      have d4 := hci 4 (by omega)
      have d5 := hci 5 (by omega)
      have d6 := hci 6 (by omega)
      have d7 := hci 7 (by omega)
      have d8 := hci 8 (by omega)
      have d9 := hci 9 (by omega)
      have zb := lt_of_cell d0
      simp only at zb
      clear hci
      obtain ⟨e0, he0⟩ : ∃ e, e = E2 i 0 := ⟨_, rfl⟩
      obtain ⟨e1, he1⟩ : ∃ e, e = E2 i 1 := ⟨_, rfl⟩
      obtain ⟨e2, he2⟩ : ∃ e, e = E2 i 2 := ⟨_, rfl⟩
      obtain ⟨e3, he3⟩ : ∃ e, e = E2 i 3 := ⟨_, rfl⟩
      obtain ⟨e4, he4⟩ : ∃ e, e = E2 i 4 := ⟨_, rfl⟩
      obtain ⟨e5, he5⟩ : ∃ e, e = E2 i 5 := ⟨_, rfl⟩
      obtain ⟨e6, he6⟩ : ∃ e, e = E2 i 6 := ⟨_, rfl⟩
      obtain ⟨e7, he7⟩ : ∃ e, e = E2 i 7 := ⟨_, rfl⟩
      obtain ⟨e8, he8⟩ : ∃ e, e = E2 i 8 := ⟨_, rfl⟩
      obtain ⟨e9, he9⟩ : ∃ e, e = E2 i 9 := ⟨_, rfl⟩
      obtain ⟨n0, hn0⟩ : ∃ e, e = N2 i 0 := ⟨_, rfl⟩
      obtain ⟨nt, hnt⟩ : ∃ e, e = N2 i 1 := ⟨_, rfl⟩
      rw [← he0] at d0
      rw [← he1] at d1
      rw [← he2] at d2
      rw [← he3] at d3
      rw [← he4] at d4
      rw [← he5] at d5
      rw [← he6] at d6
      rw [← he7] at d7
      rw [← he8] at d8
      rw [← he9] at d9
      rw [← hn0] at hc10
      rw [← hnt] at hc11
      have HE0 := Lib.hid he0
      have HE1 := Lib.hid he1
      have HE2 := Lib.hid he2
      have HE3 := Lib.hid he3
      have HE4 := Lib.hid he4
      have HE5 := Lib.hid he5
      have HE6 := Lib.hid he6
      have HE7 := Lib.hid he7
      have HE8 := Lib.hid he8
      have HE9 := Lib.hid he9
      have HN0 := Lib.hid hn0
      have HNT := Lib.hid hnt
      clear he0 he1 he2 he3 he4 he5 he6 he7 he8 he9 hn0 hnt
      subst hba
      go_upto_region 12 with fail
      obtain ⟨wc, hwc⟩ : ∃ wc, wc = wr.alloc (Obj.cells #[.int .i64 e0, .int .i64 e1, .int .i64 e2, .int .i64 e3, .int .i64 e4, .int .i64 e5, .int .i64 e6, .int .i64 e7, .int .i64 e8, .int .i64 e9, .string n0, .string nt] 24) := ⟨_, rfl⟩
      have HK := Lib.hid (show Blk wc wr.heap.size #[.int .i64 e0, .int .i64 e1, .int .i64 e2, .int .i64 e3, .int .i64 e4, .int .i64 e5, .int .i64 e6, .int .i64 e7, .int .i64 e8, .int .i64 e9, .string n0, .string nt] 24 by rw [hwc]; exact Blk.new _ _ _)
      have HSC := Lib.hid (show GnS w mb (i + 1) (goneK E2 N2 i) (.slice av (backL E2 N2 i).length cv) (backL E2 N2 i) wc by rw [hwc]; exact HS.out.under ((Below.refl _ _).alloc (Nat.le_refl _) _))
      rw [← hwc]
      obtain ⟨kc, hkc⟩ : ∃ kc, kc = wr.heap.size := ⟨_, rfl⟩
      have HMK := Lib.hid (show mb < kc by rw [hkc]; exact HS.out.map.lt)
      rw [← hkc] at HK ⊢
      clear d0 d1 d2 d3 d4 d5 d6 d7 d8 d9 hc10 hc11 zb hwc hkc HS
      have hit := ok_item H02.out hin
      rw [← HE0.out] at hit
      have hnum := (ok_at H02.out hin).2.1
      have hpa : 0 ≤ e1 ∧ e1 ≤ 1073741824 := by rw [HE1.out]; exact hnum.2.1
      clear hnum
      have HW0 := Lib.hid (show (Lit.int .i64 e0).wf = true from wf_bd (by omega))
      have HW1 := Lib.hid (show (Lit.int .i64 e1).wf = true from wf_bd (by omega))
      have HNE := Lib.hid (show ¬ e1 = e0 from fun he => by
        by_cases h0 : e1 = 0
        · omega
        · obtain ⟨k, hk, hke⟩ := ok_par H02.out hin (by rw [← HE1.out]; exact h0)
          exact ok_apart H02.out hin hk (by rw [hke, ← HE1.out, he, HE0.out]))
      obtain ⟨GP, hGP⟩ : ∃ GP, GP = goneK E2 N2 i e1 := ⟨_, rfl⟩
      have HGP := Lib.hid hGP
      obtain ⟨IP, hIP⟩ : ∃ IP, IP = inP E2 N2 i := ⟨_, rfl⟩
      have HIP := Lib.hid hIP
      clear hGP hIP
      have HPUT := Lib.hid (fun (wx : World) (cells : Array Value) (hS : GnS w mb (i + 1) (goneK E2 N2 i) (.slice av (backL E2 N2 i).length cv) (backL E2 N2 i) wx) => (by
        obtain ⟨wy, hrun, hmap, hg⟩ := hS.map.put Try.underlying3 Try.underlying4 Try.underlying53 (by unfold maxLen; omega) e0 IP HW0.out
        exact ⟨wy, hrun, (hS.put hg (hmap.congr (fun x => by rw [goneK_put H02.out hin, HE0.out, HIP.out]))), hg⟩ : ∃ wy, (Instr.mapUpdate 53 (.map (some mb)) (.int .i64 e0) (.bool IP)).run Try.prog wx = .ok () wy ∧ GnS w mb (i + 1 + 1) (goneK E2 N2 (i + 1)) (.slice av (backL E2 N2 i).length cv) (backL E2 N2 i) wy ∧ wx.grownBy wy (some mb)))
      have HLK := Lib.hid (fun (wx : World) (hS : GnS w mb (i + 1) (goneK E2 N2 i) (.slice av (backL E2 N2 i).length cv) (backL E2 N2 i) wx) => (by rw [HGP.out]; exact hS.map.look Try.underlying3 Try.underlying4 Try.underlying53 (by kernel_rfl) e1 HW1.out : (Instr.lookup 53 (.map (some mb)) (.int .i64 e1) false).run Try.prog wx = .ok (.bool GP) wx))
      have HLK2 := Lib.hid (fun (wx : World) (hS : GnS w mb (i + 1 + 1) (goneK E2 N2 (i + 1)) (.slice av (backL E2 N2 i).length cv) (backL E2 N2 i) wx) => (by
        have h := hS.map.look Try.underlying3 Try.underlying4 Try.underlying53 (by kernel_rfl) e1 HW1.out
        rw [goneK_put H02.out hin, if_neg (by rw [← HE0.out]; exact HNE.out), ← HGP.out] at h
        exact h : (Instr.lookup 53 (.map (some mb)) (.int .i64 e1) false).run Try.prog wx = .ok (.bool GP) wx))
      go_cut [] from 38 to 53 (fun wx => GnS w mb (i + 1 + 1) (goneK E2 N2 (i + 1)) (.slice av (backL E2 N2 i).length cv) (backL E2 N2 i) wx ∧ Blk wx kc #[.int .i64 e0, .int .i64 e1, .int .i64 e2, .int .i64 e3, .int .i64 e4, .int .i64 e5, .int .i64 e6, .int .i64 e7, .int .i64 e8, .int .i64 e9, .string n0, .string nt] 24)
      case first =>
        have y0 : wc.cell? ⟨kc, 0, none⟩ = some (.int .i64 e0) := HK.out.cell (i := 0) rfl
        have y1 : wc.cell? ⟨kc, 1, none⟩ = some (.int .i64 e1) := HK.out.cell (i := 1) rfl
        by_cases h1 : e1 = 0
        · have f1 : (e1 == 0) = true := by simpa using h1
          have HG0 := Lib.hid (show GP = false by rw [HGP.out, h1]; exact goneK_zero H02.out (by omega))
          have HIR := Lib.hid (show roomB n0 = IP by rw [HIP.out, HN0.out, inP_top (by rw [← HE1.out]; exact h1)])
          clear h1
          obtain rfl : GP = false := HG0.out
          have HSD := Lib.hid (HSC.out.under ((Below.refl wc.heap.size wc).drew))
          have l1 := HLK.out wc.drew HSD.out
          have HKD := Lib.hid (HK.out.drew)
          clear y0 y1
          have y0 : wc.drew.cell? ⟨kc, 0, none⟩ = some (.int .i64 e0) := (HKD).out.cell (i := 0) rfl
          have y1 : wc.drew.cell? ⟨kc, 1, none⟩ = some (.int .i64 e1) := (HKD).out.cell (i := 1) rfl
          have y2 : wc.drew.cell? ⟨kc, 2, none⟩ = some (.int .i64 e2) := (HKD).out.cell (i := 2) rfl
          have y3 : wc.drew.cell? ⟨kc, 3, none⟩ = some (.int .i64 e3) := (HKD).out.cell (i := 3) rfl
          have y4 : wc.drew.cell? ⟨kc, 4, none⟩ = some (.int .i64 e4) := (HKD).out.cell (i := 4) rfl
          have y5 : wc.drew.cell? ⟨kc, 5, none⟩ = some (.int .i64 e5) := (HKD).out.cell (i := 5) rfl
          have y6 : wc.drew.cell? ⟨kc, 6, none⟩ = some (.int .i64 e6) := (HKD).out.cell (i := 6) rfl
          have y7 : wc.drew.cell? ⟨kc, 7, none⟩ = some (.int .i64 e7) := (HKD).out.cell (i := 7) rfl
          have y8 : wc.drew.cell? ⟨kc, 8, none⟩ = some (.int .i64 e8) := (HKD).out.cell (i := 8) rfl
          have y9 : wc.drew.cell? ⟨kc, 9, none⟩ = some (.int .i64 e9) := (HKD).out.cell (i := 9) rfl
          have y10 : wc.drew.cell? ⟨kc, 10, none⟩ = some (.string n0) := (HKD).out.cell (i := 10) rfl
          have y11 : wc.drew.cell? ⟨kc, 11, none⟩ = some (.string nt) := (HKD).out.cell (i := 11) rfl
          refine wp_region_held_drew (S := fun w' => (w'.cell? ⟨kc, 0, none⟩ = some (.int .i64 e0) ∧ w'.cell? ⟨kc, 1, none⟩ = some (.int .i64 e1)) ∧ (Instr.lookup 53 (.map (some mb)) (.int .i64 e1) false).run Try.prog w' = .ok (.bool false) w' ∧ w'.cell? ⟨kc, 2, none⟩ = some (.int .i64 e2) ∧ w'.cell? ⟨kc, 3, none⟩ = some (.int .i64 e3) ∧ w'.cell? ⟨kc, 4, none⟩ = some (.int .i64 e4) ∧ w'.cell? ⟨kc, 5, none⟩ = some (.int .i64 e5) ∧ w'.cell? ⟨kc, 6, none⟩ = some (.int .i64 e6) ∧ w'.cell? ⟨kc, 7, none⟩ = some (.int .i64 e7) ∧ w'.cell? ⟨kc, 8, none⟩ = some (.int .i64 e8) ∧ w'.cell? ⟨kc, 9, none⟩ = some (.int .i64 e9) ∧ w'.cell? ⟨kc, 10, none⟩ = some (.string n0) ∧ w'.cell? ⟨kc, 11, none⟩ = some (.string nt)) (by kernel_rfl) (by exact ⟨⟨y0, y1⟩, l1, y2, y3, y4, y5, y6, y7, y8, y9, y10, y11⟩) ?_
          intro hHeld
          clear y0 y1 y2 y3 y4 y5 y6 y7 y8 y9 y10 y11 l1
          refine takeD (i := 0) (oi := { dst := some 38, op := _, type := _, pos := _, after := _, guard := _ }) (d := some 38) (v := ?vvb38) rfl rfl (by kernel_rfl) (by kernel_rfl) (by kernel_rfl) ?ddb38 (by rfl) ?yyb38 hHeld ?rrb38
          case ddb38 => exact fun _ _ _ h => h
          case yyb38 => (intro wx hSw; obtain ⟨y0, y1, y2, y3, y4, y5, y6, y7, y8, y9, y10, y11⟩ := hSw; go_simp; try (with_reducible rfl))
          try simp only [Act.put, List.setIfInBounds_toArray, List.set_cons_zero, List.set_cons_succ]
          refine takeD (i := 1) (oi := { dst := some 39, op := _, type := _, pos := _, after := _, guard := _ }) (d := some 39) (v := ?vvb39) rfl rfl (by kernel_rfl) (by kernel_rfl) (by kernel_rfl) ?ddb39 (by rfl) ?yyb39 hHeld ?rrb39
          case ddb39 => exact fun _ _ _ h => h
          case yyb39 => (intro wx hSw; obtain ⟨y0, y1, y2, y3, y4, y5, y6, y7, y8, y9, y10, y11⟩ := hSw; go_simp; try (with_reducible rfl))
          try simp only [Act.put, List.setIfInBounds_toArray, List.set_cons_zero, List.set_cons_succ]
          refine takeD (i := 2) (oi := { dst := some 40, op := _, type := _, pos := _, after := _, guard := _ }) (d := some 40) (v := ?vvb40) rfl rfl (by kernel_rfl) (by kernel_rfl) (by kernel_rfl) ?ddb40 (by rfl) ?yyb40 hHeld ?rrb40
          case ddb40 => exact fun _ _ _ h => h
          case yyb40 => (intro wx hSw; obtain ⟨y0, y1, y2, y3, y4, y5, y6, y7, y8, y9, y10, y11⟩ := hSw; go_simp; try (with_reducible rfl))
          try simp only [Act.put, List.setIfInBounds_toArray, List.set_cons_zero, List.set_cons_succ]
          refine takeD (i := 3) (oi := { dst := some 41, op := _, type := _, pos := _, after := _, guard := _ }) (d := some 41) (v := ?vvb41) rfl rfl (by kernel_rfl) (by kernel_rfl) (by kernel_rfl) ?ddb41 (by rfl) ?yyb41 hHeld ?rrb41
          case ddb41 => exact fun _ _ _ h => h
          case yyb41 => (intro wx hSw; obtain ⟨y0, y1, y2, y3, y4, y5, y6, y7, y8, y9, y10, y11⟩ := hSw; go_simp; try (with_reducible rfl))
          try simp only [Act.put, List.setIfInBounds_toArray, List.set_cons_zero, List.set_cons_succ]
          refine takeD (i := 4) (oi := { dst := some 42, op := _, type := _, pos := _, after := _, guard := _ }) (d := some 42) (v := ?vvb42) rfl rfl (by kernel_rfl) (by kernel_rfl) (by kernel_rfl) ?ddb42 (by rfl) ?yyb42 hHeld ?rrb42
          case ddb42 => exact fun _ _ _ h => h
          case yyb42 => (intro wx hSw; obtain ⟨y0, y1, y2, y3, y4, y5, y6, y7, y8, y9, y10, y11⟩ := hSw; go_simp; try (with_reducible rfl))
          try simp only [Act.put, List.setIfInBounds_toArray, List.set_cons_zero, List.set_cons_succ]
          refine takeD (i := 5) (oi := { dst := some 43, op := _, type := _, pos := _, after := _, guard := _ }) (d := some 43) (v := ?vvb43) rfl rfl (by kernel_rfl) (by kernel_rfl) (by kernel_rfl) ?ddb43 (by rfl) ?yyb43 hHeld ?rrb43
          case ddb43 => exact fun _ _ _ h => h
          case yyb43 => (intro wx hSw; obtain ⟨y0, y1, y2, y3, y4, y5, y6, y7, y8, y9, y10, y11⟩ := hSw; go_simp; try (with_reducible rfl))
          try simp only [Act.put, List.setIfInBounds_toArray, List.set_cons_zero, List.set_cons_succ]
          refine takeD (i := 6) (oi := { dst := some 44, op := _, type := _, pos := _, after := _, guard := _ }) (d := some 44) (v := ?vvb44) rfl rfl (by kernel_rfl) (by kernel_rfl) (by kernel_rfl) ?ddb44 (by rfl) ?yyb44 hHeld ?rrb44
          case ddb44 => exact fun _ _ _ h => h
          case yyb44 => (intro wx hSw; obtain ⟨y0, y1, y2, y3, y4, y5, y6, y7, y8, y9, y10, y11⟩ := hSw; go_simp; try (with_reducible rfl))
          try simp only [Act.put, List.setIfInBounds_toArray, List.set_cons_zero, List.set_cons_succ]
          refine takeD (i := 7) (oi := { dst := some 45, op := _, type := _, pos := _, after := _, guard := _ }) (d := some 45) (v := ?vvb45) rfl rfl (by kernel_rfl) (by kernel_rfl) (by kernel_rfl) ?ddb45 (by rfl) ?yyb45 hHeld ?rrb45
          case ddb45 => exact fun _ _ _ h => h
          case yyb45 => (intro wx hSw; obtain ⟨y0, y1, y2, y3, y4, y5, y6, y7, y8, y9, y10, y11⟩ := hSw; go_simp; try (with_reducible rfl))
          try simp only [Act.put, List.setIfInBounds_toArray, List.set_cons_zero, List.set_cons_succ]
          refine takeD (i := 8) (oi := { dst := some 46, op := _, type := _, pos := _, after := _, guard := _ }) (d := some 46) (v := ?vvb46) rfl rfl (by kernel_rfl) (by kernel_rfl) (by kernel_rfl) ?ddb46 (by rfl) ?yyb46 hHeld ?rrb46
          case ddb46 => exact fun _ _ _ h => h
          case yyb46 => (intro wx hSw; obtain ⟨y0, y1, y2, y3, y4, y5, y6, y7, y8, y9, y10, y11⟩ := hSw; go_simp; try (with_reducible rfl))
          try simp only [Act.put, List.setIfInBounds_toArray, List.set_cons_zero, List.set_cons_succ]
          refine takeD (i := 9) (oi := { dst := some 47, op := _, type := _, pos := _, after := _, guard := _ }) (d := some 47) (v := ?vvb47) rfl rfl (by kernel_rfl) (by kernel_rfl) (by kernel_rfl) ?ddb47 (by rfl) ?yyb47 hHeld ?rrb47
          case ddb47 => exact fun _ _ _ h => h
          case yyb47 => (intro wx hSw; obtain ⟨y0, y1, y2, y3, y4, y5, y6, y7, y8, y9, y10, y11⟩ := hSw; go_simp; try (with_reducible rfl))
          try simp only [Act.put, List.setIfInBounds_toArray, List.set_cons_zero, List.set_cons_succ]
          refine takeD (i := 10) (oi := { dst := some 48, op := _, type := _, pos := _, after := _, guard := _ }) (d := some 48) (v := ?vvb48) rfl rfl (by kernel_rfl) (by kernel_rfl) (by kernel_rfl) ?ddb48 (by rfl) ?yyb48 hHeld ?rrb48
          case ddb48 => exact fun _ _ _ h => h
          case yyb48 => (intro wx hSw; obtain ⟨y0, y1, y2, y3, y4, y5, y6, y7, y8, y9, y10, y11⟩ := hSw; go_simp; try (with_reducible rfl))
          try simp only [Act.put, List.setIfInBounds_toArray, List.set_cons_zero, List.set_cons_succ]
          refine takeD (i := 11) (oi := { dst := some 49, op := _, type := _, pos := _, after := _, guard := _ }) (d := some 49) (v := ?vvb49) rfl rfl (by kernel_rfl) (by kernel_rfl) (by kernel_rfl) ?ddb49 (by rfl) ?yyb49 hHeld ?rrb49
          case ddb49 => exact fun _ _ _ h => h
          case yyb49 => (intro wx hSw; obtain ⟨y0, y1, y2, y3, y4, y5, y6, y7, y8, y9, y10, y11⟩ := hSw; go_simp; try (with_reducible rfl))
          try simp only [Act.put, List.setIfInBounds_toArray, List.set_cons_zero, List.set_cons_succ]
          refine takeD (i := 12) (oi := { dst := some 50, op := _, type := _, pos := _, after := _, guard := _ }) (d := some 50) (v := ?vvb50) rfl rfl (by kernel_rfl) (by kernel_rfl) (by kernel_rfl) ?ddb50 (by rfl) ?yyb50 hHeld ?rrb50
          case ddb50 => exact fun _ _ _ h => h
          case yyb50 => (intro wx hSw; obtain ⟨y0, y1, y2, y3, y4, y5, y6, y7, y8, y9, y10, y11⟩ := hSw; go_simp; try (with_reducible rfl))
          try simp only [Act.put, List.setIfInBounds_toArray, List.set_cons_zero, List.set_cons_succ]
          refine wpAnyH_ready (rs := [13]) (by kernel_rfl) (by simp) ?_
          refine AllReadyH.cons (o := { dst := some 51, op := _, type := _, pos := _, after := _, guard := _ }) rfl (fun K hK => ?_) AllReadyH.nil
          go_simp
          go_at_call 19
          refine (room_any ⟨e0, e1, e2, e3, e4, e5, e6, e7, e8, e9, n0, nt⟩ wc.drew).mono ?_
          rintro e w6 ⟨rfl, hb6⟩
          simp only []
          rw [HIR.out]
          have HS6 := Lib.hid (HSD.out.under hb6)
          have HK6 := Lib.hid (HKD.out.below hb6 HKD.out.lt)
          clear hb6
          refine hK.out _ _ ⟨⟨HK6.out.cell (i := 0) rfl, HK6.out.cell (i := 1) rfl⟩, HLK.out w6 HS6.out, HK6.out.cell (i := 2) rfl, HK6.out.cell (i := 3) rfl, HK6.out.cell (i := 4) rfl, HK6.out.cell (i := 5) rfl, HK6.out.cell (i := 6) rfl, HK6.out.cell (i := 7) rfl, HK6.out.cell (i := 8) rfl, HK6.out.cell (i := 9) rfl, HK6.out.cell (i := 10) rfl, HK6.out.cell (i := 11) rfl⟩ (fun hHeld2 => ?_)
          clear hK K hHeld
          try simp only [Act.put, List.setIfInBounds_toArray, List.set_cons_zero, List.set_cons_succ]
          have HRF := Lib.hid (show IP = IP from rfl)
          refine takeD (i := 14) (oi := { dst := some 52, op := _, type := _, pos := _, after := _, guard := _ }) (d := some 52) (v := ?vvd52) rfl rfl (by kernel_rfl) (by kernel_rfl) (by kernel_rfl) ?ddd52 (by rfl) ?yyd52 hHeld2 ?rrd52
          case ddd52 => exact fun _ _ _ h => h
          case yyd52 => (intro wx hSw; obtain ⟨y0, y1, y2, y3, y4, y5, y6, y7, y8, y9, y10, y11⟩ := hSw; go_simp; try (with_reducible rfl))
          try simp only [Act.put, List.setIfInBounds_toArray, List.set_cons_zero, List.set_cons_succ]
          refine takeD (i := 15) (oi := { dst := some 53, op := _, type := _, pos := _, after := _, guard := _ }) (d := some 53) (v := ?vvd53) rfl rfl (by kernel_rfl) (by kernel_rfl) (by kernel_rfl) ?ddd53 (by rfl) ?yyd53 hHeld2 ?rrd53
          case ddd53 => exact fun _ _ _ h => h
          case yyd53 => (intro wx hSw; obtain ⟨y0, y1, y2, y3, y4, y5, y6, y7, y8, y9, y10, y11⟩ := hSw; go_simp; try (with_reducible rfl))
          try simp only [Act.put, List.setIfInBounds_toArray, List.set_cons_zero, List.set_cons_succ]
          obtain ⟨w5, hrun5, hS5, hg5⟩ := HPUT.out w6 #[] HS6.out
          rw [← HRF.out] at hrun5
          have HS5 := Lib.hid hS5
          have HK5 := Lib.hid ((HK6.out).block (hg5.block _ (HK6.out).lt (fun e => by have := HMK.out; cases e; omega)))
          have HG5 := Lib.hid hg5
          clear hS5 hg5
          refine wpAnyH_ready (rs := [16]) (by kernel_rfl) (by simp) ?_
          refine AllReadyH.cons (o := { dst := none, op := _, type := _, pos := _, after := _, guard := _ }) rfl (fun K hK => ?_) AllReadyH.nil
          go_simp
          refine hK.out _ _ ⟨⟨HK5.out.cell (i := 0) rfl, HK5.out.cell (i := 1) rfl⟩, HLK2.out w5 HS5.out, HK5.out.cell (i := 2) rfl, HK5.out.cell (i := 3) rfl, HK5.out.cell (i := 4) rfl, HK5.out.cell (i := 5) rfl, HK5.out.cell (i := 6) rfl, HK5.out.cell (i := 7) rfl, HK5.out.cell (i := 8) rfl, HK5.out.cell (i := 9) rfl, HK5.out.cell (i := 10) rfl, HK5.out.cell (i := 11) rfl⟩ (fun hHeld9 => ?_)
          clear hK K
          try simp only [Act.put, List.setIfInBounds_toArray, List.set_cons_zero, List.set_cons_succ]
          refine wpAnyH_done (by kernel_rfl) ?_ _
          go_wp2_with fail
          go_meet
          exact ⟨HS5.out, HK5.out⟩
        · have f1 : (e1 == 0) = false := by simpa using h1
          have HG2 := Lib.hid (show GP = IP by rw [HGP.out, HIP.out, HE1.out]; exact goneK_par H02.out hin (by rw [← HE1.out]; exact h1))
          clear h1
          have HSD := Lib.hid (HSC.out.under ((Below.refl wc.heap.size wc).drew))
          have l1 := HLK.out wc.drew HSD.out
          have HKD := Lib.hid (HK.out.drew)
          refine wp_region_held_drew (S := fun w' => w'.cell? ⟨kc, 0, none⟩ = some (.int .i64 e0) ∧ w'.cell? ⟨kc, 1, none⟩ = some (.int .i64 e1) ∧ (Instr.lookup 53 (.map (some mb)) (.int .i64 e1) false).run Try.prog w' = .ok (.bool GP) w') (by kernel_rfl) (by exact ⟨y0, y1, l1⟩) ?_
          intro hHeld
          clear y0 y1 l1
          cases GP
          case false =>
            refine takeD (i := 0) (oi := { dst := some 38, op := _, type := _, pos := _, after := _, guard := _ }) (d := some 38) (v := ?vva38) rfl rfl (by kernel_rfl) (by kernel_rfl) (by kernel_rfl) ?dda38 (by rfl) ?yya38 hHeld ?rra38
            case dda38 => exact fun _ _ _ h => h
            case yya38 => (intro wx hSw; obtain ⟨y0, y1, y2⟩ := hSw; go_simp; try (with_reducible rfl))
            try simp only [Act.put, List.setIfInBounds_toArray, List.set_cons_zero, List.set_cons_succ]
            refine takeD (i := 1) (oi := { dst := some 39, op := _, type := _, pos := _, after := _, guard := _ }) (d := some 39) (v := ?vva39) rfl rfl (by kernel_rfl) (by kernel_rfl) (by kernel_rfl) ?dda39 (by rfl) ?yya39 hHeld ?rra39
            case dda39 => exact fun _ _ _ h => h
            case yya39 => (intro wx hSw; obtain ⟨y0, y1, y2⟩ := hSw; go_simp; try (with_reducible rfl))
            try simp only [Act.put, List.setIfInBounds_toArray, List.set_cons_zero, List.set_cons_succ]
            refine takeD (i := 2) (oi := { dst := some 40, op := _, type := _, pos := _, after := _, guard := _ }) (d := some 40) (v := ?vva40) rfl rfl (by kernel_rfl) (by kernel_rfl) (by kernel_rfl) ?dda40 (by rfl) ?yya40 hHeld ?rra40
            case dda40 => exact fun _ _ _ h => h
            case yya40 => (intro wx hSw; obtain ⟨y0, y1, y2⟩ := hSw; go_simp; try (with_reducible rfl))
            try simp only [Act.put, List.setIfInBounds_toArray, List.set_cons_zero, List.set_cons_succ]
            refine takeD (i := 3) (oi := { dst := some 41, op := _, type := _, pos := _, after := _, guard := _ }) (d := some 41) (v := ?vva41) rfl rfl (by kernel_rfl) (by kernel_rfl) (by kernel_rfl) ?dda41 (by rfl) ?yya41 hHeld ?rra41
            case dda41 => exact fun _ _ _ h => h
            case yya41 => (intro wx hSw; obtain ⟨y0, y1, y2⟩ := hSw; go_simp; try (with_reducible rfl))
            try simp only [Act.put, List.setIfInBounds_toArray, List.set_cons_zero, List.set_cons_succ]
            refine takeD (i := 4) (oi := { dst := some 42, op := _, type := _, pos := _, after := _, guard := _ }) (d := some 42) (v := ?vva42) rfl rfl (by kernel_rfl) (by kernel_rfl) (by kernel_rfl) ?dda42 (by rfl) ?yya42 hHeld ?rra42
            case dda42 => exact fun _ _ _ h => h
            case yya42 => (intro wx hSw; obtain ⟨y0, y1, y2⟩ := hSw; go_simp; try (with_reducible rfl))
            try simp only [Act.put, List.setIfInBounds_toArray, List.set_cons_zero, List.set_cons_succ]
            refine takeD (i := 5) (oi := { dst := some 43, op := _, type := _, pos := _, after := _, guard := _ }) (d := some 43) (v := ?vva43) rfl rfl (by kernel_rfl) (by kernel_rfl) (by kernel_rfl) ?dda43 (by rfl) ?yya43 hHeld ?rra43
            case dda43 => exact fun _ _ _ h => h
            case yya43 => (intro wx hSw; obtain ⟨y0, y1, y2⟩ := hSw; go_simp; try (with_reducible rfl))
            try simp only [Act.put, List.setIfInBounds_toArray, List.set_cons_zero, List.set_cons_succ]
            refine takeD (i := 6) (oi := { dst := some 44, op := _, type := _, pos := _, after := _, guard := _ }) (d := some 44) (v := ?vva44) rfl rfl (by kernel_rfl) (by kernel_rfl) (by kernel_rfl) ?dda44 (by rfl) ?yya44 hHeld ?rra44
            case dda44 => exact fun _ _ _ h => h
            case yya44 => (intro wx hSw; obtain ⟨y0, y1, y2⟩ := hSw; go_simp; try (with_reducible rfl))
            try simp only [Act.put, List.setIfInBounds_toArray, List.set_cons_zero, List.set_cons_succ]
            refine takeD (i := 7) (oi := { dst := some 45, op := _, type := _, pos := _, after := _, guard := _ }) (d := some 45) (v := ?vva45) rfl rfl (by kernel_rfl) (by kernel_rfl) (by kernel_rfl) ?dda45 (by rfl) ?yya45 hHeld ?rra45
            case dda45 => exact fun _ _ _ h => h
            case yya45 => (intro wx hSw; obtain ⟨y0, y1, y2⟩ := hSw; go_simp; try (with_reducible rfl))
            try simp only [Act.put, List.setIfInBounds_toArray, List.set_cons_zero, List.set_cons_succ]
            refine takeD (i := 8) (oi := { dst := some 46, op := _, type := _, pos := _, after := _, guard := _ }) (d := some 46) (v := ?vva46) rfl rfl (by kernel_rfl) (by kernel_rfl) (by kernel_rfl) ?dda46 (by rfl) ?yya46 hHeld ?rra46
            case dda46 => exact fun _ _ _ h => h
            case yya46 => (intro wx hSw; obtain ⟨y0, y1, y2⟩ := hSw; go_simp; try (with_reducible rfl))
            try simp only [Act.put, List.setIfInBounds_toArray, List.set_cons_zero, List.set_cons_succ]
            refine takeD (i := 9) (oi := { dst := some 47, op := _, type := _, pos := _, after := _, guard := _ }) (d := some 47) (v := ?vva47) rfl rfl (by kernel_rfl) (by kernel_rfl) (by kernel_rfl) ?dda47 (by rfl) ?yya47 hHeld ?rra47
            case dda47 => exact fun _ _ _ h => h
            case yya47 => (intro wx hSw; obtain ⟨y0, y1, y2⟩ := hSw; go_simp; try (with_reducible rfl))
            try simp only [Act.put, List.setIfInBounds_toArray, List.set_cons_zero, List.set_cons_succ]
            refine takeD (i := 10) (oi := { dst := some 48, op := _, type := _, pos := _, after := _, guard := _ }) (d := some 48) (v := ?vva48) rfl rfl (by kernel_rfl) (by kernel_rfl) (by kernel_rfl) ?dda48 (by rfl) ?yya48 hHeld ?rra48
            case dda48 => exact fun _ _ _ h => h
            case yya48 => (intro wx hSw; obtain ⟨y0, y1, y2⟩ := hSw; go_simp; try (with_reducible rfl))
            try simp only [Act.put, List.setIfInBounds_toArray, List.set_cons_zero, List.set_cons_succ]
            refine takeD (i := 11) (oi := { dst := some 49, op := _, type := _, pos := _, after := _, guard := _ }) (d := some 49) (v := ?vva49) rfl rfl (by kernel_rfl) (by kernel_rfl) (by kernel_rfl) ?dda49 (by rfl) ?yya49 hHeld ?rra49
            case dda49 => exact fun _ _ _ h => h
            case yya49 => (intro wx hSw; obtain ⟨y0, y1, y2⟩ := hSw; go_simp; try (with_reducible rfl))
            try simp only [Act.put, List.setIfInBounds_toArray, List.set_cons_zero, List.set_cons_succ]
            refine skipD (i := 12) (oi := { dst := some 50, op := _, type := _, pos := _, after := _, guard := _ }) (d := some 50) rfl rfl (by kernel_rfl) (by kernel_rfl) (by kernel_rfl) (fun _ _ _ h => h) (by rfl) hHeld ?_
            try simp only [Act.put, List.setIfInBounds_toArray, List.set_cons_zero, List.set_cons_succ]
            refine skipD (i := 13) (oi := { dst := some 51, op := _, type := _, pos := _, after := _, guard := _ }) (d := some 51) rfl rfl (by kernel_rfl) (by kernel_rfl) (by kernel_rfl) (fun _ _ _ h => h) (by rfl) hHeld ?_
            try simp only [Act.put, List.setIfInBounds_toArray, List.set_cons_zero, List.set_cons_succ]
            refine takeD (i := 14) (oi := { dst := some 52, op := _, type := _, pos := _, after := _, guard := _ }) (d := some 52) (v := ?vva52) rfl rfl (by kernel_rfl) (by kernel_rfl) (by kernel_rfl) ?dda52 (by rfl) ?yya52 hHeld ?rra52
            case dda52 => exact fun _ _ _ h => h
            case yya52 => (intro wx hSw; obtain ⟨y0, y1, y2⟩ := hSw; go_simp; try (with_reducible rfl))
            try simp only [Act.put, List.setIfInBounds_toArray, List.set_cons_zero, List.set_cons_succ]
            refine takeD (i := 15) (oi := { dst := some 53, op := _, type := _, pos := _, after := _, guard := _ }) (d := some 53) (v := ?vva53) rfl rfl (by kernel_rfl) (by kernel_rfl) (by kernel_rfl) ?dda53 (by rfl) ?yya53 hHeld ?rra53
            case dda53 => exact fun _ _ _ h => h
            case yya53 => (intro wx hSw; obtain ⟨y0, y1, y2⟩ := hSw; go_simp; try (with_reducible rfl))
            try simp only [Act.put, List.setIfInBounds_toArray, List.set_cons_zero, List.set_cons_succ]
            obtain ⟨w5, hrun5, hS5, hg5⟩ := HPUT.out wc.drew #[] HSD.out
            rw [← HG2.out] at hrun5
            have HS5 := Lib.hid hS5
            have HK5 := Lib.hid ((HKD.out).block (hg5.block _ (HKD.out).lt (fun e => by have := HMK.out; cases e; omega)))
            have HG5 := Lib.hid hg5
            clear hS5 hg5
            refine wpAnyH_ready (rs := [16]) (by kernel_rfl) (by simp) ?_
            refine AllReadyH.cons (o := { dst := none, op := _, type := _, pos := _, after := _, guard := _ }) rfl (fun K hK => ?_) AllReadyH.nil
            go_simp
            refine hK.out _ _ ⟨HK5.out.cell (i := 0) rfl, HK5.out.cell (i := 1) rfl, HLK2.out w5 HS5.out⟩ (fun hHeld9 => ?_)
            clear hK K
            try simp only [Act.put, List.setIfInBounds_toArray, List.set_cons_zero, List.set_cons_succ]
            refine wpAnyH_done (by kernel_rfl) ?_ _
            go_wp2_with fail
            go_meet
            exact ⟨HS5.out, HK5.out⟩
          case true =>
            refine takeD (i := 0) (oi := { dst := some 38, op := _, type := _, pos := _, after := _, guard := _ }) (d := some 38) (v := ?vvc38) rfl rfl (by kernel_rfl) (by kernel_rfl) (by kernel_rfl) ?ddc38 (by rfl) ?yyc38 hHeld ?rrc38
            case ddc38 => exact fun _ _ _ h => h
            case yyc38 => (intro wx hSw; obtain ⟨y0, y1, y2⟩ := hSw; go_simp; try (with_reducible rfl))
            try simp only [Act.put, List.setIfInBounds_toArray, List.set_cons_zero, List.set_cons_succ]
            refine takeD (i := 1) (oi := { dst := some 39, op := _, type := _, pos := _, after := _, guard := _ }) (d := some 39) (v := ?vvc39) rfl rfl (by kernel_rfl) (by kernel_rfl) (by kernel_rfl) ?ddc39 (by rfl) ?yyc39 hHeld ?rrc39
            case ddc39 => exact fun _ _ _ h => h
            case yyc39 => (intro wx hSw; obtain ⟨y0, y1, y2⟩ := hSw; go_simp; try (with_reducible rfl))
            try simp only [Act.put, List.setIfInBounds_toArray, List.set_cons_zero, List.set_cons_succ]
            refine takeD (i := 2) (oi := { dst := some 40, op := _, type := _, pos := _, after := _, guard := _ }) (d := some 40) (v := ?vvc40) rfl rfl (by kernel_rfl) (by kernel_rfl) (by kernel_rfl) ?ddc40 (by rfl) ?yyc40 hHeld ?rrc40
            case ddc40 => exact fun _ _ _ h => h
            case yyc40 => (intro wx hSw; obtain ⟨y0, y1, y2⟩ := hSw; go_simp; try (with_reducible rfl))
            try simp only [Act.put, List.setIfInBounds_toArray, List.set_cons_zero, List.set_cons_succ]
            refine takeD (i := 3) (oi := { dst := some 41, op := _, type := _, pos := _, after := _, guard := _ }) (d := some 41) (v := ?vvc41) rfl rfl (by kernel_rfl) (by kernel_rfl) (by kernel_rfl) ?ddc41 (by rfl) ?yyc41 hHeld ?rrc41
            case ddc41 => exact fun _ _ _ h => h
            case yyc41 => (intro wx hSw; obtain ⟨y0, y1, y2⟩ := hSw; go_simp; try (with_reducible rfl))
            try simp only [Act.put, List.setIfInBounds_toArray, List.set_cons_zero, List.set_cons_succ]
            refine takeD (i := 4) (oi := { dst := some 42, op := _, type := _, pos := _, after := _, guard := _ }) (d := some 42) (v := ?vvc42) rfl rfl (by kernel_rfl) (by kernel_rfl) (by kernel_rfl) ?ddc42 (by rfl) ?yyc42 hHeld ?rrc42
            case ddc42 => exact fun _ _ _ h => h
            case yyc42 => (intro wx hSw; obtain ⟨y0, y1, y2⟩ := hSw; go_simp; try (with_reducible rfl))
            try simp only [Act.put, List.setIfInBounds_toArray, List.set_cons_zero, List.set_cons_succ]
            refine takeD (i := 5) (oi := { dst := some 43, op := _, type := _, pos := _, after := _, guard := _ }) (d := some 43) (v := ?vvc43) rfl rfl (by kernel_rfl) (by kernel_rfl) (by kernel_rfl) ?ddc43 (by rfl) ?yyc43 hHeld ?rrc43
            case ddc43 => exact fun _ _ _ h => h
            case yyc43 => (intro wx hSw; obtain ⟨y0, y1, y2⟩ := hSw; go_simp; try (with_reducible rfl))
            try simp only [Act.put, List.setIfInBounds_toArray, List.set_cons_zero, List.set_cons_succ]
            refine takeD (i := 6) (oi := { dst := some 44, op := _, type := _, pos := _, after := _, guard := _ }) (d := some 44) (v := ?vvc44) rfl rfl (by kernel_rfl) (by kernel_rfl) (by kernel_rfl) ?ddc44 (by rfl) ?yyc44 hHeld ?rrc44
            case ddc44 => exact fun _ _ _ h => h
            case yyc44 => (intro wx hSw; obtain ⟨y0, y1, y2⟩ := hSw; go_simp; try (with_reducible rfl))
            try simp only [Act.put, List.setIfInBounds_toArray, List.set_cons_zero, List.set_cons_succ]
            refine takeD (i := 7) (oi := { dst := some 45, op := _, type := _, pos := _, after := _, guard := _ }) (d := some 45) (v := ?vvc45) rfl rfl (by kernel_rfl) (by kernel_rfl) (by kernel_rfl) ?ddc45 (by rfl) ?yyc45 hHeld ?rrc45
            case ddc45 => exact fun _ _ _ h => h
            case yyc45 => (intro wx hSw; obtain ⟨y0, y1, y2⟩ := hSw; go_simp; try (with_reducible rfl))
            try simp only [Act.put, List.setIfInBounds_toArray, List.set_cons_zero, List.set_cons_succ]
            refine skipD (i := 8) (oi := { dst := some 46, op := _, type := _, pos := _, after := _, guard := _ }) (d := some 46) rfl rfl (by kernel_rfl) (by kernel_rfl) (by kernel_rfl) (fun _ _ _ h => h) (by rfl) hHeld ?_
            try simp only [Act.put, List.setIfInBounds_toArray, List.set_cons_zero, List.set_cons_succ]
            refine skipD (i := 9) (oi := { dst := some 47, op := _, type := _, pos := _, after := _, guard := _ }) (d := some 47) rfl rfl (by kernel_rfl) (by kernel_rfl) (by kernel_rfl) (fun _ _ _ h => h) (by rfl) hHeld ?_
            try simp only [Act.put, List.setIfInBounds_toArray, List.set_cons_zero, List.set_cons_succ]
            refine skipD (i := 10) (oi := { dst := some 48, op := _, type := _, pos := _, after := _, guard := _ }) (d := some 48) rfl rfl (by kernel_rfl) (by kernel_rfl) (by kernel_rfl) (fun _ _ _ h => h) (by rfl) hHeld ?_
            try simp only [Act.put, List.setIfInBounds_toArray, List.set_cons_zero, List.set_cons_succ]
            refine skipD (i := 11) (oi := { dst := some 49, op := _, type := _, pos := _, after := _, guard := _ }) (d := some 49) rfl rfl (by kernel_rfl) (by kernel_rfl) (by kernel_rfl) (fun _ _ _ h => h) (by rfl) hHeld ?_
            try simp only [Act.put, List.setIfInBounds_toArray, List.set_cons_zero, List.set_cons_succ]
            refine skipD (i := 12) (oi := { dst := some 50, op := _, type := _, pos := _, after := _, guard := _ }) (d := some 50) rfl rfl (by kernel_rfl) (by kernel_rfl) (by kernel_rfl) (fun _ _ _ h => h) (by rfl) hHeld ?_
            try simp only [Act.put, List.setIfInBounds_toArray, List.set_cons_zero, List.set_cons_succ]
            refine skipD (i := 13) (oi := { dst := some 51, op := _, type := _, pos := _, after := _, guard := _ }) (d := some 51) rfl rfl (by kernel_rfl) (by kernel_rfl) (by kernel_rfl) (fun _ _ _ h => h) (by rfl) hHeld ?_
            try simp only [Act.put, List.setIfInBounds_toArray, List.set_cons_zero, List.set_cons_succ]
            refine skipD (i := 14) (oi := { dst := some 52, op := _, type := _, pos := _, after := _, guard := _ }) (d := some 52) rfl rfl (by kernel_rfl) (by kernel_rfl) (by kernel_rfl) (fun _ _ _ h => h) (by rfl) hHeld ?_
            try simp only [Act.put, List.setIfInBounds_toArray, List.set_cons_zero, List.set_cons_succ]
            refine takeD (i := 15) (oi := { dst := some 53, op := _, type := _, pos := _, after := _, guard := _ }) (d := some 53) (v := ?vvc53) rfl rfl (by kernel_rfl) (by kernel_rfl) (by kernel_rfl) ?ddc53 (by rfl) ?yyc53 hHeld ?rrc53
            case ddc53 => exact fun _ _ _ h => h
            case yyc53 => (intro wx hSw; obtain ⟨y0, y1, y2⟩ := hSw; go_simp; try (with_reducible rfl))
            try simp only [Act.put, List.setIfInBounds_toArray, List.set_cons_zero, List.set_cons_succ]
            obtain ⟨w5, hrun5, hS5, hg5⟩ := HPUT.out wc.drew #[] HSD.out
            rw [← HG2.out] at hrun5
            have HS5 := Lib.hid hS5
            have HK5 := Lib.hid ((HKD.out).block (hg5.block _ (HKD.out).lt (fun e => by have := HMK.out; cases e; omega)))
            have HG5 := Lib.hid hg5
            clear hS5 hg5
            refine wpAnyH_ready (rs := [16]) (by kernel_rfl) (by simp) ?_
            refine AllReadyH.cons (o := { dst := none, op := _, type := _, pos := _, after := _, guard := _ }) rfl (fun K hK => ?_) AllReadyH.nil
            go_simp
            refine hK.out _ _ ⟨HK5.out.cell (i := 0) rfl, HK5.out.cell (i := 1) rfl, HLK2.out w5 HS5.out⟩ (fun hHeld9 => ?_)
            clear hK K
            try simp only [Act.put, List.setIfInBounds_toArray, List.set_cons_zero, List.set_cons_succ]
            refine wpAnyH_done (by kernel_rfl) ?_ _
            go_wp2_with fail
            go_meet
            exact ⟨HS5.out, HK5.out⟩
      case rest =>
      obtain ⟨hS5, hK5⟩ := hcut
      have HS5 := Lib.hid hS5
      have HK5 := Lib.hid hK5
      have HL0 := Lib.hid (show (Instr.lookup 53 (.map (some mb)) (.int .i64 e0) false).run Try.prog wc = .ok (.bool IP) wc from by
        have h := hS5.map.look Try.underlying3 Try.underlying4 Try.underlying53 (by kernel_rfl) e0 HW0.out
        rw [goneK_put H02.out hin, if_pos HE0.out, ← HIP.out] at h
        exact h)
      clear hS5 hK5 HPUT HLK HLK2
      have y0 : wc.cell? ⟨kc, 0, none⟩ = some (.int .i64 e0) := HK5.out.cell (i := 0) rfl
      have l0 := HL0.out
      cases IP
      case true =>
        have HBK := Lib.hid (back_gone (E := E2) (N := N2) (i := i) HIP.out.symm)
        go_wp2_with fail
        go_roundw
        case rel => exact ⟨i + 1, by go_num, by omega, by rw [HBK.out]; exact HS5.out⟩
        case measure => simp [intOf]; omega
      case false =>
        have HBK := Lib.hid (back_left (E := E2) (N := N2) (i := i) HIP.out.symm)
        have HSD := Lib.hid (show shD E2 N2 i = ⟨e0, e1, e2, e3, e4, e5, e6, e7, e8, e9, n0, nt⟩ by rw [HE0.out, HE1.out, HE2.out, HE3.out, HE4.out, HE5.out, HE6.out, HE7.out, HE8.out, HE9.out, HN0.out, HNT.out]; rfl)
        obtain ⟨BL, hBL⟩ : ∃ BL, BL = backL E2 N2 i := ⟨_, rfl⟩
        rw [← hBL] at hbl HS5 HBK ⊢
        obtain ⟨bn, hbn⟩ : ∃ bn, bn = BL.length := ⟨_, rfl⟩
        have HBN := Lib.hid hbn
        obtain ⟨xs, hown, hxl, hxs⟩ := RowV.own HS5.out.row
        rw [← hbn] at hown hbl ⊢
        have HXL := Lib.hid hxl
        have HXS := Lib.hid hxs
        have hmw := HS5.out.map.lt
        clear hxl hxs hbn hBL
        go_upto_region 14 with fail
        have HRNa := Lib.hid (show wc.rangeAt kc 0 [.int .i64 e0, .int .i64 e1, .int .i64 e2, .int .i64 e3, .int .i64 e4, .int .i64 e5, .int .i64 e6, .int .i64 e7, .int .i64 e8, .int .i64 e9, .string n0, .string nt] from fun j v hj => by rw [Nat.zero_add]; exact (HK5).out.cell (by simpa using hj))
        refine wp_region_lit ?_
        refine cut_at 1 (fun R hR => ?_)
        have HRAsa := Lib.hid hR
        clear hR
        simp only [List.take_succ_cons, List.take_zero, List.cons_append, List.nil_append]
        go_wp2_with fail
        rw [HRAsa.out]
        simp only [List.drop_succ_cons, List.drop_zero]
        refine wpList_load_mid rfl 24 _ rfl kc 0 rfl _ _ HRNa.out Try.underlying24 rfl (by kernel_rfl) ?_
        simp only [Act.put, List.setIfInBounds_toArray, List.set_cons_zero, List.set_cons_succ]
        obtain ⟨ii, hii, hz0, hz1, hz2⟩ := info_parts HIS.out
        go_wp2_with (at_builtin; go_loud (refine wpList_append_own _ rfl _ _ 22 rfl (mb + 1) 24 ii _ 12 112 Try.underlying22 hii hz0 hz1 hz2 rfl (by decide) _ _ _ rfl (RowL.alloc hown _) ⟨wc.heap.size, 0, none⟩ 1 1 [.int .i64 e0, .int .i64 e1, .int .i64 e2, .int .i64 e3, .int .i64 e4, .int .i64 e5, .int .i64 e6, .int .i64 e7, .int .i64 e8, .int .i64 e9, .string n0, .string nt] rfl rfl ?k1a ?k2a ?k3a ?k4a ?k5a ?_))
        try (case k1a =>
          intro j u hj
          have e : Addr.add ⟨wc.heap.size, 0, none⟩ j = ⟨wc.heap.size, j, none⟩ := by simp [Addr.add]; omega
          rw [e]
          exact (Blk.new wc _ _).cell (by simpa using hj))
        try (case k2a => intro u hu; simp at hu; rcases hu with rfl | rfl | rfl | rfl | rfl | rfl | rfl | rfl | rfl | rfl | rfl | rfl <;> rfl)
        try (case k3a => unfold maxLen; (try simp); (try omega))
        try (case k4a => (try simp); (try omega))
        try (case k5a => (try simp); (try omega))
        intro v6 w6 hown6 hgrow _
        clear hii hz0 hz1 hz2
        have HS6 := Lib.hid (GnS.push (s := ⟨e0, e1, e2, e3, e4, e5, e6, e7, e8, e9, n0, nt⟩) HS5.out (by rw [← HBN.out]; exact hgrow) (by rw [← HBN.out]; exact hown6) HXL.out HXS.out)
        clear hown hown6 hgrow
        go_wp2_with fail
        go_roundw
        case rel => exact ⟨i + 1, by go_num, by omega, by rw [HBK.out, HSD.out]; exact HS6.out⟩
        case measure => simp [intOf]; omega
    · obtain rfl : i = n2 := by omega
      have hnn : ¬ (i : Int) < (i : Int) := by omega
      obtain ⟨wo, rfl⟩ : ∃ wo : World, wo = wr := ⟨_, rfl⟩
      obtain ⟨BL, hBL⟩ : ∃ BL, BL = backL E2 N2 i := ⟨_, rfl⟩
      have HBLE := Lib.hid hBL
      rw [← hBL] at hbl HS ⊢
      obtain ⟨bn, hbn⟩ : ∃ bn, bn = BL.length := ⟨_, rfl⟩
      have HBN := Lib.hid hbn
      have HS2 := Lib.hid (show BkS w mb (i + 1) (goneK E2 N2 i) (.slice av bn cv) bn (fun q => BL.getD q default) wo by rw [hbn]; exact ⟨HS.out.below, HS.out.map, HS.out.row, HS.out.low⟩)
      rw [← hbn] at hbl ⊢
      clear hBL hbn HS
      go_wp2_with fail
      go_loopw [66] (fun iv wx => ∃ k : Nat, iv = .int .i64 k ∧ k ≤ bn ∧ BkS w mb (i + 1) (goneK E2 N2 i) (.slice av bn cv) bn (fun q => if q < k then cutX (goneK E2 N2 i) (BL.getD q default) else BL.getD q default) wx) (fun iv _ => bn - (intOf iv).toNat)
      case atStart => exact ⟨0, rfl, by omega, HS2.out.congr (fun q hq => by rw [if_neg (by omega)])⟩
      case round =>
        clear HS2
        obtain ⟨k, rfl, hk, hS⟩ := hrel
        have HS := Lib.hid hS
        have hsz2 := hS.below.size
        clear hS
        by_cases hkn : k < bn
        · have hkn2 : (k : Int) < (bn : Int) := by omega
          obtain ⟨g, cap, hav, hgb, hgl, _, _, hfz, hcells⟩ := HS.out.row.at (by omega)
          have hck := hcells k hkn
          obtain ⟨D, hD⟩ : ∃ D, D = BL.getD k default := ⟨_, rfl⟩
          simp only [Nat.lt_irrefl, if_false, ← hD] at hck
          have HD := Lib.hid hD
          have HNU := Lib.hid (show (0 ≤ D.fr ∧ D.fr ≤ 1073741824) ∧ (0 ≤ D.tn ∧ D.tn ≤ 1073741824) from by
            obtain ⟨j, hj, e⟩ := back_get (E := E2) (N := N2) (i := i) (k := k) (by rw [← HBLE.out, ← HBN.out]; exact hkn)
            rw [hD, HBLE.out, e]
            have := (ok_at H02.out hj).2.1
            exact ⟨this.2.2.1, this.2.2.2⟩)
          obtain ⟨e0, e1, e2, e3, e4, e5, e6, e7, e8, e9, n0, nt⟩ := D
          simp only [Value.slice.injEq, true_and] at hav
          obtain ⟨hav1, hav2⟩ := hav
          subst hav1
          subst hav2
          have d0 : wr.cell? ⟨g, k * 12, none⟩ = some (.int .i64 e0) := hck 0 (by omega)
          have d1 : wr.cell? ⟨g, k * 12 + 1, none⟩ = some (.int .i64 e1) := hck 1 (by omega)
          have d2 : wr.cell? ⟨g, k * 12 + 2, none⟩ = some (.int .i64 e2) := hck 2 (by omega)
          have d3 : wr.cell? ⟨g, k * 12 + 3, none⟩ = some (.int .i64 e3) := hck 3 (by omega)
          have d4 : wr.cell? ⟨g, k * 12 + 4, none⟩ = some (.int .i64 e4) := hck 4 (by omega)
          have d5 : wr.cell? ⟨g, k * 12 + 5, none⟩ = some (.int .i64 e5) := hck 5 (by omega)
          have d6 : wr.cell? ⟨g, k * 12 + 6, none⟩ = some (.int .i64 e6) := hck 6 (by omega)
          have d7 : wr.cell? ⟨g, k * 12 + 7, none⟩ = some (.int .i64 e7) := hck 7 (by omega)
          have d8 : wr.cell? ⟨g, k * 12 + 8, none⟩ = some (.int .i64 e8) := hck 8 (by omega)
          have d9 : wr.cell? ⟨g, k * 12 + 9, none⟩ = some (.int .i64 e9) := hck 9 (by omega)
          have d10 : wr.cell? ⟨g, k * 12 + 10, none⟩ = some (.string n0) := hck 10 (by omega)
          have d11 : wr.cell? ⟨g, k * 12 + 11, none⟩ = some (.string nt) := hck 11 (by omega)
          clear hcells hck hD
          go_upto_region 19 with fail
          obtain ⟨wc, hwc⟩ : ∃ wc, wc = wr.alloc (Obj.cells #[.int .i64 e0, .int .i64 e1, .int .i64 e2, .int .i64 e3, .int .i64 e4, .int .i64 e5, .int .i64 e6, .int .i64 e7, .int .i64 e8, .int .i64 e9, .string n0, .string nt] 24) := ⟨_, rfl⟩
          have HK := Lib.hid (show Blk wc wr.heap.size #[.int .i64 e0, .int .i64 e1, .int .i64 e2, .int .i64 e3, .int .i64 e4, .int .i64 e5, .int .i64 e6, .int .i64 e7, .int .i64 e8, .int .i64 e9, .string n0, .string nt] 24 by rw [hwc]; exact Blk.new _ _ _)
          have HSC := Lib.hid (show BkS w mb (i + 1) (goneK E2 N2 i) (.slice (some ⟨g, 0, none⟩) bn cv) bn (updF (fun q => if q < k then cutX (goneK E2 N2 i) (BL.getD q default) else BL.getD q default) k ⟨e0, e1, e2, e3, e4, e5, e6, e7, e8, e9, n0, nt⟩) wc by rw [hwc]; exact (HS.out.under ((Below.refl _ _).alloc (Nat.le_refl _) _)).start HD.out)
          have hgl2 : g < wc.heap.size := by rw [hwc]; simp; omega
          have f8 : wc.frozen? ⟨g, k * 12 + 8, none⟩ = false := by rw [hwc]; exact (((Below.refl _ _).alloc (Nat.le_refl _) _).frozen (p := ⟨g, k * 12 + 8, none⟩) hgl).trans (hfz _)
          have x8 : wc.cell? ⟨g, k * 12 + 8, none⟩ = some (.int .i64 e8) := by rw [hwc]; exact (((Below.refl _ _).alloc (Nat.le_refl _) _).cell (p := ⟨g, k * 12 + 8, none⟩) hgl).trans d8
          rw [← hwc]
          obtain ⟨kc, hkc⟩ : ∃ kc, kc = wr.heap.size := ⟨_, rfl⟩
          have hgk : g ≠ kc := by omega
          have hgk2 : ¬ kc = g := by omega
          rw [← hkc] at HK ⊢
          clear d0 d1 d2 d3 d4 d5 d6 d7 d8 d9 d10 d11 hwc hkc HS hfz
          obtain ⟨⟨q1, q2⟩, q3, q4⟩ := HNU.out
          simp only at q1 q2 q3 q4
          have HW8 := Lib.hid (show (Lit.int .i64 e8).wf = true from wf_bd (by omega))
          have HW9 := Lib.hid (show (Lit.int .i64 e9).wf = true from wf_bd (by omega))
          clear q1 q2 q3 q4
          obtain ⟨GF, hGF⟩ : ∃ GF, GF = goneK E2 N2 i e8 := ⟨_, rfl⟩
          have HGFH := Lib.hid hGF
          obtain ⟨GT, hGT⟩ : ∃ GT, GT = goneK E2 N2 i e9 := ⟨_, rfl⟩
          have HGT := Lib.hid hGT
          clear hGF hGT
          have l8 := HSC.out.map.look (t := 53) Try.underlying3 Try.underlying4 Try.underlying53 (by kernel_rfl) e8 HW8.out
          rw [← HGFH.out] at l8
          have c8 : wc.cell? ⟨kc, 8, none⟩ = some (.int .i64 e8) := HK.out.cell (i := 8) rfl
          cases GF
          · go_upto_region 21 with fail
            obtain ⟨we, rfl⟩ : ∃ we : World, we = wc := ⟨_, rfl⟩
            have HSE := HSC
            have HKE := HK
            clear l8 c8 x8 f8
            have l9 := HSE.out.map.look (t := 53) Try.underlying3 Try.underlying4 Try.underlying53 (by kernel_rfl) e9 HW9.out
            rw [← HGT.out] at l9
            have c9 : we.cell? ⟨kc, 9, none⟩ = some (.int .i64 e9) := HKE.out.cell (i := 9) rfl
            obtain ⟨_, _, hav3, _, hgl3, _, _, hfz3, hcells3⟩ := HSE.out.row.at (by omega)
            simp only [Value.slice.injEq, Option.some.injEq, Addr.mk.injEq, true_and, and_true] at hav3
            obtain ⟨hg3, hc3⟩ := hav3
            subst hg3
            subst hc3
            have hck3 := hcells3 k hkn
            simp only [updF_same] at hck3
            have x9 : we.cell? ⟨g, k * 12 + 9, none⟩ = some (.int .i64 e9) := hck3 9 (by omega)
            have f9 := hfz3 (k * 12 + 9)
            clear hck3 hcells3 hfz3
            have HGTH := HGT
            cases GT
            · have HFI := Lib.hid (HSE.out.fin (by
                rw [← HD.out]
                unfold cutX
                simp only
                rw [← HGFH.out, ← HGTH.out]
                rfl))
              go_wp2_with fail
              go_roundw
              case rel => exact ⟨k + 1, by go_num, by omega, HFI.out⟩
              case measure => simp [intOf]; omega
            · have HFI := Lib.hid ((HSE.out.set2 hkn (j := 9) (by omega) (.int .i64 0) _ (set_to _)).fin (by
                rw [← HD.out]
                unfold cutX
                simp only
                rw [← HGFH.out, ← HGTH.out]
                rfl))
              go_wp2_with fail
              go_roundw
              case rel => exact ⟨k + 1, by go_num, by omega, HFI.out⟩
              case measure => simp [intOf]; omega
          · go_upto_region 21 with fail
            obtain ⟨we, hwe⟩ : ∃ we, we = wc.setCell ⟨g, k * 12 + 8, none⟩ (.int .i64 0) := ⟨_, rfl⟩
            have HSE := Lib.hid (show BkS w mb (i + 1) (goneK E2 N2 i) (.slice (some ⟨g, 0, none⟩) bn cv) bn (updF (fun q => if q < k then cutX (goneK E2 N2 i) (BL.getD q default) else BL.getD q default) k ⟨e0, e1, e2, e3, e4, e5, e6, e7, 0, e9, n0, nt⟩) we by
              rw [hwe]; exact HSC.out.set2 hkn (j := 8) (by omega) (.int .i64 0) _ (set_fr _))
            have HKE := Lib.hid (show Blk we kc #[.int .i64 e0, .int .i64 e1, .int .i64 e2, .int .i64 e3, .int .i64 e4, .int .i64 e5, .int .i64 e6, .int .i64 e7, .int .i64 e8, .int .i64 e9, .string n0, .string nt] 24 by rw [hwe]; exact HK.out.other (by simp; omega) _)
            rw [← hwe]
            clear l8 c8 x8 f8 hwe
            have l9 := HSE.out.map.look (t := 53) Try.underlying3 Try.underlying4 Try.underlying53 (by kernel_rfl) e9 HW9.out
            rw [← HGT.out] at l9
            have c9 : we.cell? ⟨kc, 9, none⟩ = some (.int .i64 e9) := HKE.out.cell (i := 9) rfl
            obtain ⟨_, _, hav3, _, hgl3, _, _, hfz3, hcells3⟩ := HSE.out.row.at (by omega)
            simp only [Value.slice.injEq, Option.some.injEq, Addr.mk.injEq, true_and, and_true] at hav3
            obtain ⟨hg3, hc3⟩ := hav3
            subst hg3
            subst hc3
            have hck3 := hcells3 k hkn
            simp only [updF_same] at hck3
            have x9 : we.cell? ⟨g, k * 12 + 9, none⟩ = some (.int .i64 e9) := hck3 9 (by omega)
            have f9 := hfz3 (k * 12 + 9)
            clear hck3 hcells3 hfz3
            have HGTH := HGT
            cases GT
            · have HFI := Lib.hid (HSE.out.fin (by
                rw [← HD.out]
                unfold cutX
                simp only
                rw [← HGFH.out, ← HGTH.out]
                rfl))
              go_wp2_with fail
              go_roundw
              case rel => exact ⟨k + 1, by go_num, by omega, HFI.out⟩
              case measure => simp [intOf]; omega
            · have HFI := Lib.hid ((HSE.out.set2 hkn (j := 9) (by omega) (.int .i64 0) _ (set_to _)).fin (by
                rw [← HD.out]
                unfold cutX
                simp only
                rw [← HGFH.out, ← HGTH.out]
                rfl))
              go_wp2_with fail
              go_roundw
              case rel => exact ⟨k + 1, by go_num, by omega, HFI.out⟩
              case measure => simp [intOf]; omega
        · obtain rfl : bn = k := by omega
          have hnk : ¬ (bn : Int) < (bn : Int) := by omega
          obtain ⟨wz, rfl⟩ : ∃ wz : World, wz = wr := ⟨_, rfl⟩
          have HBZ := Lib.hid (HS.out.congr (F' := fun q => cutX (goneK E2 N2 i) (BL.getD q default)) (fun q hq => by rw [if_pos hq]))
          clear HS
          go_wp2_with fail
          go_loopw [10, 90] (fun fv iv wx => ∃ j : Nat, iv = .int .i64 j ∧ j ≤ n1 ∧ Below wz.heap.size wz wx ∧ RowV wx wz.heap.size 24 12 fv j (fun q => (frontD i E2 N2 (shD E1 N1 q)).V)) (fun _ iv _ => n1 - (intOf iv).toNat)
          case atStart => exact ⟨0, rfl, by omega, Below.refl _ _, RowV.nil _ _ _ _ _⟩
          case round =>
            obtain ⟨j, rfl, hj, hbel, hrow⟩ := hrel
            have HB := Lib.hid hbel
            have HR := Lib.hid hrow
            have hszr := hbel.size
            obtain ⟨fa, fc, hfv, _, _⟩ := RowV.slice hrow
            subst hfv
            have HBW := Lib.hid (HBZ.out.below.trans (hbel.mono HBZ.out.below.size))
            have hszw := HBW.out.size
            clear hbel hrow
            by_cases hjn : j < n1
            · have hjn2 : (j : Int) < (n1 : Int) := by omega
              obtain ⟨b, off, hba, hcellG⟩ := (H1.out.below (Nat.le_refl _) HBW.out) (by omega)
              have hcell := hcellG j hjn
              clear hcellG
              obtain ⟨hci, hc10, hc11⟩ := hcell
              have d0 := hci 0 (by omega)
              rw [Nat.add_zero] at d0
              have d1 := hci 1 (by omega)
              have d2 := hci 2 (by omega)
              have d3 := hci 3 (by omega)
              have d4 := hci 4 (by omega)
              have d5 := hci 5 (by omega)
              have d6 := hci 6 (by omega)
              have d7 := hci 7 (by omega)
              have d8 := hci 8 (by omega)
              have d9 := hci 9 (by omega)
              have zb := lt_of_cell d0
              simp only at zb
              clear hci
              obtain ⟨e0, he0⟩ : ∃ e, e = E1 j 0 := ⟨_, rfl⟩
              obtain ⟨e1, he1⟩ : ∃ e, e = E1 j 1 := ⟨_, rfl⟩
              obtain ⟨e2, he2⟩ : ∃ e, e = E1 j 2 := ⟨_, rfl⟩
              obtain ⟨e3, he3⟩ : ∃ e, e = E1 j 3 := ⟨_, rfl⟩
              obtain ⟨e4, he4⟩ : ∃ e, e = E1 j 4 := ⟨_, rfl⟩
              obtain ⟨e5, he5⟩ : ∃ e, e = E1 j 5 := ⟨_, rfl⟩
              obtain ⟨e6, he6⟩ : ∃ e, e = E1 j 6 := ⟨_, rfl⟩
              obtain ⟨e7, he7⟩ : ∃ e, e = E1 j 7 := ⟨_, rfl⟩
              obtain ⟨e8, he8⟩ : ∃ e, e = E1 j 8 := ⟨_, rfl⟩
              obtain ⟨e9, he9⟩ : ∃ e, e = E1 j 9 := ⟨_, rfl⟩
              obtain ⟨n0, hn0⟩ : ∃ e, e = N1 j 0 := ⟨_, rfl⟩
              obtain ⟨nt, hnt⟩ : ∃ e, e = N1 j 1 := ⟨_, rfl⟩
              rw [← he0] at d0
              rw [← he1] at d1
              rw [← he2] at d2
              rw [← he3] at d3
              rw [← he4] at d4
              rw [← he5] at d5
              rw [← he6] at d6
              rw [← he7] at d7
              rw [← he8] at d8
              rw [← he9] at d9
              rw [← hn0] at hc10
              rw [← hnt] at hc11
              have HE0 := Lib.hid he0
              have HE1 := Lib.hid he1
              have HE2 := Lib.hid he2
              have HE3 := Lib.hid he3
              have HE4 := Lib.hid he4
              have HE5 := Lib.hid he5
              have HE6 := Lib.hid he6
              have HE7 := Lib.hid he7
              have HE8 := Lib.hid he8
              have HE9 := Lib.hid he9
              have HN0 := Lib.hid hn0
              have HNT := Lib.hid hnt
              clear he0 he1 he2 he3 he4 he5 he6 he7 he8 he9 hn0 hnt
              have HSD := Lib.hid (show shD E1 N1 j = ⟨e0, e1, e2, e3, e4, e5, e6, e7, e8, e9, n0, nt⟩ by rw [HE0.out, HE1.out, HE2.out, HE3.out, HE4.out, HE5.out, HE6.out, HE7.out, HE8.out, HE9.out, HN0.out, HNT.out]; rfl)
              subst hba
              go_upto_region 27 with fail
              obtain ⟨wc, hwc⟩ : ∃ wc, wc = wr.alloc (Obj.cells #[.int .i64 e0, .int .i64 e1, .int .i64 e2, .int .i64 e3, .int .i64 e4, .int .i64 e5, .int .i64 e6, .int .i64 e7, .int .i64 e8, .int .i64 e9, .string n0, .string nt] 24) := ⟨_, rfl⟩
              have HK := Lib.hid (show Blk wc wr.heap.size #[.int .i64 e0, .int .i64 e1, .int .i64 e2, .int .i64 e3, .int .i64 e4, .int .i64 e5, .int .i64 e6, .int .i64 e7, .int .i64 e8, .int .i64 e9, .string n0, .string nt] 24 by rw [hwc]; exact Blk.new _ _ _)
              have HBC := Lib.hid (show Below wr.heap.size wr wc by rw [hwc]; exact (Below.refl _ _).alloc (Nat.le_refl _) _)
              rw [← hwc]
              obtain ⟨kc, hkc⟩ : ∃ kc, kc = wr.heap.size := ⟨_, rfl⟩
              rw [← hkc] at HK ⊢
              have hkc1 : wr.heap.size ≤ kc := by omega
              clear d0 d1 d2 d3 d4 d5 d6 d7 d8 d9 hc10 hc11 zb hwc hkc
              have y10 : wc.cell? ⟨kc, 10, none⟩ = some (.string n0) := HK.out.cell (i := 10) rfl
              go_wp2_with fail
              refine (place_any i E2 N2 n0 a2 c2 wc (H2.out.below (Nat.le_refl _) (HBW.out.trans (HBC.out.mono HBW.out.size))) (by omega)).mono ?_
              rintro e w5 ⟨rfl, hb5⟩
              obtain ⟨PK, hPK⟩ : ∃ PK, PK = placeE i E2 N2 n0 := ⟨_, rfl⟩
              rw [← hPK]
              have HPK := Lib.hid hPK
              have HB5 := Lib.hid (HBC.out.trans (hb5.mono HBC.out.size))
              have HK5 := Lib.hid (HK.out.below hb5 HK.out.lt)
              have HFR := Lib.hid (show frontD i E2 N2 (shD E1 N1 j) = if (e1 = 0 ∧ e5 = 0 ∧ e6 = 0) ∧ 0 ≤ PK then ⟨e0, e1, e2, E2 PK.toNat 3, E2 PK.toNat 4, E2 PK.toNat 5, E2 PK.toNat 6, E2 PK.toNat 7, e8, e9, n0, nt⟩ else ⟨e0, e1, e2, e3, e4, e5, e6, e7, e8, e9, n0, nt⟩ by rw [HSD.out]; unfold frontD; rw [hPK])
              obtain ⟨TB, hTB⟩ : ∃ TB, TB = decide ((e1 = 0 ∧ e5 = 0 ∧ e6 = 0) ∧ 0 ≤ PK) := ⟨_, rfl⟩
              have HTB := Lib.hid hTB
              clear hPK hb5 HK HBC hTB y10
              go_upto_region 28 with fail
              go_cut [114] from 98 to 114 (fun tv wx => tv = .bool TB ∧ wx = w5)
              case first =>
                have y1 : w5.cell? ⟨kc, 1, none⟩ = some (.int .i64 e1) := HK5.out.cell (i := 1) rfl
                have y5 : w5.cell? ⟨kc, 5, none⟩ = some (.int .i64 e5) := HK5.out.cell (i := 5) rfl
                have y6 : w5.cell? ⟨kc, 6, none⟩ = some (.int .i64 e6) := HK5.out.cell (i := 6) rfl
                by_cases h1 : 0 ≤ PK
                case neg =>
                  have HT := Lib.hid (show TB = false by rw [HTB.out]; exact decide_eq_false (fun h => h1 h.2))
                  go_wp2_with fail
                  go_meet
                  exact ⟨by rw [HT.out], rfl⟩
                by_cases h2 : e1 = 0
                case neg =>
                  have HT := Lib.hid (show TB = false by rw [HTB.out]; exact decide_eq_false (fun h => h2 h.1.1))
                  have f2 : (e1 == 0) = false := by simpa using h2
                  clear h2
                  go_wp2_with fail
                  go_meet
                  exact ⟨by rw [HT.out], rfl⟩
                have f2 : (e1 == 0) = true := by simpa using h2
                by_cases h3 : e5 = 0
                case neg =>
                  have HT := Lib.hid (show TB = false by rw [HTB.out]; exact decide_eq_false (fun h => h3 h.1.2.1))
                  have f3 : (e5 == 0) = false := by simpa using h3
                  clear h2 h3
                  go_wp2_with fail
                  go_meet
                  exact ⟨by rw [HT.out], rfl⟩
                have f3 : (e5 == 0) = true := by simpa using h3
                by_cases h4 : e6 = 0
                case neg =>
                  have HT := Lib.hid (show TB = false by rw [HTB.out]; exact decide_eq_false (fun h => h4 h.1.2.2))
                  have f4 : (e6 == 0) = false := by simpa using h4
                  clear h2 h3 h4
                  go_wp2_with fail
                  go_meet
                  exact ⟨by rw [HT.out], rfl⟩
                have f4 : (e6 == 0) = true := by simpa using h4
                have HT := Lib.hid (show TB = true by rw [HTB.out]; exact decide_eq_true ⟨⟨h2, h3, h4⟩, h1⟩)
                clear h2 h3 h4
                go_wp2_with fail
                go_meet
                exact ⟨by rw [HT.out], rfl⟩
              case rest =>
              obtain ⟨rfl, hw5⟩ := hcut
              obtain rfl : w5 = wc := hw5.symm
              clear hw5
              cases TB
              case false =>
                have hTB := of_decide_eq_false HTB.out.symm
                have HFD := Lib.hid (show frontD i E2 N2 (shD E1 N1 j) = ⟨e0, e1, e2, e3, e4, e5, e6, e7, e8, e9, n0, nt⟩ by rw [HFR.out, if_neg hTB])
                have HBQ := Lib.hid (HB.out.trans (HB5.out.mono hszr))
                clear hTB HFR
                obtain ⟨xs, hown, hxl, hxs⟩ := RowV.own (HR.out.below HB5.out (Nat.le_refl _))
                have HXL := Lib.hid hxl
                have HXS := Lib.hid hxs
                have hszq := HBQ.out.size
                clear hxl hxs
                go_upto_region 31 with fail
                have HRNf := Lib.hid (show w5.rangeAt kc 0 [.int .i64 e0, .int .i64 e1, .int .i64 e2, .int .i64 e3, .int .i64 e4, .int .i64 e5, .int .i64 e6, .int .i64 e7, .int .i64 e8, .int .i64 e9, .string n0, .string nt] from fun j v hj => by rw [Nat.zero_add]; exact (HK5).out.cell (by simpa using hj))
                refine wp_region_lit ?_
                refine cut_at 1 (fun R hR => ?_)
                have HRAsf := Lib.hid hR
                clear hR
                simp only [List.take_succ_cons, List.take_zero, List.cons_append, List.nil_append]
                go_wp2_with fail
                rw [HRAsf.out]
                simp only [List.drop_succ_cons, List.drop_zero]
                refine wpList_load_mid rfl 24 _ rfl kc 0 rfl _ _ HRNf.out Try.underlying24 rfl (by kernel_rfl) ?_
                simp only [Act.put, List.setIfInBounds_toArray, List.set_cons_zero, List.set_cons_succ]
                obtain ⟨ii, hii, hz0, hz1, hz2⟩ := info_parts HIS.out
                go_wp2_with (at_builtin; go_loud (refine wpList_append_own _ rfl _ _ 22 rfl (wz.heap.size) 24 ii _ 12 112 Try.underlying22 hii hz0 hz1 hz2 rfl (by decide) _ _ _ rfl (RowL.alloc hown _) ⟨w5.heap.size, 0, none⟩ 1 1 [.int .i64 e0, .int .i64 e1, .int .i64 e2, .int .i64 e3, .int .i64 e4, .int .i64 e5, .int .i64 e6, .int .i64 e7, .int .i64 e8, .int .i64 e9, .string n0, .string nt] rfl rfl ?k1f ?k2f ?k3f ?k4f ?k5f ?_))
                try (case k1f =>
                  intro j u hj
                  have e : Addr.add ⟨w5.heap.size, 0, none⟩ j = ⟨w5.heap.size, j, none⟩ := by simp [Addr.add]; omega
                  rw [e]
                  exact (Blk.new w5 _ _).cell (by simpa using hj))
                try (case k2f => intro u hu; simp at hu; rcases hu with rfl | rfl | rfl | rfl | rfl | rfl | rfl | rfl | rfl | rfl | rfl | rfl <;> rfl)
                try (case k3f => unfold maxLen; (try simp); (try omega))
                try (case k4f => (try simp); (try omega))
                try (case k5f => (try simp); (try omega))
                intro v6 w6 hown6 hgrow _
                clear hii hz0 hz1 hz2
                have HB6 := Lib.hid (Below.grown (B := wz.heap.size) (a := wz) (HBQ.out.alloc HBQ.out.size _) hgrow (by have := HBQ.out.size; simp; omega) (fun k hk => RowL.ge hown k hk))
                have HR6 := Lib.hid (RowV.push (V' := fun q => (frontD i E2 N2 (shD E1 N1 q)).V) hown6 HXL.out HXS.out (fun q hq => by show _ = some ((frontD i E2 N2 (shD E1 N1 j)).V q); rw [HFD.out]; exact ShD.V_get (⟨e0, e1, e2, e3, e4, e5, e6, e7, e8, e9, n0, nt⟩ : ShD) hq) (fun a ha q hq => rfl))
                clear hown hown6 hgrow
                go_wp2_with fail
                go_roundw
                case rel => exact ⟨j + 1, by go_num, by omega, HB6.out, HR6.out⟩
                case measure => simp [intOf]; omega
              case true =>
                have hTB := of_decide_eq_true HTB.out.symm
                obtain ⟨k, hk, hPKk⟩ : ∃ k, k < i ∧ PK = (k : Int) := by
                  rcases place_cases i E2 N2 n0 with ⟨h, _⟩ | ⟨k, hk, h, _⟩
                  · rw [← HPK.out] at h; omega
                  · exact ⟨k, hk, by rw [HPK.out, h]⟩
                have HFD0 := Lib.hid (show frontD i E2 N2 (shD E1 N1 j) = ⟨e0, e1, e2, E2 k 3, E2 k 4, E2 k 5, E2 k 6, E2 k 7, e8, e9, n0, nt⟩ by rw [HFR.out, if_pos hTB, hPKk]; rfl)
                have hk2 : (k : Int) < (i : Int) := by omega
                subst hPKk
                clear hTB HFR HPK HTB
                obtain ⟨b2, off2, hba2, hcellG2⟩ := (H2.out.below (Nat.le_refl _) (HBW.out.trans (HB5.out.mono HBW.out.size))) (by omega)
                obtain ⟨hci, hc10, hc11⟩ := hcellG2 k hk
                obtain ⟨m0, hm0⟩ : ∃ m, m = E2 k 0 := ⟨_, rfl⟩
                obtain ⟨m1, hm1⟩ : ∃ m, m = E2 k 1 := ⟨_, rfl⟩
                obtain ⟨m2, hm2⟩ : ∃ m, m = E2 k 2 := ⟨_, rfl⟩
                obtain ⟨m3, hm3⟩ : ∃ m, m = E2 k 3 := ⟨_, rfl⟩
                obtain ⟨m4, hm4⟩ : ∃ m, m = E2 k 4 := ⟨_, rfl⟩
                obtain ⟨m5, hm5⟩ : ∃ m, m = E2 k 5 := ⟨_, rfl⟩
                obtain ⟨m6, hm6⟩ : ∃ m, m = E2 k 6 := ⟨_, rfl⟩
                obtain ⟨m7, hm7⟩ : ∃ m, m = E2 k 7 := ⟨_, rfl⟩
                obtain ⟨m8, hm8⟩ : ∃ m, m = E2 k 8 := ⟨_, rfl⟩
                obtain ⟨m9, hm9⟩ : ∃ m, m = E2 k 9 := ⟨_, rfl⟩
                obtain ⟨mn, hmn⟩ : ∃ m, m = N2 k 0 := ⟨_, rfl⟩
                obtain ⟨mt, hmt⟩ : ∃ m, m = N2 k 1 := ⟨_, rfl⟩
                have d0 := hci 0 (by omega)
                rw [Nat.add_zero] at d0
                have d1 := hci 1 (by omega)
                have d2 := hci 2 (by omega)
                have d3 := hci 3 (by omega)
                have d4 := hci 4 (by omega)
                have d5 := hci 5 (by omega)
                have d6 := hci 6 (by omega)
                have d7 := hci 7 (by omega)
                have d8 := hci 8 (by omega)
                have d9 := hci 9 (by omega)
                rw [← hm0] at d0
                rw [← hm1] at d1
                rw [← hm2] at d2
                rw [← hm3] at d3
                rw [← hm4] at d4
                rw [← hm5] at d5
                rw [← hm6] at d6
                rw [← hm7] at d7
                rw [← hm8] at d8
                rw [← hm9] at d9
                rw [← hmn] at hc10
                rw [← hmt] at hc11
                have HFD := Lib.hid (show frontD i E2 N2 (shD E1 N1 j) = ⟨e0, e1, e2, m3, m4, m5, m6, m7, e8, e9, n0, nt⟩ by rw [HFD0.out, hm3, hm4, hm5, hm6, hm7])
                have zb := lt_of_cell d0
                simp only at zb
                clear hcellG2 hci hm0 hm1 hm2 hm3 hm4 hm5 hm6 hm7 hm8 hm9 hmn hmt HFD0
                subst hba2
                go_upto_region 30 with fail
                obtain ⟨wm, hwm⟩ : ∃ wm, wm = w5.alloc (Obj.cells #[.int .i64 m0, .int .i64 m1, .int .i64 m2, .int .i64 m3, .int .i64 m4, .int .i64 m5, .int .i64 m6, .int .i64 m7, .int .i64 m8, .int .i64 m9, .string mn, .string mt] 24) := ⟨_, rfl⟩
                obtain ⟨MK, hMK⟩ : ∃ MK : Array Value, MK = #[.int .i64 m0, .int .i64 m1, .int .i64 m2, .int .i64 m3, .int .i64 m4, .int .i64 m5, .int .i64 m6, .int .i64 m7, .int .i64 m8, .int .i64 m9, .string mn, .string mt] := ⟨_, rfl⟩
                have HMK := Lib.hid (show MK[3]? = some (.int .i64 m3) ∧ MK[4]? = some (.int .i64 m4) ∧ MK[5]? = some (.int .i64 m5) ∧ MK[6]? = some (.int .i64 m6) ∧ MK[7]? = some (.int .i64 m7) by rw [hMK]; exact ⟨rfl, rfl, rfl, rfl, rfl⟩)
                obtain ⟨km, hkm⟩ : ∃ km, km = w5.heap.size := ⟨_, rfl⟩
                have HKMNE := Lib.hid (show kc < km by rw [hkm]; exact HK5.out.lt)
                have HMM := Lib.hid (show Blk wm.drew km MK 24 ∧ Only kc wm wm.drew by rw [hwm, hMK, hkm]; exact ⟨(Blk.new _ _ _).drew, (Aside.refl _ _ _).drew⟩)
                have HKM := Lib.hid (show Blk wm.drew kc #[.int .i64 e0, .int .i64 e1, .int .i64 e2, .int .i64 e3, .int .i64 e4, .int .i64 e5, .int .i64 e6, .int .i64 e7, .int .i64 e8, .int .i64 e9, .string n0, .string nt] 24 by rw [hwm]; exact (HK5.out.alloc _).drew)
                have HBM := Lib.hid (show Below wr.heap.size wr wm by rw [hwm]; exact HB5.out.alloc HB5.out.size _)
                rw [← hwm, ← hkm]
                clear d0 d1 d2 d3 d4 d5 d6 d7 d8 d9 hc10 hc11 zb hwm hkm hMK
                refine wp_region_held_drew (S := fun w' => w'.cell? ⟨km, 3, none⟩ = some (.int .i64 m3) ∧ w'.cell? ⟨km, 4, none⟩ = some (.int .i64 m4) ∧ w'.cell? ⟨km, 5, none⟩ = some (.int .i64 m5) ∧ w'.cell? ⟨km, 6, none⟩ = some (.int .i64 m6) ∧ w'.cell? ⟨km, 7, none⟩ = some (.int .i64 m7)) (by kernel_rfl) (by exact ⟨HMM.out.1.cell HMK.out.1, HMM.out.1.cell HMK.out.2.1, HMM.out.1.cell HMK.out.2.2.1, HMM.out.1.cell HMK.out.2.2.2.1, HMM.out.1.cell HMK.out.2.2.2.2⟩) ?_
                intro hHeld
                refine takeD (i := 0) (oi := { dst := some 119, op := _, type := _, pos := _, after := _, guard := _ }) (d := some 119) (v := ?vve119) rfl rfl (by kernel_rfl) (by kernel_rfl) (by kernel_rfl) ?dde119 (by rfl) ?yye119 hHeld ?rre119
                case dde119 => exact fun _ _ _ h => h
                case yye119 => (intro wx hSw; obtain ⟨y0, y1, y2, y3, y4⟩ := hSw; go_simp; try (with_reducible rfl))
                try simp only [Act.put, List.setIfInBounds_toArray, List.set_cons_zero, List.set_cons_succ]
                refine takeD (i := 1) (oi := { dst := some 120, op := _, type := _, pos := _, after := _, guard := _ }) (d := some 120) (v := ?vve120) rfl rfl (by kernel_rfl) (by kernel_rfl) (by kernel_rfl) ?dde120 (by rfl) ?yye120 hHeld ?rre120
                case dde120 => exact fun _ _ _ h => h
                case yye120 => (intro wx hSw; obtain ⟨y0, y1, y2, y3, y4⟩ := hSw; go_simp; try (with_reducible rfl))
                try simp only [Act.put, List.setIfInBounds_toArray, List.set_cons_zero, List.set_cons_succ]
                refine takeD (i := 2) (oi := { dst := some 121, op := _, type := _, pos := _, after := _, guard := _ }) (d := some 121) (v := ?vve121) rfl rfl (by kernel_rfl) (by kernel_rfl) (by kernel_rfl) ?dde121 (by rfl) ?yye121 hHeld ?rre121
                case dde121 => exact fun _ _ _ h => h
                case yye121 => (intro wx hSw; obtain ⟨y0, y1, y2, y3, y4⟩ := hSw; go_simp; try (with_reducible rfl))
                try simp only [Act.put, List.setIfInBounds_toArray, List.set_cons_zero, List.set_cons_succ]
                refine takeD (i := 3) (oi := { dst := some 122, op := _, type := _, pos := _, after := _, guard := _ }) (d := some 122) (v := ?vve122) rfl rfl (by kernel_rfl) (by kernel_rfl) (by kernel_rfl) ?dde122 (by rfl) ?yye122 hHeld ?rre122
                case dde122 => exact fun _ _ _ h => h
                case yye122 => (intro wx hSw; obtain ⟨y0, y1, y2, y3, y4⟩ := hSw; go_simp; try (with_reducible rfl))
                try simp only [Act.put, List.setIfInBounds_toArray, List.set_cons_zero, List.set_cons_succ]
                refine takeD (i := 4) (oi := { dst := some 123, op := _, type := _, pos := _, after := _, guard := _ }) (d := some 123) (v := ?vve123) rfl rfl (by kernel_rfl) (by kernel_rfl) (by kernel_rfl) ?dde123 (by rfl) ?yye123 hHeld ?rre123
                case dde123 => exact fun _ _ _ h => h
                case yye123 => (intro wx hSw; obtain ⟨y0, y1, y2, y3, y4⟩ := hSw; go_simp; try (with_reducible rfl))
                try simp only [Act.put, List.setIfInBounds_toArray, List.set_cons_zero, List.set_cons_succ]
                refine takeD (i := 5) (oi := { dst := some 124, op := _, type := _, pos := _, after := _, guard := _ }) (d := some 124) (v := ?vve124) rfl rfl (by kernel_rfl) (by kernel_rfl) (by kernel_rfl) ?dde124 (by rfl) ?yye124 hHeld ?rre124
                case dde124 => exact fun _ _ _ h => h
                case yye124 => (intro wx hSw; obtain ⟨y0, y1, y2, y3, y4⟩ := hSw; go_simp; try (with_reducible rfl))
                try simp only [Act.put, List.setIfInBounds_toArray, List.set_cons_zero, List.set_cons_succ]
                refine takeD (i := 6) (oi := { dst := some 125, op := _, type := _, pos := _, after := _, guard := _ }) (d := some 125) (v := ?vve125) rfl rfl (by kernel_rfl) (by kernel_rfl) (by kernel_rfl) ?dde125 (by rfl) ?yye125 hHeld ?rre125
                case dde125 => exact fun _ _ _ h => h
                case yye125 => (intro wx hSw; obtain ⟨y0, y1, y2, y3, y4⟩ := hSw; go_simp; try (with_reducible rfl))
                try simp only [Act.put, List.setIfInBounds_toArray, List.set_cons_zero, List.set_cons_succ]
                refine takeD (i := 7) (oi := { dst := some 126, op := _, type := _, pos := _, after := _, guard := _ }) (d := some 126) (v := ?vve126) rfl rfl (by kernel_rfl) (by kernel_rfl) (by kernel_rfl) ?dde126 (by rfl) ?yye126 hHeld ?rre126
                case dde126 => exact fun _ _ _ h => h
                case yye126 => (intro wx hSw; obtain ⟨y0, y1, y2, y3, y4⟩ := hSw; go_simp; try (with_reducible rfl))
                try simp only [Act.put, List.setIfInBounds_toArray, List.set_cons_zero, List.set_cons_succ]
                refine takeD (i := 8) (oi := { dst := some 127, op := _, type := _, pos := _, after := _, guard := _ }) (d := some 127) (v := ?vve127) rfl rfl (by kernel_rfl) (by kernel_rfl) (by kernel_rfl) ?dde127 (by rfl) ?yye127 hHeld ?rre127
                case dde127 => exact fun _ _ _ h => h
                case yye127 => (intro wx hSw; obtain ⟨y0, y1, y2, y3, y4⟩ := hSw; go_simp; try (with_reducible rfl))
                try simp only [Act.put, List.setIfInBounds_toArray, List.set_cons_zero, List.set_cons_succ]
                refine takeD (i := 9) (oi := { dst := some 128, op := _, type := _, pos := _, after := _, guard := _ }) (d := some 128) (v := ?vve128) rfl rfl (by kernel_rfl) (by kernel_rfl) (by kernel_rfl) ?dde128 (by rfl) ?yye128 hHeld ?rre128
                case dde128 => exact fun _ _ _ h => h
                case yye128 => (intro wx hSw; obtain ⟨y0, y1, y2, y3, y4⟩ := hSw; go_simp; try (with_reducible rfl))
                try simp only [Act.put, List.setIfInBounds_toArray, List.set_cons_zero, List.set_cons_succ]
                refine takeD (i := 10) (oi := { dst := some 129, op := _, type := _, pos := _, after := _, guard := _ }) (d := some 129) (v := ?vve129) rfl rfl (by kernel_rfl) (by kernel_rfl) (by kernel_rfl) ?dde129 (by rfl) ?yye129 hHeld ?rre129
                case dde129 => exact fun _ _ _ h => h
                case yye129 => (intro wx hSw; obtain ⟨y0, y1, y2, y3, y4⟩ := hSw; go_simp; try (with_reducible rfl))
                try simp only [Act.put, List.setIfInBounds_toArray, List.set_cons_zero, List.set_cons_succ]
                obtain ⟨wd, hwd⟩ : ∃ wd, wd = wm.drew := ⟨_, rfl⟩
                rw [← hwd] at HKM HMM hHeld ⊢
                clear hwd
                refine wpAnyH_ready (rs := [11]) (by kernel_rfl) (by simp) ?_
                refine AllReadyH.cons (o := { dst := none, op := _, type := _, pos := _, after := _, guard := _ }) rfl (fun K hK => ?_) AllReadyH.nil
                have yoq3 : wd.cell? ⟨kc, 3, none⟩ = some (.int .i64 e3) := (HKM).out.cell (i := 3) rfl
                have foq3 := (HKM).out.frozen 3
                go_simp
                obtain ⟨x3, hx3⟩ : ∃ y : World, y = wd.setCell ⟨kc, 3, none⟩ (.int .i64 m3) := ⟨_, rfl⟩
                have HKX3 := Lib.hid (show Blk x3 kc #[.int .i64 e0, .int .i64 e1, .int .i64 e2, .int .i64 m3, .int .i64 e4, .int .i64 e5, .int .i64 e6, .int .i64 e7, .int .i64 e8, .int .i64 e9, .string n0, .string nt] 24 by rw [hx3]; exact (HKM).out.set 3 _)
                have HMX3 := Lib.hid (show Blk x3 km MK 24 ∧ Only kc wm x3 by rw [hx3]; exact ⟨(HMM).out.1.other (by have := HKMNE.out; simp; omega) _, (HMM).out.2.setR 3 _⟩)
                rw [← hx3]
                clear hx3 yoq3 foq3
                refine hK.out _ _ ⟨(HMX3).out.1.cell HMK.out.1, (HMX3).out.1.cell HMK.out.2.1, (HMX3).out.1.cell HMK.out.2.2.1, (HMX3).out.1.cell HMK.out.2.2.2.1, (HMX3).out.1.cell HMK.out.2.2.2.2⟩ (fun hHeldq3 => ?_)
                clear hK K
                try simp only [Act.put, List.setIfInBounds_toArray, List.set_cons_zero, List.set_cons_succ]
                refine takeD (i := 12) (oi := { dst := some 130, op := _, type := _, pos := _, after := _, guard := _ }) (d := some 130) (v := ?vvt3130) rfl rfl (by kernel_rfl) (by kernel_rfl) (by kernel_rfl) ?ddt3130 (by rfl) ?yyt3130 hHeldq3 ?rrt3130
                case ddt3130 => exact fun _ _ _ h => h
                case yyt3130 => (intro wx hSw; obtain ⟨y0, y1, y2, y3, y4⟩ := hSw; go_simp; try (with_reducible rfl))
                try simp only [Act.put, List.setIfInBounds_toArray, List.set_cons_zero, List.set_cons_succ]
                refine wpAnyH_ready (rs := [13]) (by kernel_rfl) (by simp) ?_
                refine AllReadyH.cons (o := { dst := none, op := _, type := _, pos := _, after := _, guard := _ }) rfl (fun K hK => ?_) AllReadyH.nil
                have yoq4 : x3.cell? ⟨kc, 4, none⟩ = some (.int .i64 e4) := (HKX3).out.cell (i := 4) rfl
                have foq4 := (HKX3).out.frozen 4
                go_simp
                obtain ⟨x4, hx4⟩ : ∃ y : World, y = x3.setCell ⟨kc, 4, none⟩ (.int .i64 m4) := ⟨_, rfl⟩
                have HKX4 := Lib.hid (show Blk x4 kc #[.int .i64 e0, .int .i64 e1, .int .i64 e2, .int .i64 m3, .int .i64 m4, .int .i64 e5, .int .i64 e6, .int .i64 e7, .int .i64 e8, .int .i64 e9, .string n0, .string nt] 24 by rw [hx4]; exact (HKX3).out.set 4 _)
                have HMX4 := Lib.hid (show Blk x4 km MK 24 ∧ Only kc wm x4 by rw [hx4]; exact ⟨(HMX3).out.1.other (by have := HKMNE.out; simp; omega) _, (HMX3).out.2.setR 4 _⟩)
                rw [← hx4]
                clear hx4 yoq4 foq4
                refine hK.out _ _ ⟨(HMX4).out.1.cell HMK.out.1, (HMX4).out.1.cell HMK.out.2.1, (HMX4).out.1.cell HMK.out.2.2.1, (HMX4).out.1.cell HMK.out.2.2.2.1, (HMX4).out.1.cell HMK.out.2.2.2.2⟩ (fun hHeldq4 => ?_)
                clear hK K
                try simp only [Act.put, List.setIfInBounds_toArray, List.set_cons_zero, List.set_cons_succ]
                refine takeD (i := 14) (oi := { dst := some 131, op := _, type := _, pos := _, after := _, guard := _ }) (d := some 131) (v := ?vvt4131) rfl rfl (by kernel_rfl) (by kernel_rfl) (by kernel_rfl) ?ddt4131 (by rfl) ?yyt4131 hHeldq4 ?rrt4131
                case ddt4131 => exact fun _ _ _ h => h
                case yyt4131 => (intro wx hSw; obtain ⟨y0, y1, y2, y3, y4⟩ := hSw; go_simp; try (with_reducible rfl))
                try simp only [Act.put, List.setIfInBounds_toArray, List.set_cons_zero, List.set_cons_succ]
                refine wpAnyH_ready (rs := [15]) (by kernel_rfl) (by simp) ?_
                refine AllReadyH.cons (o := { dst := none, op := _, type := _, pos := _, after := _, guard := _ }) rfl (fun K hK => ?_) AllReadyH.nil
                have yoq5 : x4.cell? ⟨kc, 5, none⟩ = some (.int .i64 e5) := (HKX4).out.cell (i := 5) rfl
                have foq5 := (HKX4).out.frozen 5
                go_simp
                obtain ⟨x5, hx5⟩ : ∃ y : World, y = x4.setCell ⟨kc, 5, none⟩ (.int .i64 m5) := ⟨_, rfl⟩
                have HKX5 := Lib.hid (show Blk x5 kc #[.int .i64 e0, .int .i64 e1, .int .i64 e2, .int .i64 m3, .int .i64 m4, .int .i64 m5, .int .i64 e6, .int .i64 e7, .int .i64 e8, .int .i64 e9, .string n0, .string nt] 24 by rw [hx5]; exact (HKX4).out.set 5 _)
                have HMX5 := Lib.hid (show Blk x5 km MK 24 ∧ Only kc wm x5 by rw [hx5]; exact ⟨(HMX4).out.1.other (by have := HKMNE.out; simp; omega) _, (HMX4).out.2.setR 5 _⟩)
                rw [← hx5]
                clear hx5 yoq5 foq5
                refine hK.out _ _ ⟨(HMX5).out.1.cell HMK.out.1, (HMX5).out.1.cell HMK.out.2.1, (HMX5).out.1.cell HMK.out.2.2.1, (HMX5).out.1.cell HMK.out.2.2.2.1, (HMX5).out.1.cell HMK.out.2.2.2.2⟩ (fun hHeldq5 => ?_)
                clear hK K
                try simp only [Act.put, List.setIfInBounds_toArray, List.set_cons_zero, List.set_cons_succ]
                refine takeD (i := 16) (oi := { dst := some 132, op := _, type := _, pos := _, after := _, guard := _ }) (d := some 132) (v := ?vvt5132) rfl rfl (by kernel_rfl) (by kernel_rfl) (by kernel_rfl) ?ddt5132 (by rfl) ?yyt5132 hHeldq5 ?rrt5132
                case ddt5132 => exact fun _ _ _ h => h
                case yyt5132 => (intro wx hSw; obtain ⟨y0, y1, y2, y3, y4⟩ := hSw; go_simp; try (with_reducible rfl))
                try simp only [Act.put, List.setIfInBounds_toArray, List.set_cons_zero, List.set_cons_succ]
                refine wpAnyH_ready (rs := [17]) (by kernel_rfl) (by simp) ?_
                refine AllReadyH.cons (o := { dst := none, op := _, type := _, pos := _, after := _, guard := _ }) rfl (fun K hK => ?_) AllReadyH.nil
                have yoq6 : x5.cell? ⟨kc, 6, none⟩ = some (.int .i64 e6) := (HKX5).out.cell (i := 6) rfl
                have foq6 := (HKX5).out.frozen 6
                go_simp
                obtain ⟨x6, hx6⟩ : ∃ y : World, y = x5.setCell ⟨kc, 6, none⟩ (.int .i64 m6) := ⟨_, rfl⟩
                have HKX6 := Lib.hid (show Blk x6 kc #[.int .i64 e0, .int .i64 e1, .int .i64 e2, .int .i64 m3, .int .i64 m4, .int .i64 m5, .int .i64 m6, .int .i64 e7, .int .i64 e8, .int .i64 e9, .string n0, .string nt] 24 by rw [hx6]; exact (HKX5).out.set 6 _)
                have HMX6 := Lib.hid (show Blk x6 km MK 24 ∧ Only kc wm x6 by rw [hx6]; exact ⟨(HMX5).out.1.other (by have := HKMNE.out; simp; omega) _, (HMX5).out.2.setR 6 _⟩)
                rw [← hx6]
                clear hx6 yoq6 foq6
                refine hK.out _ _ ⟨(HMX6).out.1.cell HMK.out.1, (HMX6).out.1.cell HMK.out.2.1, (HMX6).out.1.cell HMK.out.2.2.1, (HMX6).out.1.cell HMK.out.2.2.2.1, (HMX6).out.1.cell HMK.out.2.2.2.2⟩ (fun hHeldq6 => ?_)
                clear hK K
                try simp only [Act.put, List.setIfInBounds_toArray, List.set_cons_zero, List.set_cons_succ]
                refine takeD (i := 18) (oi := { dst := some 133, op := _, type := _, pos := _, after := _, guard := _ }) (d := some 133) (v := ?vvt6133) rfl rfl (by kernel_rfl) (by kernel_rfl) (by kernel_rfl) ?ddt6133 (by rfl) ?yyt6133 hHeldq6 ?rrt6133
                case ddt6133 => exact fun _ _ _ h => h
                case yyt6133 => (intro wx hSw; obtain ⟨y0, y1, y2, y3, y4⟩ := hSw; go_simp; try (with_reducible rfl))
                try simp only [Act.put, List.setIfInBounds_toArray, List.set_cons_zero, List.set_cons_succ]
                refine wpAnyH_ready (rs := [19]) (by kernel_rfl) (by simp) ?_
                refine AllReadyH.cons (o := { dst := none, op := _, type := _, pos := _, after := _, guard := _ }) rfl (fun K hK => ?_) AllReadyH.nil
                have yoq7 : x6.cell? ⟨kc, 7, none⟩ = some (.int .i64 e7) := (HKX6).out.cell (i := 7) rfl
                have foq7 := (HKX6).out.frozen 7
                go_simp
                obtain ⟨x7, hx7⟩ : ∃ y : World, y = x6.setCell ⟨kc, 7, none⟩ (.int .i64 m7) := ⟨_, rfl⟩
                have HKX7 := Lib.hid (show Blk x7 kc #[.int .i64 e0, .int .i64 e1, .int .i64 e2, .int .i64 m3, .int .i64 m4, .int .i64 m5, .int .i64 m6, .int .i64 m7, .int .i64 e8, .int .i64 e9, .string n0, .string nt] 24 by rw [hx7]; exact (HKX6).out.set 7 _)
                have HMX7 := Lib.hid (show Blk x7 km MK 24 ∧ Only kc wm x7 by rw [hx7]; exact ⟨(HMX6).out.1.other (by have := HKMNE.out; simp; omega) _, (HMX6).out.2.setR 7 _⟩)
                rw [← hx7]
                clear hx7 yoq7 foq7
                refine hK.out _ _ ⟨(HMX7).out.1.cell HMK.out.1, (HMX7).out.1.cell HMK.out.2.1, (HMX7).out.1.cell HMK.out.2.2.1, (HMX7).out.1.cell HMK.out.2.2.2.1, (HMX7).out.1.cell HMK.out.2.2.2.2⟩ (fun hHeldq7 => ?_)
                clear hK K
                try simp only [Act.put, List.setIfInBounds_toArray, List.set_cons_zero, List.set_cons_succ]
                refine wpAnyH_done (by kernel_rfl) ?_ _
                have HBQ := Lib.hid (HB.out.trans ((HBM.out.trans ((Only.to_below HMX7.out.2 (by have := HBM.out.size; omega) hkc1 : Below wr.heap.size wm x7))).mono hszr))
                have HRX := Lib.hid (HR.out.below (HBM.out.trans (Only.to_below HMX7.out.2 (by have := HBM.out.size; omega) hkc1 : Below wr.heap.size wm x7)) (Nat.le_refl _))
                obtain ⟨xs, hown, hxl, hxs⟩ := RowV.own HRX.out
                have HXL := Lib.hid hxl
                have HXS := Lib.hid hxs
                have hszq := HBQ.out.size
                clear hxl hxs
                go_upto_region 31 with fail
                have HRNg := Lib.hid (show x7.rangeAt kc 0 [.int .i64 e0, .int .i64 e1, .int .i64 e2, .int .i64 m3, .int .i64 m4, .int .i64 m5, .int .i64 m6, .int .i64 m7, .int .i64 e8, .int .i64 e9, .string n0, .string nt] from fun j v hj => by rw [Nat.zero_add]; exact (HKX7).out.cell (by simpa using hj))
                refine wp_region_lit ?_
                refine cut_at 1 (fun R hR => ?_)
                have HRAsg := Lib.hid hR
                clear hR
                simp only [List.take_succ_cons, List.take_zero, List.cons_append, List.nil_append]
                go_wp2_with fail
                rw [HRAsg.out]
                simp only [List.drop_succ_cons, List.drop_zero]
                refine wpList_load_mid rfl 24 _ rfl kc 0 rfl _ _ HRNg.out Try.underlying24 rfl (by kernel_rfl) ?_
                simp only [Act.put, List.setIfInBounds_toArray, List.set_cons_zero, List.set_cons_succ]
                obtain ⟨ii, hii, hz0, hz1, hz2⟩ := info_parts HIS.out
                go_wp2_with (at_builtin; go_loud (refine wpList_append_own _ rfl _ _ 22 rfl (wz.heap.size) 24 ii _ 12 112 Try.underlying22 hii hz0 hz1 hz2 rfl (by decide) _ _ _ rfl (RowL.alloc hown _) ⟨x7.heap.size, 0, none⟩ 1 1 [.int .i64 e0, .int .i64 e1, .int .i64 e2, .int .i64 m3, .int .i64 m4, .int .i64 m5, .int .i64 m6, .int .i64 m7, .int .i64 e8, .int .i64 e9, .string n0, .string nt] rfl rfl ?k1g ?k2g ?k3g ?k4g ?k5g ?_))
                try (case k1g =>
                  intro j u hj
                  have e : Addr.add ⟨x7.heap.size, 0, none⟩ j = ⟨x7.heap.size, j, none⟩ := by simp [Addr.add]; omega
                  rw [e]
                  exact (Blk.new x7 _ _).cell (by simpa using hj))
                try (case k2g => intro u hu; simp at hu; rcases hu with rfl | rfl | rfl | rfl | rfl | rfl | rfl | rfl | rfl | rfl | rfl | rfl <;> rfl)
                try (case k3g => unfold maxLen; (try simp); (try omega))
                try (case k4g => (try simp); (try omega))
                try (case k5g => (try simp); (try omega))
                intro v6 w6 hown6 hgrow _
                clear hii hz0 hz1 hz2
                have HB6 := Lib.hid (Below.grown (B := wz.heap.size) (a := wz) (HBQ.out.alloc HBQ.out.size _) hgrow (by have := HBQ.out.size; simp; omega) (fun k hk => RowL.ge hown k hk))
                have HR6 := Lib.hid (RowV.push (V' := fun q => (frontD i E2 N2 (shD E1 N1 q)).V) hown6 HXL.out HXS.out (fun q hq => by show _ = some ((frontD i E2 N2 (shD E1 N1 j)).V q); rw [HFD.out]; exact ShD.V_get (⟨e0, e1, e2, m3, m4, m5, m6, m7, e8, e9, n0, nt⟩ : ShD) hq) (fun a ha q hq => rfl))
                clear hown hown6 hgrow
                go_wp2_with fail
                go_roundw
                case rel => exact ⟨j + 1, by go_num, by omega, HB6.out, HR6.out⟩
                case measure => simp [intOf]; omega
            · obtain rfl : n1 = j := by omega
              have hnj : ¬ (n1 : Int) < (n1 : Int) := by omega
              have HP1 := Lib.hid (show RowV wr w.heap.size 24 12 (.slice av bn cv) (backL E2 N2 i).length (fun q => (cutX (goneK E2 N2 i) ((backL E2 N2 i).getD q default)).V) from by
                rw [← HBLE.out, ← HBN.out]
                exact (HBZ.out.row.below HB.out (Nat.le_refl _)).mono (by have := HBZ.out.low; omega))
              have HP2 := Lib.hid (HR.out.mono (base' := w.heap.size) HBZ.out.below.size)
              go_wp2_with fail
              go_ret3
              exact ⟨_, _, rfl, HP1.out, HP2.out, HBW.out⟩
end Go.Proofs.Ytabnohphgegflaa.MS
