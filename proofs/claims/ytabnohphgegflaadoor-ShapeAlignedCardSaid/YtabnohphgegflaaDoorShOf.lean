

/-
  CornersOf.
-/
import Derived.Test.YtabnohphgegflaaDoorShCornP
import Derived.Test.YtabnohphgegflaaDoorShFind
import Derived.Test.YtabnohphgegflaaDoorShErrPlain
import Derived.Test.YtabnohphgegflaaDoorUntil
namespace Go.Law.Sh
open Go.RowKit Go.Law
/-- a row of pairs, cell by cell -/
def rowP (Q : Nat → Int × Int) : Nat → Int := fun m => if m % 2 = 0 then (Q (m / 2)).1 else (Q (m / 2)).2
theorem rowP_fst (Q : Nat → Int × Int) (i : Nat) : rowP Q (i * 2) = (Q i).1 := by
  unfold rowP
  rw [if_pos (by omega), show i * 2 / 2 = i by omega]
theorem rowP_snd (Q : Nat → Int × Int) (i : Nat) : rowP Q (i * 2 + 1) = (Q i).2 := by
  unfold rowP
  rw [if_neg (by omega), show (i * 2 + 1) / 2 = i by omega]
def updQ (Q : Nat → Int × Int) (i : Nat) (p : Int × Int) : Nat → Int × Int := fun j => if j = i then p else Q j
theorem updQ_at (Q : Nat → Int × Int) (i : Nat) (p : Int × Int) : updQ Q i p i = p := by unfold updQ; rw [if_pos rfl]
theorem updQ_ne {Q : Nat → Int × Int} {i j : Nat} {p : Int × Int} (h : j ≠ i) : updQ Q i p j = Q j := by unfold updQ; rw [if_neg h]
/-- n pairs in a block of the call's own -/
def OwnP (w : World) (e : TypeId) (g n : Nat) (Q : Nat → Int × Int) : Prop := OwnF w e g (n * 2) (rowP Q)
theorem OwnP.fst {w : World} {e : TypeId} {g n : Nat} {Q : Nat → Int × Int} (h : OwnP w e g n Q) {i : Nat} (hi : i < n) : w.cell? ⟨g, i * 2, none⟩ = some (.int .i64 (Q i).1) := by
  rw [← rowP_fst Q i]; exact OwnF.cell h (by omega)
theorem OwnP.snd {w : World} {e : TypeId} {g n : Nat} {Q : Nat → Int × Int} (h : OwnP w e g n Q) {i : Nat} (hi : i < n) : w.cell? ⟨g, i * 2 + 1, none⟩ = some (.int .i64 (Q i).2) := by
  rw [← rowP_snd Q i]; exact OwnF.cell h (by omega)
theorem OwnP.set {w : World} {e : TypeId} {g n : Nat} {Q : Nat → Int × Int} (h : OwnP w e g n Q) (i : Nat) (X Y : Int) : OwnP ((w.setCell ⟨g, i * 2, none⟩ (.int .i64 X)).setCell ⟨g, i * 2 + 1, none⟩ (.int .i64 Y)) e g n (updQ Q i (X, Y)) := by
  refine OwnF.congr ((OwnF.set h (i * 2) X).set (i * 2 + 1) Y) (fun m _ => ?_)
  unfold upd rowP updQ
  by_cases h1 : m = i * 2 + 1
  · subst h1
    rw [if_pos rfl, if_neg (by omega), if_pos (by omega)]
  · rw [if_neg h1]
    by_cases h2 : m = i * 2
    · subst h2
      rw [if_pos rfl, if_pos (by omega), if_pos (by omega)]
    · rw [if_neg h2, if_neg (show ¬ m / 2 = i by omega)]
theorem OwnP.congr {w : World} {e : TypeId} {g n : Nat} {Q Q' : Nat → Int × Int} (h : OwnP w e g n Q) (he : ∀ i, i < n → Q i = Q' i) : OwnP w e g n Q' := by
  refine OwnF.congr h (fun m hm => ?_)
  unfold rowP
  rw [he _ (by omega)]
theorem OwnP.new {w : World} {e : TypeId} (a b c d p q r s : Int) : OwnP (w.alloc (.cells #[.int .i64 a, .int .i64 b, .int .i64 c, .int .i64 d, .int .i64 p, .int .i64 q, .int .i64 r, .int .i64 s] e)) e w.heap.size 4 (fun i => match i with | 0 => (a, b) | 1 => (c, d) | 2 => (p, q) | _ => (r, s)) := by
  refine OwnF.new e _ 8 _ (Nat.le_refl _) (fun m hm => ?_)
  obtain rfl | rfl | rfl | rfl | rfl | rfl | rfl | rfl : m = 0 ∨ m = 1 ∨ m = 2 ∨ m = 3 ∨ m = 4 ∨ m = 5 ∨ m = 6 ∨ m = 7 := by omega
  all_goals rfl
end Go.Law.Sh
namespace Go.Proofs.YtabnohphgegflaaDoor.ShT
open Go.RowKit Go.Law Go.Law.Sh
set_option linter.unusedVariables false
set_option linter.unusedSimpArgs false
set_option maxRecDepth 100000
def OfPost (w : World) (P : Nat → Int × Int) (e : Ending) (w' : World) : Prop :=
  ∃ g, e = .returned (.slice (some ⟨g, 0, none⟩) 4 4) ∧ OwnP w' 87 g 4 P ∧ w.heap.size ≤ g ∧ Below w.heap.size w w'
/-- the shape and the point of a row, cell by cell -/
def SO (q g i : Nat) (x y e0 e1 e2 e3 e4 e5 e6 e7 e8 e9 : Int) (n0 n1 : ByteArray) (w : World) : Prop :=
  w.cell? ⟨g, i * 2, none⟩ = some (.int .i64 x) ∧ w.cell? ⟨g, i * 2 + 1, none⟩ = some (.int .i64 y) ∧ w.cell? ⟨q, 0, none⟩ = some (.int .i64 e0) ∧ w.cell? ⟨q, 1, none⟩ = some (.int .i64 e1) ∧ w.cell? ⟨q, 2, none⟩ = some (.int .i64 e2) ∧ w.cell? ⟨q, 3, none⟩ = some (.int .i64 e3) ∧ w.cell? ⟨q, 4, none⟩ = some (.int .i64 e4) ∧ w.cell? ⟨q, 5, none⟩ = some (.int .i64 e5) ∧ w.cell? ⟨q, 6, none⟩ = some (.int .i64 e6) ∧ w.cell? ⟨q, 7, none⟩ = some (.int .i64 e7) ∧ w.cell? ⟨q, 8, none⟩ = some (.int .i64 e8) ∧ w.cell? ⟨q, 9, none⟩ = some (.int .i64 e9) ∧ w.cell? ⟨q, 10, none⟩ = some (.string n0) ∧ w.cell? ⟨q, 11, none⟩ = some (.string n1)
theorem SO.of {q g i n : Nat} {Q : Nat → Int × Int} {x y e0 e1 e2 e3 e4 e5 e6 e7 e8 e9 : Int} {n0 n1 : ByteArray} {w : World} {T U : TypeId} (ho : OwnP w T g n Q) (hi : i < n) (hQ : Q i = (x, y))
    (hb : Blk w q #[.int .i64 e0, .int .i64 e1, .int .i64 e2, .int .i64 e3, .int .i64 e4, .int .i64 e5, .int .i64 e6, .int .i64 e7, .int .i64 e8, .int .i64 e9, .string n0, .string n1] U) : SO q g i x y e0 e1 e2 e3 e4 e5 e6 e7 e8 e9 n0 n1 w := by
  have h1 := ho.fst hi
  have h2 := ho.snd hi
  rw [hQ] at h1 h2
  exact ⟨h1, h2, hb.cell (i := 0) rfl, hb.cell (i := 1) rfl, hb.cell (i := 2) rfl, hb.cell (i := 3) rfl, hb.cell (i := 4) rfl, hb.cell (i := 5) rfl, hb.cell (i := 6) rfl, hb.cell (i := 7) rfl, hb.cell (i := 8) rfl, hb.cell (i := 9) rfl, hb.cell (i := 10) rfl, hb.cell (i := 11) rfl⟩
set_option maxHeartbeats 4000000 in
theorem cornersOf_any (n k : Nat) (E : Nat → Nat → Int) (N : Nat → Nat → ByteArray) (a : Option Addr) (c : Nat) (w : World) (ha : ShF w a n E N) (hn : n ≤ 1000) (hk : k < n) (hall : ∀ j, j < n → Right E j) (ht : Arr w 6) :
    Calls Tryd.prog 57 #[.slice a n c, .int .i64 k] w (OfPost w (cornP n E k)) := by
  have HA := Lib.hid ha
  have HT := Lib.hid ht
  have HALL := Lib.hid hall
  have HNX := Lib.hid (Par.next hall hk)
  have hbx := (hall k hk).2.2.1
  unfold boxS at hbx
  obtain ⟨⟨r1, r2⟩, ⟨r3, r4⟩, ⟨r5, r6⟩, ⟨r7, r8⟩, ⟨r9, r10⟩⟩ := hbx
  obtain ⟨P, hP⟩ : ∃ P, P = cornP n E k := ⟨_, rfl⟩
  rw [← hP]
  have HP := Lib.hid hP
  clear ht hall hP
  obtain ⟨b, off, rfl, hcellG⟩ := ha (by omega)
  have hcell := hcellG k hk
  clear hcellG ha
  obtain ⟨hci, hc10, hc11⟩ := hcell
  have d0 := hci 0 (by omega)
  rw [Nat.add_zero] at d0
  have d1 := hci 1 (by omega)
  have d2 := hci 2 (by omega)
  have d3 := hci 3 (by omega)
  have d4 := hci 4 (by omega)
  have d5 := hci 5 (by omega)
  have d6 := hci 6 (by omega)
  have d7 := hci 7 (by omega)
  have d8 := hci 8 (by omega)
  have d9 := hci 9 (by omega)
  have zb := lt_of_cell d0
  simp only at zb
  clear hci
  obtain ⟨e0, he0⟩ : ∃ e, e = E k 0 := ⟨_, rfl⟩
  obtain ⟨e1, he1⟩ : ∃ e, e = E k 1 := ⟨_, rfl⟩
  obtain ⟨e2, he2⟩ : ∃ e, e = E k 2 := ⟨_, rfl⟩
  obtain ⟨e3, he3⟩ : ∃ e, e = E k 3 := ⟨_, rfl⟩
  obtain ⟨e4, he4⟩ : ∃ e, e = E k 4 := ⟨_, rfl⟩
  obtain ⟨e5, he5⟩ : ∃ e, e = E k 5 := ⟨_, rfl⟩
  obtain ⟨e6, he6⟩ : ∃ e, e = E k 6 := ⟨_, rfl⟩
  obtain ⟨e7, he7⟩ : ∃ e, e = E k 7 := ⟨_, rfl⟩
  obtain ⟨e8, he8⟩ : ∃ e, e = E k 8 := ⟨_, rfl⟩
  obtain ⟨e9, he9⟩ : ∃ e, e = E k 9 := ⟨_, rfl⟩
  obtain ⟨n0, hn0⟩ : ∃ e, e = N k 0 := ⟨_, rfl⟩
  obtain ⟨n1, hn1⟩ : ∃ e, e = N k 1 := ⟨_, rfl⟩
  rw [← he0] at d0
  rw [← he1] at d1
  rw [← he2] at d2
  rw [← he3] at d3
  rw [← he4] at d4
  rw [← he5] at d5
  rw [← he6] at d6
  rw [← he7] at d7
  rw [← he8] at d8
  rw [← he9] at d9
  rw [← hn0] at hc10
  rw [← hn1] at hc11
  have HE0 := Lib.hid he0
  have HE1 := Lib.hid he1
  have HE2 := Lib.hid he2
  have HE3 := Lib.hid he3
  have HE4 := Lib.hid he4
  have HE5 := Lib.hid he5
  have HE6 := Lib.hid he6
  have HE7 := Lib.hid he7
  have HE8 := Lib.hid he8
  have HE9 := Lib.hid he9
  have HN0 := Lib.hid hn0
  have HN1 := Lib.hid hn1
  clear he0 he1 he2 he3 he4 he5 he6 he7 he8 he9 hn0 hn1
  rw [← HE3.out] at r1 r2
  rw [← HE4.out] at r3 r4
  rw [← HE5.out] at r5 r6
  rw [← HE6.out] at r7 r8
  rw [← HE7.out] at r9 r10
  go_enter Tryd.func57, Tryd.ntmps57
  go_wp2_with fail
  obtain ⟨w0, hw0⟩ : ∃ w0, w0 = (w.alloc (Obj.cells #[.int .i64 e0, .int .i64 e1, .int .i64 e2, .int .i64 e3, .int .i64 e4, .int .i64 e5, .int .i64 e6, .int .i64 e7, .int .i64 e8, .int .i64 e9, .string n0, .string n1] 30)).alloc (Obj.cells #[.int .i64 e3, .int .i64 e4, .int .i64 (e3 + e5), .int .i64 e4, .int .i64 (e3 + e5), .int .i64 (e4 + e6), .int .i64 e3, .int .i64 (e4 + e6)] 87) := ⟨_, rfl⟩
  have b0 : Blk w0 w.heap.size #[.int .i64 e0, .int .i64 e1, .int .i64 e2, .int .i64 e3, .int .i64 e4, .int .i64 e5, .int .i64 e6, .int .i64 e7, .int .i64 e8, .int .i64 e9, .string n0, .string n1] 30 := by rw [hw0]; exact (Blk.new _ _ _).alloc _
  have b1 : OwnP w0 87 (w.heap.size + 1) 4 (fun j => (cornX (E k) j, cornY (E k) j)) := by
    have h := OwnP.new (w := w.alloc (Obj.cells #[.int .i64 e0, .int .i64 e1, .int .i64 e2, .int .i64 e3, .int .i64 e4, .int .i64 e5, .int .i64 e6, .int .i64 e7, .int .i64 e8, .int .i64 e9, .string n0, .string n1] 30)) (e := 87) e3 e4 (e3 + e5) e4 (e3 + e5) (e4 + e6) e3 (e4 + e6)
    rw [World.size_alloc] at h
    rw [hw0]
    refine h.congr (fun i hi => ?_)
    obtain rfl | rfl | rfl | rfl : i = 0 ∨ i = 1 ∨ i = 2 ∨ i = 3 := by omega
    all_goals (rw [HE3.out, HE4.out]; try rw [HE5.out]; try rw [HE6.out]) <;> rfl
  have hbw : Below w.heap.size w w0 := by rw [hw0]; exact ((Below.refl _ _).alloc (Nat.le_refl _) _).alloc (by simp) _
  rw [← hw0]
  have HB0 := Lib.hid b0
  have HB1 := Lib.hid b1
  have HBW := Lib.hid hbw
  clear hw0 b0 b1 hbw
  obtain ⟨g, hg⟩ : ∃ g, g = w.heap.size + 1 := ⟨_, rfl⟩
  rw [← hg] at HB1 ⊢
  have hgl : w.heap.size < g := by omega
  clear hg
  clear d0 d1 d2 d3 d4 d5 d6 d7 d8 d9 hc10 hc11
  go_loopw [49] (fun ix wr => ∃ i : Nat, ix = .int .i64 i ∧ i ≤ 4 ∧ Blk wr w.heap.size #[.int .i64 e0, .int .i64 e1, .int .i64 e2, .int .i64 e3, .int .i64 e4, .int .i64 e5, .int .i64 e6, .int .i64 e7, .int .i64 e8, .int .i64 e9, .string n0, .string n1] 30 ∧ (∃ Q, OwnP wr 87 g 4 Q ∧ (∀ j, j < i → Q j = P j) ∧ (∀ j, i ≤ j → j < 4 → Q j = (cornX (E k) j, cornY (E k) j))) ∧ Below w.heap.size w wr) (fun ix _ => 4 - (intOf ix).toNat)
  case atStart => exact ⟨0, rfl, by omega, HB0.out, ⟨_, HB1.out, fun j hj => by omega, fun j _ _ => rfl⟩, HBW.out⟩
  case round =>
    obtain ⟨i, rfl, hi, h0, ⟨Q, h1, hQ1, hQ2⟩, hbel⟩ := hrel
    have H0 := Lib.hid h0
    have H1 := Lib.hid h1
    have HQ1 := Lib.hid hQ1
    have y0 := h0.lt
    have y1 := OwnF.lt h1
    have hsz := hbel.size
    clear HB0 HB1 HBW hQ1
    by_cases hi4 : i < 4
    · have HQ2 := Lib.hid hQ2
      obtain ⟨x, hx⟩ : ∃ x, x = cornX (E k) i := ⟨_, rfl⟩
      obtain ⟨y, hy⟩ : ∃ y, y = cornY (E k) i := ⟨_, rfl⟩
      have hxy : Q i = (x, y) := by rw [hQ2 i (Nat.le_refl _) hi4, hx, hy]
      have HX := Lib.hid hx
      have HY := Lib.hid hy
      have HXY := Lib.hid hxy
      have hSO : SO w.heap.size g i x y e0 e1 e2 e3 e4 e5 e6 e7 e8 e9 n0 n1 wr := SO.of h1 hi4 hxy h0
      clear hx hy hxy hQ2 h0 h1
      go_wp2_with fail
      refine wp_region_until 12 (SO w.heap.size g i x y e0 e1 e2 e3 e4 e5 e6 e7 e8 e9 n0 n1) (by kernel_rfl) hSO ?_
      intro hHeld
      refine moveU (i := 0) (oi := { dst := some 52, op := _, type := _, pos := _, after := _, guard := _ }) (d := some 52) (v := ?vva52) rfl rfl (by kernel_rfl) (by kernel_rfl) (by kernel_rfl) (by rfl) ?dda52 (by rfl) ?yya52 hHeld ?rra52
      case dda52 => first | exact fun _ _ _ h => h | exact fun _ _ _ h => HQ.out _ _ _ _ (by rfl) h
      case yya52 => (intro wx; go_simp; try (with_reducible rfl))
      clear hHeld; intro hHeld
      try simp only [Act.put, List.setIfInBounds_toArray, List.set_cons_zero, List.set_cons_succ]
      refine moveU (i := 1) (oi := { dst := some 53, op := _, type := _, pos := _, after := _, guard := _ }) (d := some 53) (v := ?vva53) rfl rfl (by kernel_rfl) (by kernel_rfl) (by kernel_rfl) (by rfl) ?dda53 (by rfl) ?yya53 hHeld ?rra53
      case dda53 => first | exact fun _ _ _ h => h | exact fun _ _ _ h => HQ.out _ _ _ _ (by rfl) h
      case yya53 => (intro wx; go_simp; try (with_reducible rfl))
      clear hHeld; intro hHeld
      try simp only [Act.put, List.setIfInBounds_toArray, List.set_cons_zero, List.set_cons_succ]
      refine moveU (i := 2) (oi := { dst := some 54, op := _, type := _, pos := _, after := _, guard := _ }) (d := some 54) (v := ?vva54) rfl rfl (by kernel_rfl) (by kernel_rfl) (by kernel_rfl) (by rfl) ?dda54 (by rfl) ?yya54 hHeld ?rra54
      case dda54 => first | exact fun _ _ _ h => h | exact fun _ _ _ h => HQ.out _ _ _ _ (by rfl) h
      case yya54 => (intro wx; go_simp; try (with_reducible rfl))
      clear hHeld; intro hHeld
      try simp only [Act.put, List.setIfInBounds_toArray, List.set_cons_zero, List.set_cons_succ]
      refine moveU (i := 3) (oi := { dst := some 55, op := _, type := _, pos := _, after := _, guard := _ }) (d := some 55) (v := ?vva55) rfl rfl (by kernel_rfl) (by kernel_rfl) (by kernel_rfl) (by rfl) ?dda55 (by rfl) ?yya55 hHeld ?rra55
      case dda55 => first | exact fun _ _ _ h => h | exact fun _ _ _ h => HQ.out _ _ _ _ (by rfl) h
      case yya55 => (intro wx; go_simp; try (with_reducible rfl))
      clear hHeld; intro hHeld
      try simp only [Act.put, List.setIfInBounds_toArray, List.set_cons_zero, List.set_cons_succ]
      refine moveU (i := 4) (oi := { dst := some 56, op := _, type := _, pos := _, after := _, guard := _ }) (d := some 56) (v := ?vva56) rfl rfl (by kernel_rfl) (by kernel_rfl) (by kernel_rfl) (by rfl) ?dda56 (by rfl) ?yya56 hHeld ?rra56
      case dda56 => first | exact fun _ _ _ h => h | exact fun _ _ _ h => HQ.out _ _ _ _ (by rfl) h
      case yya56 => (intro wx; go_simp; try (with_reducible rfl))
      clear hHeld; intro hHeld
      try simp only [Act.put, List.setIfInBounds_toArray, List.set_cons_zero, List.set_cons_succ]
      refine takeU [10,12] (i := 5) (oi := { dst := some 57, op := _, type := _, pos := _, after := _, guard := _ }) (d := some 57) (v := ?vva57) rfl rfl (by kernel_rfl) (by kernel_rfl) (by kernel_rfl) (by kernel_rfl) ?dda57 (by rfl) ?yya57 hHeld ?rra57
      case dda57 => first | exact fun _ _ _ h => h | exact fun _ _ _ h => HQ.out _ _ _ _ (by rfl) h
      case yya57 => (intro wx hSw; obtain ⟨y0, y1, y2, y3, y4, y5, y6, y7, y8, y9, y10, y11, y12, y13⟩ := hSw; go_simp; try (with_reducible rfl))
      clear hHeld; intro hHeld
      try simp only [Act.put, List.setIfInBounds_toArray, List.set_cons_zero, List.set_cons_succ]
      refine takeU [7,10,12] (i := 6) (oi := { dst := some 58, op := _, type := _, pos := _, after := _, guard := _ }) (d := some 58) (v := ?vva58) rfl rfl (by kernel_rfl) (by kernel_rfl) (by kernel_rfl) (by kernel_rfl) ?dda58 (by rfl) ?yya58 hHeld ?rra58
      case dda58 => first | exact fun _ _ _ h => h | exact fun _ _ _ h => HQ.out _ _ _ _ (by rfl) h
      case yya58 => (intro wx hSw; obtain ⟨y0, y1, y2, y3, y4, y5, y6, y7, y8, y9, y10, y11, y12, y13⟩ := hSw; go_simp; try (with_reducible rfl))
      clear hHeld; intro hHeld
      try simp only [Act.put, List.setIfInBounds_toArray, List.set_cons_zero, List.set_cons_succ]
      refine moveU (i := 8) (oi := { dst := some 60, op := _, type := _, pos := _, after := _, guard := _ }) (d := some 60) (v := ?vva60) rfl rfl (by kernel_rfl) (by kernel_rfl) (by kernel_rfl) (by rfl) ?dda60 (by rfl) ?yya60 hHeld ?rra60
      case dda60 => first | exact fun _ _ _ h => h | exact fun _ _ _ h => HQ.out _ _ _ _ (by rfl) h
      case yya60 => (intro wx; go_simp; try (with_reducible rfl))
      clear hHeld; intro hHeld
      try simp only [Act.put, List.setIfInBounds_toArray, List.set_cons_zero, List.set_cons_succ]
      refine takeU [10,12] (i := 9) (oi := { dst := some 61, op := _, type := _, pos := _, after := _, guard := _ }) (d := some 61) (v := ?vva61) rfl rfl (by kernel_rfl) (by kernel_rfl) (by kernel_rfl) (by kernel_rfl) ?dda61 (by rfl) ?yya61 hHeld ?rra61
      case dda61 => first | exact fun _ _ _ h => h | exact fun _ _ _ h => HQ.out _ _ _ _ (by rfl) h
      case yya61 => (intro wx hSw; obtain ⟨y0, y1, y2, y3, y4, y5, y6, y7, y8, y9, y10, y11, y12, y13⟩ := hSw; go_simp; try (with_reducible rfl))
      clear hHeld; intro hHeld
      try simp only [Act.put, List.setIfInBounds_toArray, List.set_cons_zero, List.set_cons_succ]
      refine wpAnyU_ready (rs := [7]) (by kernel_rfl) (by simp) ?_
      refine AllReadyU.cons (o := { dst := some 59, op := _, type := _, pos := _, after := _, guard := _ }) rfl (fun K hK => ?_) AllReadyU.nil
      go_simp
      refine (middle_any _ _ _ _ _ _ _ _ _ _ _ _ _).mono ?_
      rintro e w1 ⟨rfl, hb1⟩
      have hbelR := (Below.refl w.heap.size wr).drew
      have hb1' := hbelR.trans (hb1.mono hsz)
      have k0 := H0.out.drew.below hb1 y0
      have k1 : OwnP w1 87 g 4 Q := (OwnF.drew H1.out).below hb1 y1
      refine hK.out _ _ (fun _ => SO.of k1 hi4 HXY.out k0) (fun hHeld2 => ?_)
      clear hK K
      try simp only [Act.put, List.setIfInBounds_toArray, List.set_cons_zero, List.set_cons_succ]
      have hbA := hbel.drew.trans (hb1.mono hsz)
      have K0 := Lib.hid k0
      have K1 := Lib.hid k1
      clear k0 k1 hb1 hb1' hbelR
      refine wpAnyU_ready (rs := [10]) (by kernel_rfl) (by simp) ?_
      refine AllReadyU.cons (o := { dst := some 62, op := _, type := _, pos := _, after := _, guard := _ }) rfl (fun K hK => ?_) AllReadyU.nil
      go_simp
      refine (turnPoint_any _ _ _ _ _ _ (by omega) (HT.out.below (Nat.le_refl _) hbA)).mono ?_
      rintro e w2 ⟨rfl, hb2⟩
      obtain ⟨X, hX⟩ : ∃ X, X = turnX x y (wrap64 (wrap64 (2 * e3) + e5)) (wrap64 (wrap64 (2 * e4) + e6)) e7 := ⟨_, rfl⟩
      obtain ⟨Y, hY⟩ : ∃ Y, Y = turnY x y (wrap64 (wrap64 (2 * e3) + e5)) (wrap64 (wrap64 (2 * e4) + e6)) e7 := ⟨_, rfl⟩
      rw [← hX, ← hY]
      have hwx : wrap64 (wrap64 (2 * e3) + e5) = 2 * e3 + e5 := by rw [wrap_in (x := 2 * e3) (by omega), wrap_in (by omega)]
      have hwy : wrap64 (wrap64 (2 * e4) + e6) = 2 * e4 + e6 := by rw [wrap_in (x := 2 * e4) (by omega), wrap_in (by omega)]
      have HPI := Lib.hid (show P i = outP n E n e1 X Y by rw [HP.out, hX, hY, hwx, hwy, HX.out, HY.out, HE1.out, HE3.out, HE4.out, HE5.out, HE6.out, HE7.out]; rfl)
      clear hX hY hwx hwy
      have k0 := K0.out.below hb2 K0.out.lt
      have k1 : OwnP w2 87 g 4 Q := OwnF.below K1.out hb2 (OwnF.lt K1.out)
      have hbB := hbA.trans (hb2.mono hbA.size)
      refine hK.out _ _ (fun _ => SO.of k1 hi4 HXY.out k0) (fun hHeld3 => ?_)
      clear hK K
      try simp only [Act.put, List.setIfInBounds_toArray, List.set_cons_zero, List.set_cons_succ]
      refine moveU (i := 11) (oi := { dst := some 63, op := _, type := _, pos := _, after := _, guard := _ }) (d := some 63) (v := ?vvb63) rfl rfl (by kernel_rfl) (by kernel_rfl) (by kernel_rfl) (by rfl) ?ddb63 (by rfl) ?yyb63 hHeld3 ?rrb63
      case ddb63 => first | exact fun _ _ _ h => h | exact fun _ _ _ h => HQ.out _ _ _ _ (by rfl) h
      case yyb63 => (intro wx; go_simp; try (with_reducible rfl))
      clear hHeld3; intro hHeld3
      try simp only [Act.put, List.setIfInBounds_toArray, List.set_cons_zero, List.set_cons_succ]
      refine wpAnyU_ready (rs := [12]) (by kernel_rfl) (by simp) ?_
      refine AllReadyU.cons (o := { dst := none, op := _, type := _, pos := _, after := _, guard := _ }) rfl (fun K hK => ?_) AllReadyU.nil
      have z0 := OwnF.lt k1
      have fz := OwnF.frozen k1
      have f0 := k1.fst hi4
      have f1 := k1.snd hi4
      go_simp
      obtain ⟨w3, hw3⟩ : ∃ w3, w3 = (w2.setCell ⟨g, i * 2, none⟩ (.int .i64 X)).setCell ⟨g, i * 2 + 1, none⟩ (.int .i64 Y) := ⟨_, rfl⟩
      rw [← hw3]
      have hne : w.heap.size ≠ g := by omega
      have m0 : Blk w3 w.heap.size #[.int .i64 e0, .int .i64 e1, .int .i64 e2, .int .i64 e3, .int .i64 e4, .int .i64 e5, .int .i64 e6, .int .i64 e7, .int .i64 e8, .int .i64 e9, .string n0, .string n1] 30 := by rw [hw3]; exact (k0.other hne _).other hne _
      have m1 : OwnP w3 87 g 4 (updQ Q i (X, Y)) := by rw [hw3]; exact k1.set i X Y
      have hbC : Below w.heap.size w w3 := by rw [hw3]; exact (hbB.setCell (by simp; omega) _).setCell (by simp; omega) _
      refine hK.out _ _ (fun h => absurd h (by decide)) (fun hHeld4 => ?_)
      clear hK K
      try simp only [Act.put, List.setIfInBounds_toArray, List.set_cons_zero, List.set_cons_succ]
      refine wpAnyU_done (by kernel_rfl) ?_ _
      have M0 := Lib.hid m0
      have M1 := Lib.hid m1
      have HBC := Lib.hid hbC
      have c1 : w3.cell? ⟨w.heap.size, 1, none⟩ = some (.int .i64 e1) := m0.cell (i := 1) rfl
      have v0 := m0.lt
      clear hHeld hHeld2 hHeld3 hHeld4 hb2 hw3 m0 m1 hbC k0 k1 f0 f1 fz z0 hbA hbB hSO K0 K1
      go_wp2_with fail
      clear c1
      go_loopw [8] (fun ig wr => ∃ (f : Nat) (G x y : Int) (Q : Nat → Int × Int), ig = .int .i64 G ∧ Par n E G ∧ meas n E G ≤ f ∧ P i = outP n E f G x y ∧ Blk wr w.heap.size #[.int .i64 e0, .int .i64 e1, .int .i64 e2, .int .i64 e3, .int .i64 e4, .int .i64 e5, .int .i64 e6, .int .i64 e7, .int .i64 e8, .int .i64 e9, .string n0, .string n1] 30 ∧ OwnP wr 87 g 4 Q ∧ Q i = (x, y) ∧ (∀ j, j < i → Q j = P j) ∧ (∀ j, i < j → j < 4 → Q j = (cornX (E k) j, cornY (E k) j)) ∧ Below w.heap.size w wr) (fun ig _ => meas n E (intOf ig))
      case atStart =>
        refine ⟨n, e1, X, Y, _, rfl, by rw [HE1.out]; exact HNX.out.1, by rw [HE1.out]; exact Nat.le_trans HNX.out.2 (Nat.le_of_lt hk), HPI.out, M0.out, M1.out, updQ_at _ _ _, fun j hj => ?_, fun j hj hj4 => ?_, HBC.out⟩
        · rw [updQ_ne (by omega)]; exact HQ1.out j hj
        · rw [updQ_ne (by omega)]; exact HQ2.out j (by omega) hj4
      case round =>
        clear M0 M1 HBC HPI v0
        obtain ⟨f, G, x, y, Q, rfl, hp, hm, hr, h0, h1, hQi, hQa, hQb, hbel⟩ := hrel
        have HM := Lib.hid hm
        have HR2 := Lib.hid hr
        have K0 := Lib.hid h0
        have K1 := Lib.hid h1
        have HQi := Lib.hid hQi
        have HQa := Lib.hid hQa
        have HQb := Lib.hid hQb
        clear hm hr h0 h1 hQi hQa hQb
        by_cases hg0 : G = 0
        · subst hg0
          have e1 := HR2.out
          rw [outP_zero] at e1
          have HE := Lib.hid (HQi.out.trans e1.symm)
          clear e1 HM HR2 hp
          go_wp2_with fail
          go_roundw
          case rel =>
            refine ⟨i + 1, by go_num, by omega, K0.out, ⟨_, K1.out, fun j hj => ?_, fun j hj hj4 => HQb.out j (by omega) hj4⟩, hbel⟩
            rcases Nat.lt_or_ge j i with h | h
            · exact HQa.out j h
            · rw [show j = i by omega]; exact HE.out
          case measure => simp [intOf]; omega
        · rcases hp with hp | ⟨u, hun, hfu⟩
          · exact absurd hp hg0
          obtain ⟨f', hf'⟩ : ∃ f', f = f' + 1 := by
            have := HM.out
            unfold meas at this
            rw [if_neg hg0] at this
            exact ⟨f - 1, by omega⟩
          subst hf'
          have HM1 := Lib.hid (show u ≤ f' ∧ meas n E G = u + 1 by
            have := HM.out
            unfold meas at this ⊢
            rw [if_neg hg0, hfu] at this ⊢
            refine ⟨by omega, by omega⟩)
          have HR3 := Lib.hid (HR2.out.trans (outP_step hg0 hfu))
          have HNU := Lib.hid (Par.next HALL.out hun)
          have htt : 0 ≤ E u 7 ∧ E u 7 ≤ 3599 := (HALL.out u hun).2.2.1.2.2.2.2
          have HFU := Lib.hid hfu
          have hszz := hbel.size
          clear HM HR2 hfu
          go_wp2_with fail
          refine (shapeAt_any n E N G _ c wr (HA.out.below (Nat.le_refl _) hbel) (by omega)).mono ?_
          rintro e w1 ⟨rfl, hb1⟩
          rw [HFU.out]
          have hbel1 := hbel.trans (hb1.mono hbel.size)
          have k0 := K0.out.below hb1 K0.out.lt
          have k1 : OwnP w1 87 g 4 Q := OwnF.below K1.out hb1 (OwnF.lt K1.out)
          obtain ⟨b2, off2, hbe, hcellG⟩ := HA.out.below (Nat.le_refl _) hbel1 (by omega)
          obtain ⟨rfl, rfl⟩ : b = b2 ∧ off = off2 := by simpa using hbe
          have hcell := hcellG u hun
          clear hcellG hbe
          obtain ⟨hci, hc10, hc11⟩ := hcell
          have d0 := hci 0 (by omega)
          rw [Nat.add_zero] at d0
          have d1 := hci 1 (by omega)
          have d2 := hci 2 (by omega)
          have d3 := hci 3 (by omega)
          have d4 := hci 4 (by omega)
          have d5 := hci 5 (by omega)
          have d6 := hci 6 (by omega)
          have d7 := hci 7 (by omega)
          have d8 := hci 8 (by omega)
          have d9 := hci 9 (by omega)
          have zb := lt_of_cell d0
          simp only at zb
          clear hci
          obtain ⟨z0, he0⟩ : ∃ e, e = E u 0 := ⟨_, rfl⟩
          obtain ⟨z1, he1⟩ : ∃ e, e = E u 1 := ⟨_, rfl⟩
          obtain ⟨z2, he2⟩ : ∃ e, e = E u 2 := ⟨_, rfl⟩
          obtain ⟨z3, he3⟩ : ∃ e, e = E u 3 := ⟨_, rfl⟩
          obtain ⟨z4, he4⟩ : ∃ e, e = E u 4 := ⟨_, rfl⟩
          obtain ⟨z5, he5⟩ : ∃ e, e = E u 5 := ⟨_, rfl⟩
          obtain ⟨z6, he6⟩ : ∃ e, e = E u 6 := ⟨_, rfl⟩
          obtain ⟨z7, he7⟩ : ∃ e, e = E u 7 := ⟨_, rfl⟩
          obtain ⟨z8, he8⟩ : ∃ e, e = E u 8 := ⟨_, rfl⟩
          obtain ⟨z9, he9⟩ : ∃ e, e = E u 9 := ⟨_, rfl⟩
          obtain ⟨t0, ht0⟩ : ∃ e, e = N u 0 := ⟨_, rfl⟩
          obtain ⟨t1, ht1⟩ : ∃ e, e = N u 1 := ⟨_, rfl⟩
          rw [← he0] at d0
          rw [← he1] at d1
          rw [← he2] at d2
          rw [← he3] at d3
          rw [← he4] at d4
          rw [← he5] at d5
          rw [← he6] at d6
          rw [← he7] at d7 htt
          rw [← he8] at d8
          rw [← he9] at d9
          rw [← ht0] at hc10
          rw [← ht1] at hc11
          have HU1 := Lib.hid he1
          have HU3 := Lib.hid he3
          have HU4 := Lib.hid he4
          have HU5 := Lib.hid he5
          have HU6 := Lib.hid he6
          have HU7 := Lib.hid he7
          clear he0 he1 he2 he3 he4 he5 he6 he7 he8 he9 ht0 ht1
          have L0 := Lib.hid k0
          have L1 := Lib.hid k1
          have v0 := k0.lt
          have v1 := OwnF.lt k1
          clear k0 k1 K0 K1
          go_wp2_with fail
          obtain ⟨w4, hw4⟩ : ∃ w4, w4 = w1.alloc (.cells #[.int .i64 z0, .int .i64 z1, .int .i64 z2, .int .i64 z3, .int .i64 z4, .int .i64 z5, .int .i64 z6, .int .i64 z7, .int .i64 z8, .int .i64 z9, .string t0, .string t1] 30) := ⟨_, rfl⟩
          have l0 : Blk w4 w.heap.size #[.int .i64 e0, .int .i64 e1, .int .i64 e2, .int .i64 e3, .int .i64 e4, .int .i64 e5, .int .i64 e6, .int .i64 e7, .int .i64 e8, .int .i64 e9, .string n0, .string n1] 30 := by rw [hw4]; exact L0.out.alloc _
          have l1 : OwnP w4 87 g 4 Q := by rw [hw4]; exact OwnF.alloc L1.out _
          have l2 : Blk w4 w1.heap.size #[.int .i64 z0, .int .i64 z1, .int .i64 z2, .int .i64 z3, .int .i64 z4, .int .i64 z5, .int .i64 z6, .int .i64 z7, .int .i64 z8, .int .i64 z9, .string t0, .string t1] 30 := by rw [hw4]; exact Blk.new _ _ _
          have hbel4 : Below w.heap.size w w4 := by rw [hw4]; exact hbel1.alloc hbel1.size _
          rw [← hw4]
          have hgq : g ≠ w1.heap.size := by omega
          have hq2 : w.heap.size ≤ w1.heap.size := by omega
          obtain ⟨q, hq⟩ : ∃ q, q = w1.heap.size := ⟨_, rfl⟩
          rw [← hq] at l2 hgq hq2 ⊢
          clear hw4 hq L0 L1 hb1 hbel1 d0 d1 d2 d3 d4 d5 d6 d7 d8 d9 hc10 hc11 zb v0 v1
          have L0 := Lib.hid l0
          have L1 := Lib.hid l1
          have L2 := Lib.hid l2
          have v0 := l0.lt
          have v1 := OwnF.lt l1
          have v2 := l2.lt
          have hSO : SO q g i x y z0 z1 z2 z3 z4 z5 z6 z7 z8 z9 t0 t1 w4 := SO.of l1 hi4 HQi.out l2
          clear l0 l1 l2
          go_wp2_with fail
          refine wp_region_until 25 (SO q g i x y z0 z1 z2 z3 z4 z5 z6 z7 z8 z9 t0 t1) (by kernel_rfl) hSO ?_
          intro hHeld
          refine moveU (i := 0) (oi := { dst := some 74, op := _, type := _, pos := _, after := _, guard := _ }) (d := some 74) (v := ?vvc74) rfl rfl (by kernel_rfl) (by kernel_rfl) (by kernel_rfl) (by rfl) ?ddc74 (by rfl) ?yyc74 hHeld ?rrc74
          case ddc74 => first | exact fun _ _ _ h => h | exact fun _ _ _ h => HQ.out _ _ _ _ (by rfl) h
          case yyc74 => (intro wx; go_simp; try (with_reducible rfl))
          clear hHeld; intro hHeld
          try simp only [Act.put, List.setIfInBounds_toArray, List.set_cons_zero, List.set_cons_succ]
          refine moveU (i := 1) (oi := { dst := some 75, op := _, type := _, pos := _, after := _, guard := _ }) (d := some 75) (v := ?vvc75) rfl rfl (by kernel_rfl) (by kernel_rfl) (by kernel_rfl) (by rfl) ?ddc75 (by rfl) ?yyc75 hHeld ?rrc75
          case ddc75 => first | exact fun _ _ _ h => h | exact fun _ _ _ h => HQ.out _ _ _ _ (by rfl) h
          case yyc75 => (intro wx; go_simp; try (with_reducible rfl))
          clear hHeld; intro hHeld
          try simp only [Act.put, List.setIfInBounds_toArray, List.set_cons_zero, List.set_cons_succ]
          refine moveU (i := 2) (oi := { dst := some 76, op := _, type := _, pos := _, after := _, guard := _ }) (d := some 76) (v := ?vvc76) rfl rfl (by kernel_rfl) (by kernel_rfl) (by kernel_rfl) (by rfl) ?ddc76 (by rfl) ?yyc76 hHeld ?rrc76
          case ddc76 => first | exact fun _ _ _ h => h | exact fun _ _ _ h => HQ.out _ _ _ _ (by rfl) h
          case yyc76 => (intro wx; go_simp; try (with_reducible rfl))
          clear hHeld; intro hHeld
          try simp only [Act.put, List.setIfInBounds_toArray, List.set_cons_zero, List.set_cons_succ]
          refine moveU (i := 3) (oi := { dst := some 77, op := _, type := _, pos := _, after := _, guard := _ }) (d := some 77) (v := ?vvc77) rfl rfl (by kernel_rfl) (by kernel_rfl) (by kernel_rfl) (by rfl) ?ddc77 (by rfl) ?yyc77 hHeld ?rrc77
          case ddc77 => first | exact fun _ _ _ h => h | exact fun _ _ _ h => HQ.out _ _ _ _ (by rfl) h
          case yyc77 => (intro wx; go_simp; try (with_reducible rfl))
          clear hHeld; intro hHeld
          try simp only [Act.put, List.setIfInBounds_toArray, List.set_cons_zero, List.set_cons_succ]
          refine moveU (i := 4) (oi := { dst := some 78, op := _, type := _, pos := _, after := _, guard := _ }) (d := some 78) (v := ?vvc78) rfl rfl (by kernel_rfl) (by kernel_rfl) (by kernel_rfl) (by rfl) ?ddc78 (by rfl) ?yyc78 hHeld ?rrc78
          case ddc78 => first | exact fun _ _ _ h => h | exact fun _ _ _ h => HQ.out _ _ _ _ (by rfl) h
          case yyc78 => (intro wx; go_simp; try (with_reducible rfl))
          clear hHeld; intro hHeld
          try simp only [Act.put, List.setIfInBounds_toArray, List.set_cons_zero, List.set_cons_succ]
          refine moveU (i := 5) (oi := { dst := some 79, op := _, type := _, pos := _, after := _, guard := _ }) (d := some 79) (v := ?vvc79) rfl rfl (by kernel_rfl) (by kernel_rfl) (by kernel_rfl) (by rfl) ?ddc79 (by rfl) ?yyc79 hHeld ?rrc79
          case ddc79 => first | exact fun _ _ _ h => h | exact fun _ _ _ h => HQ.out _ _ _ _ (by rfl) h
          case yyc79 => (intro wx; go_simp; try (with_reducible rfl))
          clear hHeld; intro hHeld
          try simp only [Act.put, List.setIfInBounds_toArray, List.set_cons_zero, List.set_cons_succ]
          refine takeU [9,18,23,25] (i := 6) (oi := { dst := some 80, op := _, type := _, pos := _, after := _, guard := _ }) (d := some 80) (v := ?vvc80) rfl rfl (by kernel_rfl) (by kernel_rfl) (by kernel_rfl) (by kernel_rfl) ?ddc80 (by rfl) ?yyc80 hHeld ?rrc80
          case ddc80 => first | exact fun _ _ _ h => h | exact fun _ _ _ h => HQ.out _ _ _ _ (by rfl) h
          case yyc80 => (intro wx hSw; obtain ⟨y0, y1, y2, y3, y4, y5, y6, y7, y8, y9, y10, y11, y12, y13⟩ := hSw; go_simp; try (with_reducible rfl))
          clear hHeld; intro hHeld
          try simp only [Act.put, List.setIfInBounds_toArray, List.set_cons_zero, List.set_cons_succ]
          refine moveU (i := 7) (oi := { dst := some 81, op := _, type := _, pos := _, after := _, guard := _ }) (d := some 81) (v := ?vvc81) rfl rfl (by kernel_rfl) (by kernel_rfl) (by kernel_rfl) (by rfl) ?ddc81 (by rfl) ?yyc81 hHeld ?rrc81
          case ddc81 => first | exact fun _ _ _ h => h | exact fun _ _ _ h => HQ.out _ _ _ _ (by rfl) h
          case yyc81 => (intro wx; go_simp; try (with_reducible rfl))
          clear hHeld; intro hHeld
          try simp only [Act.put, List.setIfInBounds_toArray, List.set_cons_zero, List.set_cons_succ]
          refine takeU [9,18,23,25] (i := 8) (oi := { dst := some 82, op := _, type := _, pos := _, after := _, guard := _ }) (d := some 82) (v := ?vvc82) rfl rfl (by kernel_rfl) (by kernel_rfl) (by kernel_rfl) (by kernel_rfl) ?ddc82 (by rfl) ?yyc82 hHeld ?rrc82
          case ddc82 => first | exact fun _ _ _ h => h | exact fun _ _ _ h => HQ.out _ _ _ _ (by rfl) h
          case yyc82 => (intro wx hSw; obtain ⟨y0, y1, y2, y3, y4, y5, y6, y7, y8, y9, y10, y11, y12, y13⟩ := hSw; go_simp; try (with_reducible rfl))
          clear hHeld; intro hHeld
          try simp only [Act.put, List.setIfInBounds_toArray, List.set_cons_zero, List.set_cons_succ]
          refine moveU (i := 9) (oi := { dst := some 83, op := _, type := _, pos := _, after := _, guard := _ }) (d := some 83) (v := ?vvc83) rfl rfl (by kernel_rfl) (by kernel_rfl) (by kernel_rfl) (by rfl) ?ddc83 (by rfl) ?yyc83 hHeld ?rrc83
          case ddc83 => first | exact fun _ _ _ h => h | exact fun _ _ _ h => HQ.out _ _ _ _ (by rfl) h
          case yyc83 => (intro wx; go_simp; try (with_reducible rfl))
          clear hHeld; intro hHeld
          try simp only [Act.put, List.setIfInBounds_toArray, List.set_cons_zero, List.set_cons_succ]
          refine moveU (i := 10) (oi := { dst := some 84, op := _, type := _, pos := _, after := _, guard := _ }) (d := some 84) (v := ?vvc84) rfl rfl (by kernel_rfl) (by kernel_rfl) (by kernel_rfl) (by rfl) ?ddc84 (by rfl) ?yyc84 hHeld ?rrc84
          case ddc84 => first | exact fun _ _ _ h => h | exact fun _ _ _ h => HQ.out _ _ _ _ (by rfl) h
          case yyc84 => (intro wx; go_simp; try (with_reducible rfl))
          clear hHeld; intro hHeld
          try simp only [Act.put, List.setIfInBounds_toArray, List.set_cons_zero, List.set_cons_succ]
          refine moveU (i := 11) (oi := { dst := some 85, op := _, type := _, pos := _, after := _, guard := _ }) (d := some 85) (v := ?vvc85) rfl rfl (by kernel_rfl) (by kernel_rfl) (by kernel_rfl) (by rfl) ?ddc85 (by rfl) ?yyc85 hHeld ?rrc85
          case ddc85 => first | exact fun _ _ _ h => h | exact fun _ _ _ h => HQ.out _ _ _ _ (by rfl) h
          case yyc85 => (intro wx; go_simp; try (with_reducible rfl))
          clear hHeld; intro hHeld
          try simp only [Act.put, List.setIfInBounds_toArray, List.set_cons_zero, List.set_cons_succ]
          refine moveU (i := 12) (oi := { dst := some 86, op := _, type := _, pos := _, after := _, guard := _ }) (d := some 86) (v := ?vvc86) rfl rfl (by kernel_rfl) (by kernel_rfl) (by kernel_rfl) (by rfl) ?ddc86 (by rfl) ?yyc86 hHeld ?rrc86
          case ddc86 => first | exact fun _ _ _ h => h | exact fun _ _ _ h => HQ.out _ _ _ _ (by rfl) h
          case yyc86 => (intro wx; go_simp; try (with_reducible rfl))
          clear hHeld; intro hHeld
          try simp only [Act.put, List.setIfInBounds_toArray, List.set_cons_zero, List.set_cons_succ]
          refine moveU (i := 13) (oi := { dst := some 87, op := _, type := _, pos := _, after := _, guard := _ }) (d := some 87) (v := ?vvc87) rfl rfl (by kernel_rfl) (by kernel_rfl) (by kernel_rfl) (by rfl) ?ddc87 (by rfl) ?yyc87 hHeld ?rrc87
          case ddc87 => first | exact fun _ _ _ h => h | exact fun _ _ _ h => HQ.out _ _ _ _ (by rfl) h
          case yyc87 => (intro wx; go_simp; try (with_reducible rfl))
          clear hHeld; intro hHeld
          try simp only [Act.put, List.setIfInBounds_toArray, List.set_cons_zero, List.set_cons_succ]
          refine takeU [17,18,23,25] (i := 14) (oi := { dst := some 88, op := _, type := _, pos := _, after := _, guard := _ }) (d := some 88) (v := ?vvc88) rfl rfl (by kernel_rfl) (by kernel_rfl) (by kernel_rfl) (by kernel_rfl) ?ddc88 (by rfl) ?yyc88 hHeld ?rrc88
          case ddc88 => first | exact fun _ _ _ h => h | exact fun _ _ _ h => HQ.out _ _ _ _ (by rfl) h
          case yyc88 => (intro wx hSw; obtain ⟨y0, y1, y2, y3, y4, y5, y6, y7, y8, y9, y10, y11, y12, y13⟩ := hSw; go_simp; try (with_reducible rfl))
          clear hHeld; intro hHeld
          try simp only [Act.put, List.setIfInBounds_toArray, List.set_cons_zero, List.set_cons_succ]
          refine moveU (i := 15) (oi := { dst := some 89, op := _, type := _, pos := _, after := _, guard := _ }) (d := some 89) (v := ?vvc89) rfl rfl (by kernel_rfl) (by kernel_rfl) (by kernel_rfl) (by rfl) ?ddc89 (by rfl) ?yyc89 hHeld ?rrc89
          case ddc89 => first | exact fun _ _ _ h => h | exact fun _ _ _ h => HQ.out _ _ _ _ (by rfl) h
          case yyc89 => (intro wx; go_simp; try (with_reducible rfl))
          clear hHeld; intro hHeld
          try simp only [Act.put, List.setIfInBounds_toArray, List.set_cons_zero, List.set_cons_succ]
          refine takeU [17,18,23,25] (i := 16) (oi := { dst := some 90, op := _, type := _, pos := _, after := _, guard := _ }) (d := some 90) (v := ?vvc90) rfl rfl (by kernel_rfl) (by kernel_rfl) (by kernel_rfl) (by kernel_rfl) ?ddc90 (by rfl) ?yyc90 hHeld ?rrc90
          case ddc90 => first | exact fun _ _ _ h => h | exact fun _ _ _ h => HQ.out _ _ _ _ (by rfl) h
          case yyc90 => (intro wx hSw; obtain ⟨y0, y1, y2, y3, y4, y5, y6, y7, y8, y9, y10, y11, y12, y13⟩ := hSw; go_simp; try (with_reducible rfl))
          clear hHeld; intro hHeld
          try simp only [Act.put, List.setIfInBounds_toArray, List.set_cons_zero, List.set_cons_succ]
          refine moveU (i := 17) (oi := { dst := some 91, op := _, type := _, pos := _, after := _, guard := _ }) (d := some 91) (v := ?vvc91) rfl rfl (by kernel_rfl) (by kernel_rfl) (by kernel_rfl) (by rfl) ?ddc91 (by rfl) ?yyc91 hHeld ?rrc91
          case ddc91 => first | exact fun _ _ _ h => h | exact fun _ _ _ h => HQ.out _ _ _ _ (by rfl) h
          case yyc91 => (intro wx; go_simp; try (with_reducible rfl))
          clear hHeld; intro hHeld
          try simp only [Act.put, List.setIfInBounds_toArray, List.set_cons_zero, List.set_cons_succ]
          refine moveU (i := 18) (oi := { dst := some 92, op := _, type := _, pos := _, after := _, guard := _ }) (d := some 92) (v := ?vvc92) rfl rfl (by kernel_rfl) (by kernel_rfl) (by kernel_rfl) (by rfl) ?ddc92 (by rfl) ?yyc92 hHeld ?rrc92
          case ddc92 => first | exact fun _ _ _ h => h | exact fun _ _ _ h => HQ.out _ _ _ _ (by rfl) h
          case yyc92 => (intro wx; go_simp; try (with_reducible rfl))
          clear hHeld; intro hHeld
          try simp only [Act.put, List.setIfInBounds_toArray, List.set_cons_zero, List.set_cons_succ]
          refine takeU [20,23,25] (i := 19) (oi := { dst := some 93, op := _, type := _, pos := _, after := _, guard := _ }) (d := some 93) (v := ?vvc93) rfl rfl (by kernel_rfl) (by kernel_rfl) (by kernel_rfl) (by kernel_rfl) ?ddc93 (by rfl) ?yyc93 hHeld ?rrc93
          case ddc93 => first | exact fun _ _ _ h => h | exact fun _ _ _ h => HQ.out _ _ _ _ (by rfl) h
          case yyc93 => (intro wx hSw; obtain ⟨y0, y1, y2, y3, y4, y5, y6, y7, y8, y9, y10, y11, y12, y13⟩ := hSw; go_simp; try (with_reducible rfl))
          clear hHeld; intro hHeld
          try simp only [Act.put, List.setIfInBounds_toArray, List.set_cons_zero, List.set_cons_succ]
          refine moveU (i := 21) (oi := { dst := some 95, op := _, type := _, pos := _, after := _, guard := _ }) (d := some 95) (v := ?vvc95) rfl rfl (by kernel_rfl) (by kernel_rfl) (by kernel_rfl) (by rfl) ?ddc95 (by rfl) ?yyc95 hHeld ?rrc95
          case ddc95 => first | exact fun _ _ _ h => h | exact fun _ _ _ h => HQ.out _ _ _ _ (by rfl) h
          case yyc95 => (intro wx; go_simp; try (with_reducible rfl))
          clear hHeld; intro hHeld
          try simp only [Act.put, List.setIfInBounds_toArray, List.set_cons_zero, List.set_cons_succ]
          refine takeU [23,25] (i := 22) (oi := { dst := some 96, op := _, type := _, pos := _, after := _, guard := _ }) (d := some 96) (v := ?vvc96) rfl rfl (by kernel_rfl) (by kernel_rfl) (by kernel_rfl) (by kernel_rfl) ?ddc96 (by rfl) ?yyc96 hHeld ?rrc96
          case ddc96 => first | exact fun _ _ _ h => h | exact fun _ _ _ h => HQ.out _ _ _ _ (by rfl) h
          case yyc96 => (intro wx hSw; obtain ⟨y0, y1, y2, y3, y4, y5, y6, y7, y8, y9, y10, y11, y12, y13⟩ := hSw; go_simp; try (with_reducible rfl))
          clear hHeld; intro hHeld
          try simp only [Act.put, List.setIfInBounds_toArray, List.set_cons_zero, List.set_cons_succ]
          refine wpAnyU_ready (rs := [20]) (by kernel_rfl) (by simp) ?_
          refine AllReadyU.cons (o := { dst := some 94, op := _, type := _, pos := _, after := _, guard := _ }) rfl (fun K hK => ?_) AllReadyU.nil
          go_simp
          refine (middle_any _ _ _ _ _ _ _ _ _ _ _ _ _).mono ?_
          rintro e w5 ⟨rfl, hb5⟩
          have hle4 := hbel4.size
          have k0 := L0.out.drew.below hb5 v0
          have k1 : OwnP w5 87 g 4 Q := (OwnF.drew L1.out).below hb5 v1
          have k2 := L2.out.drew.below hb5 v2
          have hbA := hbel4.drew.trans (hb5.mono hle4)
          refine hK.out _ _ (fun _ => SO.of k1 hi4 HQi.out k2) (fun hHeld2 => ?_)
          clear hK K
          try simp only [Act.put, List.setIfInBounds_toArray, List.set_cons_zero, List.set_cons_succ]
          have v50 := k0.lt
          have v51 := OwnF.lt k1
          have v52 := k2.lt
          have K0 := Lib.hid k0
          have K1 := Lib.hid k1
          have K2 := Lib.hid k2
          clear k0 k1 k2 hb5 L0 L1 L2 v0 v1 v2 hSO hHeld
          refine wpAnyU_ready (rs := [23]) (by kernel_rfl) (by simp) ?_
          refine AllReadyU.cons (o := { dst := some 97, op := _, type := _, pos := _, after := _, guard := _ }) rfl (fun K hK => ?_) AllReadyU.nil
          go_simp
          refine (turnPoint_any _ _ _ _ _ _ (by omega) (HT.out.below (Nat.le_refl _) hbA)).mono ?_
          rintro e w6 ⟨rfl, hb6⟩
          simp only [IntWalk.i64_left]
          obtain ⟨X, hX⟩ : ∃ X, X = turnX (wrap64 (x + z3)) (wrap64 (y + z4)) (wrap64 (wrap64 (2 * z3) + z5)) (wrap64 (wrap64 (2 * z4) + z6)) z7 := ⟨_, rfl⟩
          obtain ⟨Y, hY⟩ : ∃ Y, Y = turnY (wrap64 (x + z3)) (wrap64 (y + z4)) (wrap64 (wrap64 (2 * z3) + z5)) (wrap64 (wrap64 (2 * z4) + z6)) z7 := ⟨_, rfl⟩
          rw [← hX, ← hY]
          have HXU := Lib.hid (show X = upX (E u) x y by rw [hX, HU3.out, HU4.out, HU5.out, HU6.out, HU7.out]; rfl)
          have HYU := Lib.hid (show Y = upY (E u) x y by rw [hY, HU3.out, HU4.out, HU5.out, HU6.out, HU7.out]; rfl)
          clear hX hY
          have k0 := K0.out.below hb6 v50
          have k1 : OwnP w6 87 g 4 Q := OwnF.below K1.out hb6 v51
          have k2 := K2.out.below hb6 v52
          have hbB := hbA.trans (hb6.mono hbA.size)
          refine hK.out _ _ (fun _ => SO.of k1 hi4 HQi.out k2) (fun hHeld3 => ?_)
          clear hK K
          try simp only [Act.put, List.setIfInBounds_toArray, List.set_cons_zero, List.set_cons_succ]
          clear hHeld2
          refine moveU (i := 24) (oi := { dst := some 98, op := _, type := _, pos := _, after := _, guard := _ }) (d := some 98) (v := ?vvd98) rfl rfl (by kernel_rfl) (by kernel_rfl) (by kernel_rfl) (by rfl) ?ddd98 (by rfl) ?yyd98 hHeld3 ?rrd98
          case ddd98 => first | exact fun _ _ _ h => h | exact fun _ _ _ h => HQ.out _ _ _ _ (by rfl) h
          case yyd98 => (intro wx; go_simp; try (with_reducible rfl))
          clear hHeld3; intro hHeld3
          try simp only [Act.put, List.setIfInBounds_toArray, List.set_cons_zero, List.set_cons_succ]
          refine wpAnyU_ready (rs := [25]) (by kernel_rfl) (by simp) ?_
          refine AllReadyU.cons (o := { dst := none, op := _, type := _, pos := _, after := _, guard := _ }) rfl (fun K hK => ?_) AllReadyU.nil
          have v61 := OwnF.lt k1
          have fz := OwnF.frozen k1
          have f0 := k1.fst hi4
          have f1 := k1.snd hi4
          go_simp
          obtain ⟨w7, hw7⟩ : ∃ w7, w7 = (w6.setCell ⟨g, i * 2, none⟩ (.int .i64 X)).setCell ⟨g, i * 2 + 1, none⟩ (.int .i64 Y) := ⟨_, rfl⟩
          rw [← hw7]
          have hne : w.heap.size ≠ g := by omega
          have m0 : Blk w7 w.heap.size #[.int .i64 e0, .int .i64 e1, .int .i64 e2, .int .i64 e3, .int .i64 e4, .int .i64 e5, .int .i64 e6, .int .i64 e7, .int .i64 e8, .int .i64 e9, .string n0, .string n1] 30 := by rw [hw7]; exact (k0.other hne _).other hne _
          have m1 : OwnP w7 87 g 4 (updQ Q i (X, Y)) := by rw [hw7]; exact k1.set i X Y
          have m2 : Blk w7 q #[.int .i64 z0, .int .i64 z1, .int .i64 z2, .int .i64 z3, .int .i64 z4, .int .i64 z5, .int .i64 z6, .int .i64 z7, .int .i64 z8, .int .i64 z9, .string t0, .string t1] 30 := by rw [hw7]; exact (k2.other (Ne.symm hgq) _).other (Ne.symm hgq) _
          have hbC : Below w.heap.size w w7 := by rw [hw7]; exact (hbB.setCell (by simp; omega) _).setCell (by simp; omega) _
          refine hK.out _ _ (fun h => absurd h (by decide)) (fun hHeld4 => ?_)
          clear hK K
          try simp only [Act.put, List.setIfInBounds_toArray, List.set_cons_zero, List.set_cons_succ]
          refine wpAnyU_done (by kernel_rfl) ?_ _
          have M0 := Lib.hid m0
          have M1 := Lib.hid m1
          have HBC := Lib.hid hbC
          have c1 : w7.cell? ⟨q, 1, none⟩ = some (.int .i64 z1) := m2.cell (i := 1) rfl
          have v7 := m2.lt
          clear hHeld3 hHeld4 hb6 hw7 m0 m1 m2 hbC k0 k1 k2 f0 f1 fz v61 hbA hbB K0 K1 K2
          go_wp2_with fail
          clear c1
          go_roundw
          case rel =>
            refine ⟨f', z1, X, Y, _, rfl, ?_, ?_, ?_, M0.out, M1.out, updQ_at _ _ _, fun j hj => ?_, fun j hj hj4 => ?_, HBC.out⟩
            · rw [HU1.out]; exact HNU.out.1
            · rw [HU1.out]; exact Nat.le_trans HNU.out.2 HM1.out.1
            · rw [HU1.out, HXU.out, HYU.out]; exact HR3.out
            · rw [updQ_ne (by omega)]; exact HQa.out j hj
            · rw [updQ_ne (by omega)]; exact HQb.out j hj hj4
          case measure =>
            have h1 := HNU.out.2
            have h2 := HM1.out.2
            rw [← HU1.out] at h1
            simp [intOf]
            omega
    · obtain rfl : i = 4 := by omega
      clear hQ2
      go_wp2_with fail
      go_ret
      exact ⟨g, rfl, h1.congr (fun j hj => HQ1.out j hj), by omega, hbel⟩
end Go.Proofs.YtabnohphgegflaaDoor.ShT
