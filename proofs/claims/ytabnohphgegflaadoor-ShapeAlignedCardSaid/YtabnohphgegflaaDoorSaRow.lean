

/-
  Rows of shapes of the call's own; slices.Clone at shapes, move, moved, floor.
-/
import Derived.Test.YtabnohphgegflaaDoorShFind
import Derived.Test.YtabnohphgegflaaDoorRowV
import Derived.Test.YtabnohphgegflaaDoorShTrig
import Derived.WalkSpells
namespace Go.Law.Sh
open Go.RowKit Go.Law
/-- the cells of shapes -/
def shV (E : Nat → Nat → Int) (N : Nat → Nat → ByteArray) (i j : Nat) : Value := if j < 10 then .int .i64 (E i j) else .string (N i (j - 10))
/-- a shape moved along an axis -/
def movE (E : Nat → Nat → Int) (k : Nat) (ax by' : Int) : Nat → Nat → Int := fun i j => if i = k ∧ j = (if ax = 0 then 3 else 4) then wrap64 (E i j + by') else E i j
theorem movE_other {E : Nat → Nat → Int} {k : Nat} {ax b : Int} {i j : Nat} (h : j ≠ 3) (h4 : j ≠ 4) : movE E k ax b i j = E i j := by
  unfold movE
  rw [if_neg]
  rintro ⟨_, h2⟩
  split at h2 <;> omega
theorem movE_findV (n : Nat) (E : Nat → Nat → Int) (k : Nat) (ax b x : Int) : findV n (movE E k ax b) x = findV n E x := by
  unfold findV
  simp only [movE_other (show (0 : Nat) ≠ 3 by omega) (show (0 : Nat) ≠ 4 by omega)]
end Go.Law.Sh
namespace Go.Proofs.YtabnohphgegflaaDoor.ShT
open Go.RowKit Go.Law Go.Law.Sh
set_option linter.unusedVariables false
set_option linter.unusedSimpArgs false
set_option maxRecDepth 100000
def ShR (w : World) (B : Nat) (v : Value) (n : Nat) (E : Nat → Nat → Int) (N : Nat → Nat → ByteArray) : Prop := RowV w B 30 12 v n (shV E N)
theorem ShR.shF {w : World} {B n cap : Nat} {a : Option Addr} {E : Nat → Nat → Int} {N : Nat → Nat → ByteArray} (h : ShR w B (.slice a n cap) n E N) : ShF w a n E N := by
  intro hn
  obtain ⟨g, c, hv, _, _, _, _, _, hc⟩ := RowV.at h hn
  cases hv
  refine ⟨g, 0, rfl, fun i hi => ⟨fun j hj => ?_, ?_, ?_⟩⟩
  · have := hc i hi j (by omega)
    unfold shV at this
    rw [if_pos hj] at this
    rw [Nat.zero_add]; exact this
  · have := hc i hi 10 (by omega)
    rw [Nat.zero_add]; exact this
  · have := hc i hi 11 (by omega)
    rw [Nat.zero_add]; exact this
theorem ShR.congr {w : World} {B n : Nat} {v : Value} {E E' : Nat → Nat → Int} {N : Nat → Nat → ByteArray} (h : ShR w B v n E N) (he : ∀ i, i < n → ∀ j, j < 10 → E i j = E' i j) : ShR w B v n E' N :=
  RowV.congr h (fun i hi j hj => by
    unfold shV
    split
    · rw [he i hi j ‹_›]
    · rfl)
theorem ShR.mov {w : World} {B n cap g k : Nat} {E : Nat → Nat → Int} {N : Nat → Nat → ByteArray} (h : ShR w B (.slice (some ⟨g, 0, none⟩) n cap) n E N) (hk : k < n) (ax b : Int) (c : Nat) (hc : c = if ax = 0 then 3 else 4) :
    ShR (w.setCell ⟨g, k * 12 + c, none⟩ (.int .i64 (wrap64 (E k c + b)))) B (.slice (some ⟨g, 0, none⟩) n cap) n (movE E k ax b) N := by
  have hc10 : c < 10 := by rw [hc]; split <;> omega
  refine RowV.congr (RowV.set h k c hk (by omega) _) (fun i hi j hj => ?_)
  unfold updV shV movE
  by_cases hij : i = k ∧ j = c
  · rw [if_pos hij, hij.1, hij.2, if_pos hc10, if_pos ⟨rfl, hc⟩]
  · rw [if_neg hij]
    by_cases hj10 : j < 10
    · rw [if_pos hj10, if_pos hj10, if_neg (by rw [← hc]; exact hij)]
    · rw [if_neg hj10, if_neg hj10]
def ClonePost (n : Nat) (E : Nat → Nat → Int) (N : Nat → Nat → ByteArray) (w : World) (e : Ending) (w' : World) : Prop :=
  Below w.heap.size w w' ∧ ∃ v, e = .returned v ∧ ShR w' w.heap.size v n E N
theorem shape_info : (Tryd.prog.info? 30).map (fun i => (i.zero, i.size, i.bytes)) = some (some (.agg #[.int .i64 0, .int .i64 0, .int .i64 0, .int .i64 0, .int .i64 0, .int .i64 0, .int .i64 0, .int .i64 0, .int .i64 0, .int .i64 0, .string ⟨#[]⟩, .string ⟨#[]⟩]), 12, 112) := by kernel_rfl
/-- the cells of a row of shapes, one after the other -/
def shL (n : Nat) (E : Nat → Nat → Int) (N : Nat → Nat → ByteArray) : List Value := (List.range (n * 12)).map (fun j => shV E N (j / 12) (j % 12))
theorem shL_len (n : Nat) (E : Nat → Nat → Int) (N : Nat → Nat → ByteArray) : (shL n E N).length = n * 12 := by unfold shL; simp
theorem shL_get {n : Nat} {E : Nat → Nat → Int} {N : Nat → Nat → ByteArray} {j : Nat} (hj : j < n * 12) : (shL n E N)[j]? = some (shV E N (j / 12) (j % 12)) := by
  unfold shL; rw [List.getElem?_map, List.getElem?_range hj]; rfl
theorem shL_one {n : Nat} {E : Nat → Nat → Int} {N : Nat → Nat → ByteArray} : ∀ u, u ∈ shL n E N → u.oneCell' = true := by
  intro u hu
  unfold shL at hu
  obtain ⟨j, _, rfl⟩ := List.mem_map.1 hu
  unfold shV
  split <;> rfl
theorem shL_row {n : Nat} {E : Nat → Nat → Int} {N : Nat → Nat → ByteArray} {i j : Nat} (hi : i < n) (hj : j < 12) : (shL n E N)[i * 12 + j]? = some (shV E N i j) := by
  rw [shL_get (by omega), show (i * 12 + j) / 12 = i by omega, show (i * 12 + j) % 12 = j by omega]
theorem ShF.cells {w : World} {b off n : Nat} {E : Nat → Nat → Int} {N : Nat → Nat → ByteArray} (h : ShF w (some ⟨b, off, none⟩) n E N) {j : Nat} (hj : j < n * 12) : w.cell? ((⟨b, off, none⟩ : Addr).add j) = some (shV E N (j / 12) (j % 12)) := by
  obtain ⟨b', off', he, hh⟩ := h (by omega)
  cases he
  obtain ⟨h1, h2, h3⟩ := hh (j / 12) (by omega)
  rw [show (⟨b, off, none⟩ : Addr).add j = ⟨b, off + j, none⟩ by simp [Addr.add]]
  unfold shV
  rw [show off + j = off + j / 12 * 12 + j % 12 by omega]
  split
  · exact h1 (j % 12) ‹_›
  · rcases (by omega : j % 12 = 10 ∨ j % 12 = 11) with e | e
    · rw [e]; exact h2
    · rw [e]; exact h3
set_option maxHeartbeats 4000000 in
theorem clone_any (n : Nat) (E : Nat → Nat → Int) (N : Nat → Nat → ByteArray) (a : Option Addr) (c : Nat) (w : World) (ha : ShF w a n E N) (h0 : 0 < n) (hn : n ≤ 1000) :
    Calls Tryd.prog 20 #[.slice a n c] w (ClonePost n E N w) := by
  obtain ⟨b, off, rfl, _⟩ := ha h0
  obtain ⟨ii, hii, hz0, hz1, hz2⟩ := info_parts shape_info
  have hnl : ∀ (w : World) (a : Option Addr) (n c : Nat), (binOp .eql 28 (.slice a n c) (.slice none 0 0)).run Tryd.prog w = .ok (.bool a.isNone) w := fun w a n c => Lib.run_eql_slice_nil w 28 30 a n c 0 0 Tryd.underlying28
  have hown : (w.alloc (.cells #[] 30)).ownsRow w.heap.size 30 12 (.slice (some ⟨w.heap.size, 0, none⟩) 0 0) 0 [] :=
    ⟨rfl, .inr ⟨w.heap.size, 0, #[], rfl, Nat.le_refl _, by show (w.heap.push _)[_]? = _; simp, Nat.le_refl _, by unfold maxLen; omega, rfl, rfl⟩⟩
  have HC := Lib.hid ha
  clear ha
  go_enter Tryd.func20, Tryd.ntmps20
  go_wp2_with (at_builtin; go_loud (refine wpList_append_own _ rfl _ _ 28 rfl w.heap.size 30 ii (.agg #[.int .i64 0, .int .i64 0, .int .i64 0, .int .i64 0, .int .i64 0, .int .i64 0, .int .i64 0, .int .i64 0, .int .i64 0, .int .i64 0, .string ⟨#[]⟩, .string ⟨#[]⟩]) 12 112 Tryd.underlying28 hii hz0 hz1 hz2 rfl (by decide) _ _ _ rfl hown ⟨b, off, none⟩ n c (shL n E N) rfl (shL_len n E N) ?c1 ?c2 ?c3 ?c4 ?c5 ?_))
  case c1 =>
    intro j u hj
    have hj1 := (List.getElem?_eq_some_iff.1 hj).1
    rw [shL_len] at hj1
    rw [shL_get hj1] at hj
    obtain rfl := Option.some.inj hj
    exact (((Below.refl w.heap.size w).alloc (Nat.le_refl _) _).cell (lt_of_cell (ShF.cells HC.out hj1))).trans (ShF.cells HC.out hj1)
  case c2 => exact shL_one
  case c3 => unfold maxLen; omega
  case c4 => omega
  case c5 => simp
  intro v' w2 hown' hgrow _
  have hbel : Below w.heap.size w w2 := ((Below.refl w.heap.size w).alloc (Nat.le_refl _) _).grown hgrow (by simp) (fun k hk => by simp [Value.ownBlock] at hk; omega)
  have hrow : ShR w2 w.heap.size v' n E N := by
    refine ⟨_, by simpa using hown', fun i hi j hj => ?_⟩
    exact shL_row hi hj
  have HR := Lib.hid hrow
  have HB := Lib.hid hbel
  clear hown' hgrow hrow hbel
  go_wp2_with fail
  go_ret
  exact ⟨HB.out, _, rfl, HR.out⟩
theorem floor_any (a b : Int) (w : World) (ha : In64 a) (hb : 2 ≤ b ∧ b ≤ 4294967296) :
    Calls Tryd.prog 22 #[.int .i64 a, .int .i64 b] w fun e w' => e = .returned (.int .i64 (a / b)) ∧ w = w' := by
  have HQ := Lib.hid (quot ha hb)
  clear ha
  go_enter Tryd.func22, Tryd.ntmps22
  go_wp2_with fail
  all_goals
    go_ret
    have hq := HQ.out
    refine ⟨show Ending.returned (.int .i64 _) = _ from ?_, rfl⟩
    refine congrArg (fun z => Ending.returned (.int .i64 z)) ?_
    rename_i h
    try rw [hq.2.2.2.1]
  · rw [hq.2.1 h, wrap_in (by omega)]
    omega
  · rw [hq.2.2.1 h]
theorem move_any (g o : Nat) (ax x b : Int) (c : Nat) (w : World) (hc : c = if ax = 0 then 3 else 4) (hx : w.cell? ⟨g, o + c, none⟩ = some (.int .i64 x)) (hf : w.frozen? ⟨g, o + c, none⟩ = false) :
    Calls Tryd.prog 21 #[.pointer (some ⟨g, o, none⟩), .int .i64 ax, .int .i64 b] w fun e w' => e = .returned (.tuple #[]) ∧ w' = w.setCell ⟨g, o + c, none⟩ (.int .i64 (wrap64 (x + b))) := by
  by_cases h : ax = 0
  · subst h
    obtain rfl : c = 3 := by rw [hc, if_pos rfl]
    clear hc
    go_enter Tryd.func21, Tryd.ntmps21
    go_wp2_with fail
    first | go_end0 | (simp only [Exit.inBlock, Exit.then]; refine bodyPost_ret (results_none rfl _ _ _) rfl ?_) | refine bodyPost_ret (results_none rfl _ _ _) rfl ?_
    exact ⟨rfl, rfl⟩
  · obtain rfl : c = 4 := by rw [hc, if_neg h]
    have f0 : (ax == 0) = false := by simpa using h
    clear hc h
    go_enter Tryd.func21, Tryd.ntmps21
    go_wp2_with fail
    first | go_end0 | (simp only [Exit.inBlock, Exit.then]; refine bodyPost_ret (results_none rfl _ _ _) rfl ?_) | refine bodyPost_ret (results_none rfl _ _ _) rfl ?_
    exact ⟨rfl, rfl⟩
end Go.Proofs.YtabnohphgegflaaDoor.ShT
