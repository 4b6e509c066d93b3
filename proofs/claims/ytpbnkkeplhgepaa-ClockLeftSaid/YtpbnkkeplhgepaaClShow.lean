
/-
  clock.show: a slide is shown.
-/
import Derived.Test.YtpbnkkeplhgepaaClPass
namespace Go.Proofs.Ytpbnkkeplhgepaa.CL
open Go.RowKit Go.Law Go.Law.Cl
set_option linter.unusedVariables false
set_option linter.unusedSimpArgs false
set_option maxRecDepth 100000
theorem addN_upd {m q : Nat} {x : Int} {F : Nat → Int} (hone : ∀ i j, i < j → j < m → F (i * 3) ≠ F (j * 3)) (hq : q < m) (he : F (q * 3) = x) :
    ∀ j, j < m * 3 → upd F (q * 3 + 2) (F (q * 3 + 2) + 1) j = addN x F j := by
  intro j hj
  unfold upd
  by_cases h1 : j = q * 3 + 2
  · subst h1
    rw [if_pos rfl, addN_2, if_pos he]
  · rw [if_neg h1]
    unfold addN
    by_cases h2 : j % 3 = 2 ∧ F (j - 2) = x
    · exfalso
      obtain ⟨h3, h4⟩ := h2
      have h5 : j - 2 = (j / 3) * 3 := by omega
      rw [h5] at h4
      rcases Nat.lt_trichotomy (j / 3) q with h | h | h
      · exact hone _ _ h hq (h4.trans he.symm)
      · omega
      · exact hone _ _ h (by omega) (he.trans h4.symm)
    · rw [if_neg h2]
theorem Held.congr {w : World} {R base : Nat} {s s' : St} {v : Value} (h : Held w R base s v) (h1 : s'.run = s.run) (h2 : s'.tot = s.tot) (h3 : s'.sl = s.sl) (h4 : s'.m = s.m) (h5 : ∀ j, j < s.m * 3 → s.F j = s'.F j) : Held w R base s' v := by
  obtain ⟨r', t', l', m', F'⟩ := s'
  simp only at h1 h2 h3 h4 h5
  subst h1 h2 h3 h4
  exact ⟨h.box, h.row.congr h5, h.low⟩
theorem showS_found {s : St} {x : Int} (h : has s x) : showS s x = { s with sl := x, F := if s.sl = x then s.F else addN x s.F } := by unfold showS; rw [if_pos h]
theorem showS_new {s : St} {x : Int} (h : ¬ has s x) : showS s x = { s with sl := x, m := s.m + 1, F := newF s.m x 1 s.F } := by unfold showS; rw [if_neg h]
def ShowPost (R base : Nat) (s : St) (x : Int) (v : Value) (w : World) (e : Ending) (w' : World) : Prop :=
  e = .returned (.tuple #[]) ∧ Aside R v w w' ∧ ∃ v', Held w' R base (showS s x) v'
set_option maxHeartbeats 4000000 in
theorem show_any (R base : Nat) (s : St) (c x : Int) (k : Nat) (v : Value) (w : World) (hH : Held w R base s v) (hG : Cl.Good s c k) (hx : 0 < x) (hk : k ≤ 10000) (hB : base ≤ w.heap.size) :
    Calls Try.prog 50 #[.pointer (some ⟨R, 0, none⟩), .int .i64 x] w (ShowPost R base s x v w) := by
  obtain ⟨run, tot, sl, m, F⟩ := s
  have r2 := hH.box.sl
  have z2 := hH.box.frozen 2
  have z3 := hH.box.frozen 3
  have hR := hH.box.lt
  simp only at r2
  obtain ⟨aS, cap, rfl, hcap, hcm⟩ := hH.row.slice
  simp only at hcap hcm
  have hm := hG.many
  simp only at hm
  have HG := Lib.hid hG
  have r3 := hH.box.row
  simp only at r3
  have HH := Lib.hid hH
  clear hG hH
  obtain ⟨ii, hii, hz0, hz1, hz2⟩ := info_parts (show (Try.prog.info? 74).map (fun i => (i.zero, i.size, i.bytes)) = some (some (.agg #[.int .i64 0, .int .i64 0, .int .i64 0]), 3, 24) by kernel_rfl)
  obtain ⟨again, hag⟩ : ∃ again, again = (sl == x) := ⟨_, rfl⟩
  have g1 : (sl == x) = again := hag.symm
  have HAG := Lib.hid hag
  clear hag
  go_enter Try.func50, Try.ntmps50
  go_wp2_with fail
  go_loopw [21] (fun ix wr => ∃ q : Nat, ix = .int .i64 q ∧ q ≤ m ∧ w.setCell ⟨R, 2, none⟩ (.int .i64 x) = wr ∧ ∀ i, i < q → F (i * 3) ≠ x) (fun ix _ => m - (intOf ix).toNat)
  case atStart => exact ⟨0, rfl, by omega, rfl, fun i hi => by omega⟩
  case round =>
    obtain ⟨q, rfl, hq, hw, hno⟩ := hrel
    have hH2 : Held wr R base ⟨run, tot, x, m, F⟩ (.slice aS m cap) := by
      rw [← hw]
      exact ⟨HH.out.box.setSl x, HH.out.row.other HH.out.ne _, HH.out.low⟩
    have has2 : Aside R (.slice aS m cap) w wr := by rw [← hw]; exact (Aside.refl _ _ _).setR 2 _
    have q3 := hH2.box.row

    have HNO := Lib.hid hno
    have HW := Lib.hid hw
    have hsz := has2.size
    have hR2 := hH2.box.lt
    have z4 := hH2.box.frozen 3
    clear hno hw r2 r3 z2 z3
    by_cases hqm : q < m
    · obtain ⟨g, cap', hv, hg, hgl, _, _, hfz, hcells⟩ := hH2.row.at (by show 0 < m; omega)
      cases hv
      have e0 := hcells (q * 3) (by show q * 3 < m * 3; omega)
      have e2 := hcells (q * 3 + 2) (by show q * 3 + 2 < m * 3; omega)
      have f1 := hfz (q * 3 + 2)
      simp only at e0 e2
      obtain ⟨hb1, hb2⟩ := HG.out.num q hqm
      simp only at hb1 hb2
      have HH2 := Lib.hid hH2
      have HAS := Lib.hid has2
      clear hcells hfz hH2 has2
      by_cases he : F (q * 3) = x
      · have d9 : (F (q * 3) == x) = true := by simpa using he
        have HS := Lib.hid (showS_found (s := ⟨run, tot, sl, m, F⟩) ⟨q, hqm, he⟩)
        have HU := Lib.hid (addN_upd HG.out.one hqm he)
        rw [he] at e0
        clear he
        rcases again with _ | _
        · have hne : sl ≠ x := by have := HAG.out; simpa using this.symm
          have HNE := Lib.hid hne
          clear hne
          go_wp2_with fail
          first | go_end0 | (simp only [Exit.inBlock, Exit.then]; refine bodyPost_ret (results_none rfl _ _ _) rfl ?_) | refine bodyPost_ret (results_none rfl _ _ _) rfl ?_
          refine ⟨rfl, (HAS.out).setRow (p := ⟨g, q * 3 + 2, none⟩) rfl _, .slice (some ⟨g, 0, none⟩) m cap, ?_⟩
          rw [HS.out, if_neg HNE.out]
          refine Held.congr (s := ⟨run, tot, x, m, upd F (q * 3 + 2) (F (q * 3 + 2) + 1)⟩) ⟨?_, ?_, HH2.out.low⟩ rfl rfl rfl rfl HU.out
          · exact HH2.out.box.block (Below.heap_setCell _ _ _ _ (by have := HH2.out.low; show R ≠ g; omega))
          · exact HH2.out.row.set (q * 3 + 2) (by show q * 3 + 2 < m * 3; omega) _
        · have hne : sl = x := by have := HAG.out; simpa using this.symm
          have HNE := Lib.hid hne
          clear hne
          go_wp2_with fail
          first | go_end0 | (simp only [Exit.inBlock, Exit.then]; refine bodyPost_ret (results_none rfl _ _ _) rfl ?_) | refine bodyPost_ret (results_none rfl _ _ _) rfl ?_
          refine ⟨rfl, HAS.out, .slice (some ⟨g, 0, none⟩) m cap, ?_⟩
          rw [HS.out, if_pos HNE.out]
          exact HH2.out
      · have d9 : (F (q * 3) == x) = false := by simpa using he
        have HE := Lib.hid he
        clear he
        go_wp2_with fail
        go_roundw
        case rel =>
          exact ⟨q + 1, by go_num, by omega, HW.out, fun i hi => by rcases Nat.lt_or_ge i q with h | h; exact HNO.out i h; rw [show i = q by omega]; exact HE.out⟩
        case measure => simp [intOf]; omega
    · obtain rfl : q = m := by omega
      obtain ⟨xs, hown, hxs⟩ := hH2.row
      simp only at hown hxs
      have HX := Lib.hid hxs
      have HH2 := Lib.hid hH2
      have HAS := Lib.hid has2
      have hl := hown.1
      have HL := Lib.hid hl
      clear hxs hH2 has2 hl
      go_wp2_with (at_builtin; go_loud (refine wpList_append_own _ rfl _ _ 65 rfl base 74 ii (.agg #[.int .i64 0, .int .i64 0, .int .i64 0]) 3 24 Try.underlying65 hii hz0 hz1 hz2 rfl (by decide) _ _ _ rfl (hown.alloc _) ⟨wr.heap.size, 0, none⟩ 1 1 [.int .i64 x, .int .i64 0, .int .i64 1] rfl rfl ?c1 ?c2 ?c3 ?c4 ?c5 ?_))
      case c1 =>
        intro j u hj
        match j, hj with
        | 0, hj => simp at hj; subst hj; simp [Addr.add]
        | 1, hj => simp at hj; subst hj; simp [Addr.add]
        | 2, hj => simp at hj; subst hj; simp [Addr.add]
      case c2 => intro u hu; simp at hu; rcases hu with rfl | rfl | rfl <;> rfl
      case c3 => unfold maxLen; omega
      case c4 => omega
      case c5 => simp; omega
      intro v' w2 hown' hgrow _
      have hbx : Rec w2 R ⟨run, tot, x, q, F⟩ (.slice aS q cap) :=
        HH2.out.box.block ((hgrow.block R (by simp; omega) (fun e => HH2.out.ne e.symm)).trans (Below.heap_alloc _ _ _ hR2))
      have z5 := hbx.frozen 3
      have q5 := hbx.row
      have hrow : RowI w2 base 74 3 v' (q + 1) (newF q x 1 F) := RowI.push hown' HL.out HX.out
        (fun j hj => by
          match j, hj with
          | 0, _ => simp [newF]
          | 1, _ => simp [newF]
          | 2, _ => simp [newF])
        (fun i hi => by unfold newF; rw [if_neg (by omega), if_neg (by omega), if_neg (by omega)])
      obtain ⟨a', cap', rfl, _, _⟩ := hrow.slice
      have has3 : Aside R (.slice aS q cap) w w2 := (HAS.out.alloc _).grown hgrow
      have HROW := Lib.hid hrow
      have HBX := Lib.hid hbx
      have HAS3 := Lib.hid has3
      have hns : ¬ has (⟨run, tot, sl, q, F⟩ : St) x := fun ⟨i, hi, he⟩ => HNO.out i hi he
      have HS := Lib.hid (showS_new hns)
      clear hown' hgrow hown hrow hbx has3 hns
      go_wp2_with fail
      first | go_end0 | (simp only [Exit.inBlock, Exit.then]; refine bodyPost_ret (results_none rfl _ _ _) rfl ?_) | refine bodyPost_ret (results_none rfl _ _ _) rfl ?_
      refine ⟨rfl, HAS3.out.setR 3 _, .slice a' (q + 1) cap', ?_⟩
      rw [HS.out]
      exact ⟨HBX.out.setRow _, HROW.out.other (fun e => by have := HROW.out.ge R e; have := HH2.out.low; omega) _, HH2.out.low⟩
end Go.Proofs.Ytpbnkkeplhgepaa.CL
