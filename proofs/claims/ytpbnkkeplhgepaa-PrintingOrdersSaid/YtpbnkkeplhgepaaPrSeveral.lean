
/-
  printing.Several.
-/
import Derived.Test.YtpbnkkeplhgepaaPrOrder
import Derived.Test.YtpbnkkeplhgepaaSides
namespace Go.Proofs.Ytpbnkkeplhgepaa.PO
open Go.RowKit Go.Law Ref
set_option linter.unusedVariables false
set_option linter.unusedSimpArgs false
set_option maxRecDepth 100000
theorem several_bad (n : Nat) (f : Nat → Int) (a : Option Addr) (c : Nat) (rows cols : Int) (dn : Bool) (w : World) (ha : IntsF w a n f) (hb : n ≤ 1000000000000000000) (he : listE n f ≠ 0) :
    Calls Try.prog 25 #[.slice a n c, .int .i64 rows, .int .i64 cols, .bool dn] w fun e w' => e = .returned (.tuple #[.slice none 0 0, .int .i64 (listE n f)]) ∧ w = w' := by
  have he' : (listE n f != 0) = true := by simpa using he
  clear he
  go_enter Try.func25, Try.ntmps25
  go_wp2_with fail
  refine (check_any n f _ _ _ ha hb).mono ?_
  rintro e w1 ⟨rfl, rfl⟩
  go_wp2_with fail
  go_ret2
  exact ⟨rfl, rfl⟩
theorem several_range (n : Nat) (f : Nat → Int) (a : Option Addr) (c : Nat) (rows cols : Int) (dn : Bool) (w : World) (ha : IntsF w a n f) (hb : n ≤ 1000000000000000000) (he : listE n f = 0) (hc : ¬ (1 ≤ rows ∧ rows ≤ 8 ∧ 1 ≤ cols ∧ cols ≤ 8)) :
    Calls Try.prog 25 #[.slice a n c, .int .i64 rows, .int .i64 cols, .bool dn] w fun e w' => e = .returned (.tuple #[.slice none 0 0, .int .i64 2]) ∧ w = w' := by
  have HC := Lib.hid hc
  clear hc
  go_enter Try.func25, Try.ntmps25
  go_wp2_with fail
  refine (check_any n f _ _ _ ha hb).mono ?_
  rintro e w1 ⟨rfl, rfl⟩
  go_wp2_with fail
  all_goals first | (exfalso; have := HC.out; omega) | skip
  all_goals
    go_ret2
    exact ⟨rfl, rfl⟩
def SevPost (n r c m : Nat) (dn : Bool) (f : Nat → Int) (w : World) (e : Ending) (w' : World) : Prop :=
  Below w.heap.size w w' ∧ ∃ v cnt, e = .returned (.tuple #[v, .int .i64 0]) ∧ n ≤ cnt * m ∧ cnt * m < n + m ∧ SevInv w' w.heap.size v cnt m n r c dn f
set_option maxHeartbeats 8000000 in
theorem several_ok (n r c m : Nat) (f : Nat → Int) (a : Option Addr) (ca : Nat) (dn : Bool) (w : World) (ha : IntsF w a n f) (he : listE n f = 0) (hn : n ≤ 10000) (hr : 1 ≤ r ∧ r ≤ 8) (hc : 1 ≤ c ∧ c ≤ 8) (hm : (r : Int) * (c : Int) = (m : Int)) :
    Calls Try.prog 25 #[.slice a n ca, .int .i64 (r : Int), .int .i64 (c : Int), .bool dn] w (SevPost n r c m dn f w) := by
  have hm64 : m ≤ 64 := by
    have h1 : r * c ≤ 8 * 8 := Nat.mul_le_mul hr.2 hc.2
    have h2 : r * c = m := by exact_mod_cast hm
    omega
  have hm0 : 0 < m := by
    have h1 : 1 * 1 ≤ r * c := Nat.mul_le_mul hr.1 hc.1
    have h2 : r * c = m := by exact_mod_cast hm
    omega
  have HM := Lib.hid (show m = r * c by exact_mod_cast hm.symm)
  obtain ⟨hr1, hr2⟩ := hr
  obtain ⟨hc1, hc2⟩ := hc
  have hmk := make_ints m (by omega)
  obtain ⟨ii, hii, hz0, hz1, hz2⟩ := info_parts (show (Try.prog.info? 34).map (fun i => (i.zero, i.size, i.bytes)) = some (some (.slice none 0 0), 1, 24) by kernel_rfl)
  cases dn
  · go_enter Try.func25, Try.ntmps25
    go_wp2_with fail
    refine (check_any n f _ _ _ ha (by omega)).mono ?_
    rintro e w1 ⟨rfl, rfl⟩
    go_wp2_with fail
    go_loopw [11, 36] (fun v ix wr => ∃ k cnt : Nat, ix = .int .i64 k ∧ k ≤ n ∧ k ≤ cnt * m ∧ cnt * m < k + m ∧ SevInv wr w.heap.size v cnt m k r c false f ∧ Below w.heap.size w wr) (fun _ ix _ => n - (intOf ix).toNat)
    case atStart => exact ⟨0, 0, rfl, by omega, by omega, by omega, SevInv.nil _ _ _ _ _ _ _, Below.refl _ _⟩
    case round =>
      obtain ⟨k, cnt, rfl, hk, hlo, hhi, hsev, hbel⟩ := hrel
      by_cases hkn : k < n
      · obtain ⟨b, off, rfl, hcl⟩ := ha (by omega)
        have hd1 := hcl k hkn
        have d1 := (hbel.cell (lt_of_cell hd1)).trans hd1
        have hsz := hbel.size
        have hcn : cnt ≤ k + m := by
          have := Nat.le_mul_of_pos_right cnt hm0
          omega
        clear hcl
        obtain ⟨i0, hi⟩ : ∃ i : Nat, (k : Int) % (m : Int) = (i : Int) := ⟨k % m, by simp⟩
        have hik : i0 = k % m := by have : ((k % m : Nat) : Int) = (i0 : Int) := by rw [← hi]; simp
                                    omega
        have hi0 : i0 < m := by rw [hik]; exact Nat.mod_lt _ hm0
        have hdm := Nat.div_add_mod k m
        rw [← hik, Nat.mul_comm] at hdm
        have hst : i0 = stF r c false i0 := rfl
        have hstm : i0 < m := by rw [hst, HM.out]; exact stF_lt (by rw [← HM.out]; exact hi0)
        by_cases hz : i0 = 0
        · clear hst hstm
          subst hz
          have hkc : k = cnt * m := by
            rcases Nat.lt_or_ge (k / m) cnt with h | h
            · have h1 : (k / m + 1) * m ≤ cnt * m := Nat.mul_le_mul_right m h
              rw [Nat.succ_mul] at h1
              omega
            · have h1 : cnt * m ≤ (k / m) * m := Nat.mul_le_mul_right m h
              omega
          have HK := Lib.hid (show cnt * m + 0 = k by omega)
          have HST := Lib.hid (show 0 = stF r c false 0 by simp [stF])
          have hstm : 0 < m := hm0
          have HKC := Lib.hid hkc
          have HHI := Lib.hid hhi
          clear hik hdm hkc hlo hhi
          obtain ⟨xs, hown, hpush⟩ := hsev.row
          clear hsev
          have HP := Lib.hid hpush
          clear hpush
          go_wp2_with (at_builtin; go_loud (refine wpList_append_own _ rfl _ _ 46 rfl (w.heap.size) 34 ii (.slice none 0 0) 1 24 Try.underlying46 hii hz0 hz1 hz2 rfl (by decide) _ _ _ rfl ((hown.alloc _).alloc _) ⟨wr.heap.size + 1, 0, none⟩ 1 1 [.slice (some ⟨wr.heap.size, 0, none⟩) m m] rfl rfl ?c1 ?c2 ?c3 ?c4 ?c5 ?_))
          case c1 =>
            intro j u hj
            match j, hj with
            | 0, hj => simp at hj; subst hj; simp [Addr.add]
          case c2 => intro u hu; simp at hu; subst hu; rfl
          case c3 => unfold maxLen; omega
          case c4 => omega
          case c5 => simp; omega
          intro v' w1 hown' hgrow _
          have hsev := HP.out HKC.out hsz w1 v' _ hgrow hown'
          have hbel1 : Below w.heap.size w w1 := ((hbel.alloc hsz _).alloc (by simp; omega) _).grown hgrow (by simp; omega) (ownBlock_ge hown)
          have d1 : w1.cell? ⟨b, off + k, none⟩ = some (.int .i64 (f k)) := (hbel1.cell (lt_of_cell hd1)).trans hd1
          clear hown' hgrow hown hbel
          obtain ⟨gv, capv, gl, rfl, hgv, hcv, hcv2, hld, hgl, hcell, hfr, hset⟩ := (hsev).read
          clear hsev
          have HC := Lib.hid hcell
          have HSET := Lib.hid hset
          have f1 := hfr (0)
          have o1 := hcell (0) hstm
          clear hcell hset hfr
          obtain ⟨y1, hy1⟩ : ∃ y, y = sideF m k r c false f cnt (0) := ⟨_, rfl⟩
          rw [← hy1] at o1
          clear hy1
          go_wp2_with fail
          go_roundw
          case rel => exact ⟨k + 1, cnt + 1, by go_num, by omega, by have := HK.out; rw [Nat.succ_mul]; omega, by have := HK.out; rw [Nat.succ_mul]; omega, (HSET.out (0) (0) _ hi0 HM.out HK.out HST.out rfl).heap rfl, by first | exact (hbel1).setCell hgl _ | exact ((hbel1).drew).setCell hgl _ | exact (below_drewN (hbel1) _).setCell hgl _⟩
          case measure => simp [intOf]; omega
        · obtain ⟨c1, rfl⟩ : ∃ c1, cnt = c1 + 1 := ⟨cnt - 1, by
            rcases Nat.eq_zero_or_pos cnt with h | h
            · rw [h, Nat.zero_mul] at hlo
              have : k = 0 := by omega
              rw [this, Nat.zero_mod] at hik
              omega
            · omega⟩
          have HK := Lib.hid (show c1 * m + i0 = k by
            rw [Nat.succ_mul] at hlo hhi
            rcases Nat.lt_or_ge (k / m) c1 with h | h
            · have h1 : (k / m + 1) * m ≤ c1 * m := Nat.mul_le_mul_right m h
              rw [Nat.succ_mul] at h1
              omega
            · rcases Nat.lt_or_ge c1 (k / m) with h2 | h2
              · have h1 : (c1 + 1) * m ≤ (k / m) * m := Nat.mul_le_mul_right m h2
                rw [Nat.succ_mul] at h1
                omega
              · rw [← hdm, show k / m = c1 by omega])
          have HST := Lib.hid hst
          clear hst hik hdm hlo hhi
          obtain ⟨gv, capv, gl, rfl, hgv, hcv, hcv2, hld, hgl, hcell, hfr, hset⟩ := (hsev).read
          clear hsev
          have HC := Lib.hid hcell
          have HSET := Lib.hid hset
          have f1 := hfr (i0)
          have o1 := hcell (i0) hstm
          clear hcell hset hfr
          obtain ⟨y1, hy1⟩ : ∃ y, y = sideF m k r c false f c1 (i0) := ⟨_, rfl⟩
          rw [← hy1] at o1
          clear hy1
          go_wp2_with fail
          go_roundw
          case rel => exact ⟨k + 1, c1 + 1, by go_num, by omega, by have := HK.out; rw [Nat.succ_mul]; omega, by have := HK.out; rw [Nat.succ_mul]; omega, (HSET.out (i0) (i0) _ hi0 HM.out HK.out HST.out rfl).heap rfl, by first | exact (hbel).setCell hgl _ | exact ((hbel).drew).setCell hgl _ | exact (below_drewN (hbel) _).setCell hgl _⟩
          case measure => simp [intOf]; omega
      · obtain rfl : n = k := by omega
        go_wp2_with fail
        go_ret2
        exact ⟨hbel, _, cnt, rfl, hlo, hhi, hsev⟩
  · go_enter Try.func25, Try.ntmps25
    go_wp2_with fail
    refine (check_any n f _ _ _ ha (by omega)).mono ?_
    rintro e w1 ⟨rfl, rfl⟩
    go_wp2_with fail
    go_loopw [11, 36] (fun v ix wr => ∃ k cnt : Nat, ix = .int .i64 k ∧ k ≤ n ∧ k ≤ cnt * m ∧ cnt * m < k + m ∧ SevInv wr w.heap.size v cnt m k r c true f ∧ Below w.heap.size w wr) (fun _ ix _ => n - (intOf ix).toNat)
    case atStart => exact ⟨0, 0, rfl, by omega, by omega, by omega, SevInv.nil _ _ _ _ _ _ _, Below.refl _ _⟩
    case round =>
      obtain ⟨k, cnt, rfl, hk, hlo, hhi, hsev, hbel⟩ := hrel
      by_cases hkn : k < n
      · obtain ⟨b, off, rfl, hcl⟩ := ha (by omega)
        have hd1 := hcl k hkn
        have d1 := (hbel.cell (lt_of_cell hd1)).trans hd1
        have hsz := hbel.size
        have hcn : cnt ≤ k + m := by
          have := Nat.le_mul_of_pos_right cnt hm0
          omega
        clear hcl
        obtain ⟨i0, hi⟩ : ∃ i : Nat, (k : Int) % (m : Int) = (i : Int) := ⟨k % m, by simp⟩
        have hik : i0 = k % m := by have : ((k % m : Nat) : Int) = (i0 : Int) := by rw [← hi]; simp
                                    omega
        have hi0 : i0 < m := by rw [hik]; exact Nat.mod_lt _ hm0
        have hdm := Nat.div_add_mod k m
        rw [← hik, Nat.mul_comm] at hdm
        obtain ⟨st, hst⟩ : ∃ st, st = stF r c true i0 := ⟨_, rfl⟩
        have hr0 : 0 < r := by omega
        obtain ⟨x1, hx1⟩ : ∃ x : Nat, (i0 : Int) % (r : Int) = (x : Int) := ⟨i0 % r, by simp⟩
        obtain ⟨x2, hx2⟩ : ∃ x : Nat, (i0 : Int) / (r : Int) = (x : Int) := ⟨i0 / r, by simp⟩
        obtain ⟨x3, hx3⟩ : ∃ x : Nat, (x1 : Int) * (c : Int) = (x : Int) := ⟨x1 * c, by simp⟩
        have hx4 : (x3 : Int) + (x2 : Int) = (st : Int) := by
          rw [hst, ← hx3, ← hx2, ← hx1]
          simp [stF]
        have hst1 : st < m := by rw [hst, HM.out]; exact stF_lt (by rw [← HM.out]; exact hi0)
        have hx5 : x3 ≤ 1000 := by omega
        have hx6 : x2 ≤ 1000 := by omega
        have hstm : st < m := by rw [hst, HM.out]; exact stF_lt (by rw [← HM.out]; exact hi0)
        by_cases hz : i0 = 0
        · clear hst hstm
          subst hz
          have hkc : k = cnt * m := by
            rcases Nat.lt_or_ge (k / m) cnt with h | h
            · have h1 : (k / m + 1) * m ≤ cnt * m := Nat.mul_le_mul_right m h
              rw [Nat.succ_mul] at h1
              omega
            · have h1 : cnt * m ≤ (k / m) * m := Nat.mul_le_mul_right m h
              omega
          have HK := Lib.hid (show cnt * m + 0 = k by omega)
          have HST := Lib.hid (show 0 = stF r c true 0 by simp [stF])
          have hstm : 0 < m := hm0
          have HKC := Lib.hid hkc
          have HHI := Lib.hid hhi
          clear hik hdm hkc hlo hhi
          obtain ⟨xs, hown, hpush⟩ := hsev.row
          clear hsev
          have HP := Lib.hid hpush
          clear hpush
          go_wp2_with (at_builtin; go_loud (refine wpList_append_own _ rfl _ _ 46 rfl (w.heap.size) 34 ii (.slice none 0 0) 1 24 Try.underlying46 hii hz0 hz1 hz2 rfl (by decide) _ _ _ rfl ((hown.alloc _).alloc _) ⟨wr.heap.size + 1, 0, none⟩ 1 1 [.slice (some ⟨wr.heap.size, 0, none⟩) m m] rfl rfl ?c1 ?c2 ?c3 ?c4 ?c5 ?_))
          case c1 =>
            intro j u hj
            match j, hj with
            | 0, hj => simp at hj; subst hj; simp [Addr.add]
          case c2 => intro u hu; simp at hu; subst hu; rfl
          case c3 => unfold maxLen; omega
          case c4 => omega
          case c5 => simp; omega
          intro v' w1 hown' hgrow _
          have hsev := HP.out HKC.out hsz w1 v' _ hgrow hown'
          have hbel1 : Below w.heap.size w w1 := ((hbel.alloc hsz _).alloc (by simp; omega) _).grown hgrow (by simp; omega) (ownBlock_ge hown)
          have d1 : w1.cell? ⟨b, off + k, none⟩ = some (.int .i64 (f k)) := (hbel1.cell (lt_of_cell hd1)).trans hd1
          clear hown' hgrow hown hbel
          obtain ⟨gv, capv, gl, rfl, hgv, hcv, hcv2, hld, hgl, hcell, hfr, hset⟩ := (hsev).read
          clear hsev
          have HC := Lib.hid hcell
          have HSET := Lib.hid hset
          have f1 := hfr (0)
          have o1 := hcell (0) hstm
          clear hcell hset hfr
          obtain ⟨y1, hy1⟩ : ∃ y, y = sideF m k r c true f cnt (0) := ⟨_, rfl⟩
          rw [← hy1] at o1
          clear hy1
          go_wp2_with fail
          go_quiet (fail)
          go_wp2_with fail
          go_roundw
          case rel => exact ⟨k + 1, cnt + 1, by go_num, by omega, by have := HK.out; rw [Nat.succ_mul]; omega, by have := HK.out; rw [Nat.succ_mul]; omega, (HSET.out (0) (0) _ hi0 HM.out HK.out HST.out rfl).heap rfl, by first | exact (hbel1).setCell hgl _ | exact ((hbel1).drew).setCell hgl _ | exact (below_drewN (hbel1) _).setCell hgl _⟩
          case measure => simp [intOf]; omega
        · obtain ⟨c1, rfl⟩ : ∃ c1, cnt = c1 + 1 := ⟨cnt - 1, by
            rcases Nat.eq_zero_or_pos cnt with h | h
            · rw [h, Nat.zero_mul] at hlo
              have : k = 0 := by omega
              rw [this, Nat.zero_mod] at hik
              omega
            · omega⟩
          have HK := Lib.hid (show c1 * m + i0 = k by
            rw [Nat.succ_mul] at hlo hhi
            rcases Nat.lt_or_ge (k / m) c1 with h | h
            · have h1 : (k / m + 1) * m ≤ c1 * m := Nat.mul_le_mul_right m h
              rw [Nat.succ_mul] at h1
              omega
            · rcases Nat.lt_or_ge c1 (k / m) with h2 | h2
              · have h1 : (c1 + 1) * m ≤ (k / m) * m := Nat.mul_le_mul_right m h2
                rw [Nat.succ_mul] at h1
                omega
              · rw [← hdm, show k / m = c1 by omega])
          have HST := Lib.hid hst
          clear hst hik hdm hlo hhi
          obtain ⟨gv, capv, gl, rfl, hgv, hcv, hcv2, hld, hgl, hcell, hfr, hset⟩ := (hsev).read
          clear hsev
          have HC := Lib.hid hcell
          have HSET := Lib.hid hset
          have f1 := hfr (st)
          have o1 := hcell (st) hstm
          clear hcell hset hfr
          obtain ⟨y1, hy1⟩ : ∃ y, y = sideF m k r c true f c1 (st) := ⟨_, rfl⟩
          rw [← hy1] at o1
          clear hy1
          go_wp2_with fail
          go_quiet (fail)
          go_wp2_with fail
          go_roundw
          case rel => exact ⟨k + 1, c1 + 1, by go_num, by omega, by have := HK.out; rw [Nat.succ_mul]; omega, by have := HK.out; rw [Nat.succ_mul]; omega, (HSET.out (st) (i0) _ hi0 HM.out HK.out HST.out rfl).heap rfl, by first | exact (hbel).setCell hgl _ | exact ((hbel).drew).setCell hgl _ | exact (below_drewN (hbel) _).setCell hgl _⟩
          case measure => simp [intOf]; omega
      · obtain rfl : n = k := by omega
        go_wp2_with fail
        go_ret2
        exact ⟨hbel, _, cnt, rfl, hlo, hhi, hsev⟩
end Go.Proofs.Ytpbnkkeplhgepaa.PO
