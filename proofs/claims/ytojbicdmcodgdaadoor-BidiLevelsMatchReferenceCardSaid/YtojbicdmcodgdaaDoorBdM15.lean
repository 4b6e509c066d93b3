/-
  BdLevW.
-/
import Derived.Test.YtojbicdmcodgdaaDoorBdM04
import Derived.Test.YtojbicdmcodgdaaDoorBdM07
import Derived.Test.YtojbicdmcodgdaaDoorBdM10
import Derived.Test.YtojbicdmcodgdaaDoorBdM14
namespace Go.Proofs.YtojbicdmcodgdaaDoor.BD
open Go.RowKit Go.Law Go.Law.Bd
set_option linter.unusedVariables false
set_option linter.unusedSimpArgs false
set_option maxRecDepth 100000
/-- the level ahead of a place -/
def lastB (O : Nat → Bool) (L : Nat → Int) (base : Int) : Nat → Int
  | 0 => base
  | i + 1 => outL O L base i
theorem outL_last {O : Nat → Bool} {L : Nat → Int} {base : Int} {i : Nat} (h : O i = true) : outL O L base i = lastB O L base i := by
  cases i with
  | zero => rw [outL, if_pos h]; rfl
  | succ i => rw [outL, if_pos h]; rfl
theorem outL_own {O : Nat → Bool} {L : Nat → Int} {base : Int} {i : Nat} (h : O i = false) : outL O L base i = L i := by
  cases i with
  | zero => rw [outL, if_neg (by rw [h]; decide)]
  | succ i => rw [outL, if_neg (by rw [h]; decide)]
/-- what Levels answers -/
def LevPost (w : World) (n : Nat) (T : Nat → Int) (dir : Int) (e : Ending) (w' : World) : Prop :=
  Below w.heap.size w w' ∧
  if textE T n ≠ 0 then e = .returned (.tuple #[.slice none 0 0, .int .i64 0, .int .i64 (textE T n)])
  else if dir < -1 ∨ 1 < dir then e = .returned (.tuple #[.slice none 0 0, .int .i64 0, .int .i64 1])
  else ∃ g, e = .returned (.tuple #[.slice (some ⟨g, 0, none⟩) n n, .int .i64 (baseB T n dir), .int .i64 0]) ∧ OwnF w' 3 g n (bidiLv T (fun i => clsB (T i)) (baseB T n dir) n) ∧ w.heap.size ≤ g
set_option maxHeartbeats 16000000 in
theorem levels_any (n : Nat) (T : Nat → Int) (ta : Option Addr) (tc : Nat) (dir : Int) (w : World) (ha : IntsF w ta n T) (hn : n ≤ 200) (ht : TabC w 1 3 tableT) (htb : TabC w 2 2 bracketsT) :
    Calls Tryd.prog 5 #[.slice ta n tc, .int .i64 dir] w (LevPost w n T dir) := by
  have HT := Lib.hid ha
  have HTB := Lib.hid ht
  have HBR := Lib.hid htb
  have HBASE := Lib.hid (base_any n T ta tc dir w ha (by omega) ht)
  have hmk := fun w => Ref.make_ints n (by omega) w
  have hmkb := fun w => make_bools n (by omega) w
  clear ha ht htb
  unfold LevPost
  obtain ⟨E, hE⟩ : ∃ E, E = textE T n := ⟨_, rfl⟩
  have HE := Lib.hid hE
  by_cases he : E ≠ 0
  · have HB2 := Lib.hid (show Calls Tryd.prog 6 #[.slice ta n tc, .int .i64 dir] w fun e w' => e = .returned (.tuple #[.int .i64 0, .int .i64 E]) ∧ Below w.heap.size w w' from HBASE.out.mono fun e w' h => by
      unfold BasePost at h
      rw [← HE.out, if_pos he, if_pos he] at h
      exact h)
    have hE2 : (E != 0) = true := by simpa using he
    rw [← hE]
    have HE3 := Lib.hid he
    clear hE he HBASE
    go_enter Tryd.func5, Tryd.ntmps5
    go_wp2_with fail
    refine HB2.out.mono ?_
    rintro e9 w9 ⟨rfl, hb⟩
    have HB := Lib.hid hb
    clear hb HB2
    go_wp2_with fail
    go_ret3
    exact ⟨HB.out, by first | rfl | rw [if_pos HE3.out]⟩
  · obtain rfl : E = 0 := by omega
    by_cases hd : dir < -1 ∨ 1 < dir
    · have HB2 := Lib.hid (show Calls Tryd.prog 6 #[.slice ta n tc, .int .i64 dir] w fun e w' => e = .returned (.tuple #[.int .i64 0, .int .i64 1]) ∧ Below w.heap.size w w' from HBASE.out.mono fun e w' h => by
        unfold BasePost at h
        rw [← HE.out, if_neg (show ¬ ((0:Int) ≠ 0) from fun h => h rfl), if_neg (show ¬ ((0:Int) ≠ 0) from fun h => h rfl), if_pos hd, if_pos hd] at h
        exact h)
      rw [← hE]
      have HD := Lib.hid hd
      clear hE he HBASE hd
      go_enter Tryd.func5, Tryd.ntmps5
      go_wp2_with fail
      refine HB2.out.mono ?_
      rintro e9 w9 ⟨rfl, hb⟩
      have HB := Lib.hid hb
      clear hb HB2
      go_wp2_with fail
      go_ret3
      exact ⟨HB.out, by first | rfl | (rw [if_neg (fun h => h rfl), if_pos HD.out])⟩
    · obtain ⟨base, hbase⟩ : ∃ b, b = baseB T n dir := ⟨_, rfl⟩
      have HBS := Lib.hid hbase
      have hbr : base = 0 ∨ base = 1 := by
        rw [hbase]
        unfold baseB
        split
        · exact fst_range _ _ _ _ _ _ rfl
        · omega
      have HB2 := Lib.hid (show Calls Tryd.prog 6 #[.slice ta n tc, .int .i64 dir] w fun e w' => e = .returned (.tuple #[.int .i64 base, .int .i64 0]) ∧ Below w.heap.size w w' from HBASE.out.mono fun e w' h => by
        unfold BasePost at h
        rw [← HE.out, if_neg (show ¬ ((0:Int) ≠ 0) from fun h => h rfl), if_neg (show ¬ ((0:Int) ≠ 0) from fun h => h rfl), if_neg hd, if_neg hd, ← HBS.out] at h
        exact h)
      rw [← hE, ← hbase]
      have HD := Lib.hid hd
      obtain ⟨K, hK⟩ : ∃ K : Nat → Int, K = fun i => clsB (T i) := ⟨_, rfl⟩
      have HKD := Lib.hid hK
      rw [← hK]
      have HKR := Lib.hid (show ∀ i, 0 ≤ K i ∧ K i ≤ 22 from fun i => by rw [hK]; exact clsB_range _)
      clear hE he HBASE hd hbase hK
      go_enter Tryd.func5, Tryd.ntmps5
      go_wp2_with fail
      refine HB2.out.mono ?_
      rintro e9 w2 ⟨rfl, hb⟩
      have HB := Lib.hid hb
      clear hb HB2
      go_upto_region 4 with fail
      go_cut [9] from 24 to 35 (fun v wx => ∃ p : PaP, v = .pointer (some ⟨p.pz, 0, none⟩) ∧ p.n = n ∧ p.base = base ∧ p.tv = .slice ta n tc ∧ p.mv = .slice none 0 0 ∧ Pa p K (fun _ => 0) (fun _ => false) wx ∧ PaOk p ∧ (w.heap.size ≤ p.pz ∧ w.heap.size ≤ p.gc ∧ w.heap.size ≤ p.gl ∧ w.heap.size ≤ p.go) ∧ Below w.heap.size w wx)
      case first =>
        have HW2 := Lib.hid HB.out.size
        replace HB := Lib.hid HB.out.drew
        refine wp_region_held_drew (S := fun w' => Below w.heap.size w w') (by kernel_rfl) (by exact HB.out) ?_
        intro hHeld
        obtain ⟨w2d, hw2d⟩ : ∃ w2d, w2d = w2.drew := ⟨_, rfl⟩
        rw [← hw2d] at HB hHeld ⊢
        clear HW2 hw2d w2
        rename World => w2
        have HW2 := Lib.hid HB.out.size
        refine takeD (i := 0) (oi := { dst := some 24, op := _, type := _, pos := _, after := _, guard := _ }) (d := some 24) (v := ?vva24) rfl rfl (by kernel_rfl) (by kernel_rfl) (by kernel_rfl) ?dda24 (by rfl) ?yya24 hHeld ?rra24
        case dda24 => first | exact fun _ _ _ h => h | exact fun _ _ _ h => HQ.out _ _ _ _ (by rfl) h
        case yya24 => (intro wx hSw; obtain y0 := hSw; go_simp; try (with_reducible rfl))
        try simp only [Act.put, List.setIfInBounds_toArray, List.set_cons_zero, List.set_cons_succ]
        refine takeD (i := 1) (oi := { dst := some 25, op := _, type := _, pos := _, after := _, guard := _ }) (d := some 25) (v := ?vva25) rfl rfl (by kernel_rfl) (by kernel_rfl) (by kernel_rfl) ?dda25 (by rfl) ?yya25 hHeld ?rra25
        case dda25 => first | exact fun _ _ _ h => h | exact fun _ _ _ h => HQ.out _ _ _ _ (by rfl) h
        case yya25 => (intro wx hSw; obtain y0 := hSw; go_simp; try (with_reducible rfl))
        try simp only [Act.put, List.setIfInBounds_toArray, List.set_cons_zero, List.set_cons_succ]
        refine takeD (i := 3) (oi := { dst := some 27, op := _, type := _, pos := _, after := _, guard := _ }) (d := some 27) (v := ?vva27) rfl rfl (by kernel_rfl) (by kernel_rfl) (by kernel_rfl) ?dda27 (by rfl) ?yya27 hHeld ?rra27
        case dda27 => first | exact fun _ _ _ h => h | exact fun _ _ _ h => HQ.out _ _ _ _ (by rfl) h
        case yya27 => (intro wx hSw; obtain y0 := hSw; go_simp; try (with_reducible rfl))
        try simp only [Act.put, List.setIfInBounds_toArray, List.set_cons_zero, List.set_cons_succ]
        refine takeD (i := 4) (oi := { dst := some 28, op := _, type := _, pos := _, after := _, guard := _ }) (d := some 28) (v := ?vva28) rfl rfl (by kernel_rfl) (by kernel_rfl) (by kernel_rfl) ?dda28 (by rfl) ?yya28 hHeld ?rra28
        case dda28 => first | exact fun _ _ _ h => h | exact fun _ _ _ h => HQ.out _ _ _ _ (by rfl) h
        case yya28 => (intro wx hSw; obtain y0 := hSw; go_simp; try (with_reducible rfl))
        try simp only [Act.put, List.setIfInBounds_toArray, List.set_cons_zero, List.set_cons_succ]
        refine takeD (i := 6) (oi := { dst := some 30, op := _, type := _, pos := _, after := _, guard := _ }) (d := some 30) (v := ?vva30) rfl rfl (by kernel_rfl) (by kernel_rfl) (by kernel_rfl) ?dda30 (by rfl) ?yya30 hHeld ?rra30
        case dda30 => first | exact fun _ _ _ h => h | exact fun _ _ _ h => HQ.out _ _ _ _ (by rfl) h
        case yya30 => (intro wx hSw; obtain y0 := hSw; go_simp; try (with_reducible rfl))
        try simp only [Act.put, List.setIfInBounds_toArray, List.set_cons_zero, List.set_cons_succ]
        refine takeD (i := 7) (oi := { dst := some 31, op := _, type := _, pos := _, after := _, guard := _ }) (d := some 31) (v := ?vva31) rfl rfl (by kernel_rfl) (by kernel_rfl) (by kernel_rfl) ?dda31 (by rfl) ?yya31 hHeld ?rra31
        case dda31 => first | exact fun _ _ _ h => h | exact fun _ _ _ h => HQ.out _ _ _ _ (by rfl) h
        case yya31 => (intro wx hSw; obtain y0 := hSw; go_simp; try (with_reducible rfl))
        try simp only [Act.put, List.setIfInBounds_toArray, List.set_cons_zero, List.set_cons_succ]
        refine takeD (i := 8) (oi := { dst := some 32, op := _, type := _, pos := _, after := _, guard := _ }) (d := some 32) (v := ?vva32) rfl rfl (by kernel_rfl) (by kernel_rfl) (by kernel_rfl) ?dda32 (by rfl) ?yya32 hHeld ?rra32
        case dda32 => first | exact fun _ _ _ h => h | exact fun _ _ _ h => HQ.out _ _ _ _ (by rfl) h
        case yya32 => (intro wx hSw; obtain y0 := hSw; go_simp; try (with_reducible rfl))
        try simp only [Act.put, List.setIfInBounds_toArray, List.set_cons_zero, List.set_cons_succ]
        refine wpAnyH_ready (rs := [2, 5, 9]) (by kernel_rfl) (by simp) ?_
        refine AllReadyH.cons (o := { dst := some 26, op := _, type := _, pos := _, after := _, guard := _ }) rfl (fun KK hK => ?_) ?_
        · go_simp
          refine (classes_any n T ta tc w2 (HT.out.below (Nat.le_refl _) HB.out) (by omega) (HTB.out.below (Nat.le_refl _) HB.out)).mono ?_
          rintro e9 w3 ⟨gc, rfl, hoc, hgc, hst⟩
          have HGC := Lib.hid (show w2.heap.size ≤ gc ∧ gc < w3.heap.size from ⟨hgc, hoc.lt⟩)
          have HSw3 := Lib.hid hst.size
          try replace HL := Lib.hid (HL.out.block (hst.block _ HL.out.lt))
          try replace HO := Lib.hid (HO.out.block (hst.block _ HO.out.lt))
          replace HB := Lib.hid (HB.out.trans (hst.mono HB.out.size))
          rw [← HKD.out] at hoc
          have HC := Lib.hid hoc
          clear hoc hgc
          refine hK.out _ _ HB.out (fun hH2 => ?_)
          clear hK KK hst hHeld
          have hHeld := hH2
          clear hH2
          try simp only [Act.put, List.setIfInBounds_toArray, List.set_cons_zero, List.set_cons_succ]
          refine wpAnyH_ready (rs := [5, 9]) (by kernel_rfl) (by simp) ?_
          refine AllReadyH.cons (o := { dst := some 29, op := _, type := _, pos := _, after := _, guard := _ }) rfl (fun KK hK => ?_) ?_
          · go_simp
            obtain ⟨w4, hwb⟩ : ∃ wb, wb = w3.alloc (.cells (madeCells #[.int .i64 0] n) 3) := ⟨_, rfl⟩
            have hst : Below w3.heap.size w3 w4 := by rw [hwb]; exact (Below.refl _ _).alloc (Nat.le_refl _) _
            obtain ⟨gl, hg⟩ : ∃ g, g = w3.heap.size := ⟨_, rfl⟩
            have ho : OwnF w4 3 gl n (fun _ => 0) := by rw [hwb, hg]; exact OwnF.make _ n
            have HGL := Lib.hid (show w3.heap.size ≤ gl ∧ gl < w4.heap.size from ⟨by omega, ho.lt⟩)
            rw [← hwb, ← hg]
            have HSw4 := Lib.hid hst.size
            try replace HC := Lib.hid (HC.out.block (hst.block _ HC.out.lt))
            try replace HO := Lib.hid (HO.out.block (hst.block _ HO.out.lt))
            replace HB := Lib.hid (HB.out.trans (hst.mono HB.out.size))
            have HL := Lib.hid ho
            clear ho hwb hg
            refine hK.out _ _ HB.out (fun hH2 => ?_)
            clear hK KK hst hHeld
            have hHeld := hH2
            clear hH2
            try simp only [Act.put, List.setIfInBounds_toArray, List.set_cons_zero, List.set_cons_succ]
            refine wpAnyH_ready (rs := [9]) (by kernel_rfl) (by simp) ?_
            refine AllReadyH.cons (o := { dst := some 33, op := _, type := _, pos := _, after := _, guard := _ }) rfl (fun KK hK => ?_) AllReadyH.nil
            go_simp
            obtain ⟨w5, hwb⟩ : ∃ wb, wb = w4.alloc (.cells (madeCells #[.bool false] n) 4) := ⟨_, rfl⟩
            have hst : Below w4.heap.size w4 w5 := by rw [hwb]; exact (Below.refl _ _).alloc (Nat.le_refl _) _
            obtain ⟨go, hg⟩ : ∃ g, g = w4.heap.size := ⟨_, rfl⟩
            have ho : OwnB w5 4 go n (fun _ => false) := by rw [hwb, hg]; exact OwnB.make _ n
            have HGO := Lib.hid (show w4.heap.size ≤ go ∧ go < w5.heap.size from ⟨by omega, ho.lt⟩)
            rw [← hwb, ← hg]
            have HSw5 := Lib.hid hst.size
            try replace HC := Lib.hid (HC.out.block (hst.block _ HC.out.lt))
            try replace HL := Lib.hid (HL.out.block (hst.block _ HL.out.lt))
            replace HB := Lib.hid (HB.out.trans (hst.mono HB.out.size))
            have HO := Lib.hid ho
            clear ho hwb hg
            refine hK.out _ _ HB.out (fun hH2 => ?_)
            clear hK KK hst hHeld
            have hHeld := hH2
            clear hH2
            try simp only [Act.put, List.setIfInBounds_toArray, List.set_cons_zero, List.set_cons_succ]
            refine takeD (i := 10) (oi := { dst := some 34, op := _, type := _, pos := _, after := _, guard := _ }) (d := some 34) (v := ?vvq25934) rfl rfl (by kernel_rfl) (by kernel_rfl) (by kernel_rfl) ?ddq25934 (by rfl) ?yyq25934 hHeld ?rrq25934
            case ddq25934 => first | exact fun _ _ _ h => h | exact fun _ _ _ h => HQ.out _ _ _ _ (by rfl) h
            case yyq25934 => (intro wx hSw; obtain y0 := hSw; go_simp; try (with_reducible rfl))
            try simp only [Act.put, List.setIfInBounds_toArray, List.set_cons_zero, List.set_cons_succ]
            refine wpAnyH_ready (rs := [11]) (by kernel_rfl) (by simp) ?_
            refine AllReadyH.cons (o := { dst := some 35, op := _, type := _, pos := _, after := _, guard := _ }) rfl (fun KK hK => ?_) AllReadyH.nil
            go_simp
            obtain ⟨wz, hwz⟩ : ∃ wz, wz = w5.alloc (Obj.cells #[.slice ta n tc, .slice (some ⟨gc, 0, none⟩) n n, .slice (some ⟨gl, 0, none⟩) n n, .int .i64 base, .slice (some ⟨go, 0, none⟩) n n, .slice none 0 0] 39) := ⟨_, rfl⟩
            obtain ⟨pz, hpz⟩ : ∃ g, g = w5.heap.size := ⟨_, rfl⟩
            have hst : Below w5.heap.size w5 wz := by rw [hwz]; exact (Below.refl _ _).alloc (Nat.le_refl _) _
            have hpar : Blk wz pz #[.slice ta n tc, .slice (some ⟨gc, 0, none⟩) n n, .slice (some ⟨gl, 0, none⟩) n n, .int .i64 base, .slice (some ⟨go, 0, none⟩) n n, .slice none 0 0] 39 := by rw [hwz, hpz]; exact Blk.new _ _ _
            rw [← hwz, ← hpz]
            have HPZ := Lib.hid hpz
            clear hpz
            refine hK.out _ _ (HB.out.trans (hst.mono HB.out.size)) (fun hH2 => ?_)
            clear hK KK hHeld hwz
            have hHeld := hH2
            clear hH2
            try simp only [Act.put, List.setIfInBounds_toArray, List.set_cons_zero, List.set_cons_succ]
            refine takeD (i := 12) (oi := { dst := some 9, op := _, type := _, pos := _, after := _, guard := _ }) (d := some 9) (v := ?vvzq2599) rfl rfl (by kernel_rfl) (by kernel_rfl) (by kernel_rfl) ?ddzq2599 (by rfl) ?yyzq2599 hHeld ?rrzq2599
            case ddzq2599 => first | exact fun _ _ _ h => h | exact fun _ _ _ h => HQ.out _ _ _ _ (by rfl) h
            case yyzq2599 => (intro wx hSw; obtain y0 := hSw; go_simp; try (with_reducible rfl))
            try simp only [Act.put, List.setIfInBounds_toArray, List.set_cons_zero, List.set_cons_succ]
            refine wpAnyH_done (by kernel_rfl) ?_ _
            have h1 := HGC.out
            have hpz := HPZ.out
            have h2 := HGL.out
            have h3 := HGO.out
            have h4 := HSw3.out
            have h5 := HSw4.out
            have h6 := HSw5.out
            have h7 := HB.out.size
            have hcl := HC.out.lt
            have hll := HL.out.lt
            have hol := HO.out.lt
            have hsz := HW2.out
            go_wp2_with fail
            go_meet
            exact ⟨⟨pz, gc, gl, go, n, base, .slice ta n tc, .slice none 0 0⟩, rfl, rfl, rfl, rfl, rfl, ⟨hpar, HC.out.block (hst.block _ hcl), HL.out.block (hst.block _ hll), HO.out.block (hst.block _ hol)⟩, ⟨hn, by show gc ≠ gl; omega, by show gc ≠ go; omega, by show gl ≠ go; omega, by show pz ≠ gc; omega, by show pz ≠ gl; omega, by show pz ≠ go; omega⟩, by show w.heap.size ≤ pz ∧ w.heap.size ≤ gc ∧ w.heap.size ≤ gl ∧ w.heap.size ≤ go; omega, HB.out.trans (hst.mono HB.out.size)⟩
          refine AllReadyH.cons (o := { dst := some 33, op := _, type := _, pos := _, after := _, guard := _ }) rfl (fun KK hK => ?_) AllReadyH.nil
          go_simp
          obtain ⟨w4, hwb⟩ : ∃ wb, wb = w3.alloc (.cells (madeCells #[.bool false] n) 4) := ⟨_, rfl⟩
          have hst : Below w3.heap.size w3 w4 := by rw [hwb]; exact (Below.refl _ _).alloc (Nat.le_refl _) _
          obtain ⟨go, hg⟩ : ∃ g, g = w3.heap.size := ⟨_, rfl⟩
          have ho : OwnB w4 4 go n (fun _ => false) := by rw [hwb, hg]; exact OwnB.make _ n
          have HGO := Lib.hid (show w3.heap.size ≤ go ∧ go < w4.heap.size from ⟨by omega, ho.lt⟩)
          rw [← hwb, ← hg]
          have HSw4 := Lib.hid hst.size
          try replace HC := Lib.hid (HC.out.block (hst.block _ HC.out.lt))
          try replace HL := Lib.hid (HL.out.block (hst.block _ HL.out.lt))
          replace HB := Lib.hid (HB.out.trans (hst.mono HB.out.size))
          have HO := Lib.hid ho
          clear ho hwb hg
          refine hK.out _ _ HB.out (fun hH2 => ?_)
          clear hK KK hst hHeld
          have hHeld := hH2
          clear hH2
          try simp only [Act.put, List.setIfInBounds_toArray, List.set_cons_zero, List.set_cons_succ]
          refine wpAnyH_ready (rs := [5]) (by kernel_rfl) (by simp) ?_
          refine AllReadyH.cons (o := { dst := some 29, op := _, type := _, pos := _, after := _, guard := _ }) rfl (fun KK hK => ?_) AllReadyH.nil
          go_simp
          obtain ⟨w5, hwb⟩ : ∃ wb, wb = w4.alloc (.cells (madeCells #[.int .i64 0] n) 3) := ⟨_, rfl⟩
          have hst : Below w4.heap.size w4 w5 := by rw [hwb]; exact (Below.refl _ _).alloc (Nat.le_refl _) _
          obtain ⟨gl, hg⟩ : ∃ g, g = w4.heap.size := ⟨_, rfl⟩
          have ho : OwnF w5 3 gl n (fun _ => 0) := by rw [hwb, hg]; exact OwnF.make _ n
          have HGL := Lib.hid (show w4.heap.size ≤ gl ∧ gl < w5.heap.size from ⟨by omega, ho.lt⟩)
          rw [← hwb, ← hg]
          have HSw5 := Lib.hid hst.size
          try replace HC := Lib.hid (HC.out.block (hst.block _ HC.out.lt))
          try replace HO := Lib.hid (HO.out.block (hst.block _ HO.out.lt))
          replace HB := Lib.hid (HB.out.trans (hst.mono HB.out.size))
          have HL := Lib.hid ho
          clear ho hwb hg
          refine hK.out _ _ HB.out (fun hH2 => ?_)
          clear hK KK hst hHeld
          have hHeld := hH2
          clear hH2
          try simp only [Act.put, List.setIfInBounds_toArray, List.set_cons_zero, List.set_cons_succ]
          refine takeD (i := 10) (oi := { dst := some 34, op := _, type := _, pos := _, after := _, guard := _ }) (d := some 34) (v := ?vvq29534) rfl rfl (by kernel_rfl) (by kernel_rfl) (by kernel_rfl) ?ddq29534 (by rfl) ?yyq29534 hHeld ?rrq29534
          case ddq29534 => first | exact fun _ _ _ h => h | exact fun _ _ _ h => HQ.out _ _ _ _ (by rfl) h
          case yyq29534 => (intro wx hSw; obtain y0 := hSw; go_simp; try (with_reducible rfl))
          try simp only [Act.put, List.setIfInBounds_toArray, List.set_cons_zero, List.set_cons_succ]
          refine wpAnyH_ready (rs := [11]) (by kernel_rfl) (by simp) ?_
          refine AllReadyH.cons (o := { dst := some 35, op := _, type := _, pos := _, after := _, guard := _ }) rfl (fun KK hK => ?_) AllReadyH.nil
          go_simp
          obtain ⟨wz, hwz⟩ : ∃ wz, wz = w5.alloc (Obj.cells #[.slice ta n tc, .slice (some ⟨gc, 0, none⟩) n n, .slice (some ⟨gl, 0, none⟩) n n, .int .i64 base, .slice (some ⟨go, 0, none⟩) n n, .slice none 0 0] 39) := ⟨_, rfl⟩
          obtain ⟨pz, hpz⟩ : ∃ g, g = w5.heap.size := ⟨_, rfl⟩
          have hst : Below w5.heap.size w5 wz := by rw [hwz]; exact (Below.refl _ _).alloc (Nat.le_refl _) _
          have hpar : Blk wz pz #[.slice ta n tc, .slice (some ⟨gc, 0, none⟩) n n, .slice (some ⟨gl, 0, none⟩) n n, .int .i64 base, .slice (some ⟨go, 0, none⟩) n n, .slice none 0 0] 39 := by rw [hwz, hpz]; exact Blk.new _ _ _
          rw [← hwz, ← hpz]
          have HPZ := Lib.hid hpz
          clear hpz
          refine hK.out _ _ (HB.out.trans (hst.mono HB.out.size)) (fun hH2 => ?_)
          clear hK KK hHeld hwz
          have hHeld := hH2
          clear hH2
          try simp only [Act.put, List.setIfInBounds_toArray, List.set_cons_zero, List.set_cons_succ]
          refine takeD (i := 12) (oi := { dst := some 9, op := _, type := _, pos := _, after := _, guard := _ }) (d := some 9) (v := ?vvzq2959) rfl rfl (by kernel_rfl) (by kernel_rfl) (by kernel_rfl) ?ddzq2959 (by rfl) ?yyzq2959 hHeld ?rrzq2959
          case ddzq2959 => first | exact fun _ _ _ h => h | exact fun _ _ _ h => HQ.out _ _ _ _ (by rfl) h
          case yyzq2959 => (intro wx hSw; obtain y0 := hSw; go_simp; try (with_reducible rfl))
          try simp only [Act.put, List.setIfInBounds_toArray, List.set_cons_zero, List.set_cons_succ]
          refine wpAnyH_done (by kernel_rfl) ?_ _
          have h1 := HGC.out
          have hpz := HPZ.out
          have h2 := HGL.out
          have h3 := HGO.out
          have h4 := HSw3.out
          have h5 := HSw4.out
          have h6 := HSw5.out
          have h7 := HB.out.size
          have hcl := HC.out.lt
          have hll := HL.out.lt
          have hol := HO.out.lt
          have hsz := HW2.out
          go_wp2_with fail
          go_meet
          exact ⟨⟨pz, gc, gl, go, n, base, .slice ta n tc, .slice none 0 0⟩, rfl, rfl, rfl, rfl, rfl, ⟨hpar, HC.out.block (hst.block _ hcl), HL.out.block (hst.block _ hll), HO.out.block (hst.block _ hol)⟩, ⟨hn, by show gc ≠ gl; omega, by show gc ≠ go; omega, by show gl ≠ go; omega, by show pz ≠ gc; omega, by show pz ≠ gl; omega, by show pz ≠ go; omega⟩, by show w.heap.size ≤ pz ∧ w.heap.size ≤ gc ∧ w.heap.size ≤ gl ∧ w.heap.size ≤ go; omega, HB.out.trans (hst.mono HB.out.size)⟩
        refine AllReadyH.cons (o := { dst := some 29, op := _, type := _, pos := _, after := _, guard := _ }) rfl (fun KK hK => ?_) ?_
        · go_simp
          obtain ⟨w3, hwb⟩ : ∃ wb, wb = w2.alloc (.cells (madeCells #[.int .i64 0] n) 3) := ⟨_, rfl⟩
          have hst : Below w2.heap.size w2 w3 := by rw [hwb]; exact (Below.refl _ _).alloc (Nat.le_refl _) _
          obtain ⟨gl, hg⟩ : ∃ g, g = w2.heap.size := ⟨_, rfl⟩
          have ho : OwnF w3 3 gl n (fun _ => 0) := by rw [hwb, hg]; exact OwnF.make _ n
          have HGL := Lib.hid (show w2.heap.size ≤ gl ∧ gl < w3.heap.size from ⟨by omega, ho.lt⟩)
          rw [← hwb, ← hg]
          have HSw3 := Lib.hid hst.size
          try replace HC := Lib.hid (HC.out.block (hst.block _ HC.out.lt))
          try replace HO := Lib.hid (HO.out.block (hst.block _ HO.out.lt))
          replace HB := Lib.hid (HB.out.trans (hst.mono HB.out.size))
          have HL := Lib.hid ho
          clear ho hwb hg
          refine hK.out _ _ HB.out (fun hH2 => ?_)
          clear hK KK hst hHeld
          have hHeld := hH2
          clear hH2
          try simp only [Act.put, List.setIfInBounds_toArray, List.set_cons_zero, List.set_cons_succ]
          refine wpAnyH_ready (rs := [2, 9]) (by kernel_rfl) (by simp) ?_
          refine AllReadyH.cons (o := { dst := some 26, op := _, type := _, pos := _, after := _, guard := _ }) rfl (fun KK hK => ?_) ?_
          · go_simp
            refine (classes_any n T ta tc w3 (HT.out.below (Nat.le_refl _) HB.out) (by omega) (HTB.out.below (Nat.le_refl _) HB.out)).mono ?_
            rintro e9 w4 ⟨gc, rfl, hoc, hgc, hst⟩
            have HGC := Lib.hid (show w3.heap.size ≤ gc ∧ gc < w4.heap.size from ⟨hgc, hoc.lt⟩)
            have HSw4 := Lib.hid hst.size
            try replace HL := Lib.hid (HL.out.block (hst.block _ HL.out.lt))
            try replace HO := Lib.hid (HO.out.block (hst.block _ HO.out.lt))
            replace HB := Lib.hid (HB.out.trans (hst.mono HB.out.size))
            rw [← HKD.out] at hoc
            have HC := Lib.hid hoc
            clear hoc hgc
            refine hK.out _ _ HB.out (fun hH2 => ?_)
            clear hK KK hst hHeld
            have hHeld := hH2
            clear hH2
            try simp only [Act.put, List.setIfInBounds_toArray, List.set_cons_zero, List.set_cons_succ]
            refine wpAnyH_ready (rs := [9]) (by kernel_rfl) (by simp) ?_
            refine AllReadyH.cons (o := { dst := some 33, op := _, type := _, pos := _, after := _, guard := _ }) rfl (fun KK hK => ?_) AllReadyH.nil
            go_simp
            obtain ⟨w5, hwb⟩ : ∃ wb, wb = w4.alloc (.cells (madeCells #[.bool false] n) 4) := ⟨_, rfl⟩
            have hst : Below w4.heap.size w4 w5 := by rw [hwb]; exact (Below.refl _ _).alloc (Nat.le_refl _) _
            obtain ⟨go, hg⟩ : ∃ g, g = w4.heap.size := ⟨_, rfl⟩
            have ho : OwnB w5 4 go n (fun _ => false) := by rw [hwb, hg]; exact OwnB.make _ n
            have HGO := Lib.hid (show w4.heap.size ≤ go ∧ go < w5.heap.size from ⟨by omega, ho.lt⟩)
            rw [← hwb, ← hg]
            have HSw5 := Lib.hid hst.size
            try replace HC := Lib.hid (HC.out.block (hst.block _ HC.out.lt))
            try replace HL := Lib.hid (HL.out.block (hst.block _ HL.out.lt))
            replace HB := Lib.hid (HB.out.trans (hst.mono HB.out.size))
            have HO := Lib.hid ho
            clear ho hwb hg
            refine hK.out _ _ HB.out (fun hH2 => ?_)
            clear hK KK hst hHeld
            have hHeld := hH2
            clear hH2
            try simp only [Act.put, List.setIfInBounds_toArray, List.set_cons_zero, List.set_cons_succ]
            refine takeD (i := 10) (oi := { dst := some 34, op := _, type := _, pos := _, after := _, guard := _ }) (d := some 34) (v := ?vvq52934) rfl rfl (by kernel_rfl) (by kernel_rfl) (by kernel_rfl) ?ddq52934 (by rfl) ?yyq52934 hHeld ?rrq52934
            case ddq52934 => first | exact fun _ _ _ h => h | exact fun _ _ _ h => HQ.out _ _ _ _ (by rfl) h
            case yyq52934 => (intro wx hSw; obtain y0 := hSw; go_simp; try (with_reducible rfl))
            try simp only [Act.put, List.setIfInBounds_toArray, List.set_cons_zero, List.set_cons_succ]
            refine wpAnyH_ready (rs := [11]) (by kernel_rfl) (by simp) ?_
            refine AllReadyH.cons (o := { dst := some 35, op := _, type := _, pos := _, after := _, guard := _ }) rfl (fun KK hK => ?_) AllReadyH.nil
            go_simp
            obtain ⟨wz, hwz⟩ : ∃ wz, wz = w5.alloc (Obj.cells #[.slice ta n tc, .slice (some ⟨gc, 0, none⟩) n n, .slice (some ⟨gl, 0, none⟩) n n, .int .i64 base, .slice (some ⟨go, 0, none⟩) n n, .slice none 0 0] 39) := ⟨_, rfl⟩
            obtain ⟨pz, hpz⟩ : ∃ g, g = w5.heap.size := ⟨_, rfl⟩
            have hst : Below w5.heap.size w5 wz := by rw [hwz]; exact (Below.refl _ _).alloc (Nat.le_refl _) _
            have hpar : Blk wz pz #[.slice ta n tc, .slice (some ⟨gc, 0, none⟩) n n, .slice (some ⟨gl, 0, none⟩) n n, .int .i64 base, .slice (some ⟨go, 0, none⟩) n n, .slice none 0 0] 39 := by rw [hwz, hpz]; exact Blk.new _ _ _
            rw [← hwz, ← hpz]
            have HPZ := Lib.hid hpz
            clear hpz
            refine hK.out _ _ (HB.out.trans (hst.mono HB.out.size)) (fun hH2 => ?_)
            clear hK KK hHeld hwz
            have hHeld := hH2
            clear hH2
            try simp only [Act.put, List.setIfInBounds_toArray, List.set_cons_zero, List.set_cons_succ]
            refine takeD (i := 12) (oi := { dst := some 9, op := _, type := _, pos := _, after := _, guard := _ }) (d := some 9) (v := ?vvzq5299) rfl rfl (by kernel_rfl) (by kernel_rfl) (by kernel_rfl) ?ddzq5299 (by rfl) ?yyzq5299 hHeld ?rrzq5299
            case ddzq5299 => first | exact fun _ _ _ h => h | exact fun _ _ _ h => HQ.out _ _ _ _ (by rfl) h
            case yyzq5299 => (intro wx hSw; obtain y0 := hSw; go_simp; try (with_reducible rfl))
            try simp only [Act.put, List.setIfInBounds_toArray, List.set_cons_zero, List.set_cons_succ]
            refine wpAnyH_done (by kernel_rfl) ?_ _
            have h1 := HGC.out
            have hpz := HPZ.out
            have h2 := HGL.out
            have h3 := HGO.out
            have h4 := HSw3.out
            have h5 := HSw4.out
            have h6 := HSw5.out
            have h7 := HB.out.size
            have hcl := HC.out.lt
            have hll := HL.out.lt
            have hol := HO.out.lt
            have hsz := HW2.out
            go_wp2_with fail
            go_meet
            exact ⟨⟨pz, gc, gl, go, n, base, .slice ta n tc, .slice none 0 0⟩, rfl, rfl, rfl, rfl, rfl, ⟨hpar, HC.out.block (hst.block _ hcl), HL.out.block (hst.block _ hll), HO.out.block (hst.block _ hol)⟩, ⟨hn, by show gc ≠ gl; omega, by show gc ≠ go; omega, by show gl ≠ go; omega, by show pz ≠ gc; omega, by show pz ≠ gl; omega, by show pz ≠ go; omega⟩, by show w.heap.size ≤ pz ∧ w.heap.size ≤ gc ∧ w.heap.size ≤ gl ∧ w.heap.size ≤ go; omega, HB.out.trans (hst.mono HB.out.size)⟩
          refine AllReadyH.cons (o := { dst := some 33, op := _, type := _, pos := _, after := _, guard := _ }) rfl (fun KK hK => ?_) AllReadyH.nil
          go_simp
          obtain ⟨w4, hwb⟩ : ∃ wb, wb = w3.alloc (.cells (madeCells #[.bool false] n) 4) := ⟨_, rfl⟩
          have hst : Below w3.heap.size w3 w4 := by rw [hwb]; exact (Below.refl _ _).alloc (Nat.le_refl _) _
          obtain ⟨go, hg⟩ : ∃ g, g = w3.heap.size := ⟨_, rfl⟩
          have ho : OwnB w4 4 go n (fun _ => false) := by rw [hwb, hg]; exact OwnB.make _ n
          have HGO := Lib.hid (show w3.heap.size ≤ go ∧ go < w4.heap.size from ⟨by omega, ho.lt⟩)
          rw [← hwb, ← hg]
          have HSw4 := Lib.hid hst.size
          try replace HC := Lib.hid (HC.out.block (hst.block _ HC.out.lt))
          try replace HL := Lib.hid (HL.out.block (hst.block _ HL.out.lt))
          replace HB := Lib.hid (HB.out.trans (hst.mono HB.out.size))
          have HO := Lib.hid ho
          clear ho hwb hg
          refine hK.out _ _ HB.out (fun hH2 => ?_)
          clear hK KK hst hHeld
          have hHeld := hH2
          clear hH2
          try simp only [Act.put, List.setIfInBounds_toArray, List.set_cons_zero, List.set_cons_succ]
          refine wpAnyH_ready (rs := [2]) (by kernel_rfl) (by simp) ?_
          refine AllReadyH.cons (o := { dst := some 26, op := _, type := _, pos := _, after := _, guard := _ }) rfl (fun KK hK => ?_) AllReadyH.nil
          go_simp
          refine (classes_any n T ta tc w4 (HT.out.below (Nat.le_refl _) HB.out) (by omega) (HTB.out.below (Nat.le_refl _) HB.out)).mono ?_
          rintro e9 w5 ⟨gc, rfl, hoc, hgc, hst⟩
          have HGC := Lib.hid (show w4.heap.size ≤ gc ∧ gc < w5.heap.size from ⟨hgc, hoc.lt⟩)
          have HSw5 := Lib.hid hst.size
          try replace HL := Lib.hid (HL.out.block (hst.block _ HL.out.lt))
          try replace HO := Lib.hid (HO.out.block (hst.block _ HO.out.lt))
          replace HB := Lib.hid (HB.out.trans (hst.mono HB.out.size))
          rw [← HKD.out] at hoc
          have HC := Lib.hid hoc
          clear hoc hgc
          refine hK.out _ _ HB.out (fun hH2 => ?_)
          clear hK KK hst hHeld
          have hHeld := hH2
          clear hH2
          try simp only [Act.put, List.setIfInBounds_toArray, List.set_cons_zero, List.set_cons_succ]
          refine takeD (i := 10) (oi := { dst := some 34, op := _, type := _, pos := _, after := _, guard := _ }) (d := some 34) (v := ?vvq59234) rfl rfl (by kernel_rfl) (by kernel_rfl) (by kernel_rfl) ?ddq59234 (by rfl) ?yyq59234 hHeld ?rrq59234
          case ddq59234 => first | exact fun _ _ _ h => h | exact fun _ _ _ h => HQ.out _ _ _ _ (by rfl) h
          case yyq59234 => (intro wx hSw; obtain y0 := hSw; go_simp; try (with_reducible rfl))
          try simp only [Act.put, List.setIfInBounds_toArray, List.set_cons_zero, List.set_cons_succ]
          refine wpAnyH_ready (rs := [11]) (by kernel_rfl) (by simp) ?_
          refine AllReadyH.cons (o := { dst := some 35, op := _, type := _, pos := _, after := _, guard := _ }) rfl (fun KK hK => ?_) AllReadyH.nil
          go_simp
          obtain ⟨wz, hwz⟩ : ∃ wz, wz = w5.alloc (Obj.cells #[.slice ta n tc, .slice (some ⟨gc, 0, none⟩) n n, .slice (some ⟨gl, 0, none⟩) n n, .int .i64 base, .slice (some ⟨go, 0, none⟩) n n, .slice none 0 0] 39) := ⟨_, rfl⟩
          obtain ⟨pz, hpz⟩ : ∃ g, g = w5.heap.size := ⟨_, rfl⟩
          have hst : Below w5.heap.size w5 wz := by rw [hwz]; exact (Below.refl _ _).alloc (Nat.le_refl _) _
          have hpar : Blk wz pz #[.slice ta n tc, .slice (some ⟨gc, 0, none⟩) n n, .slice (some ⟨gl, 0, none⟩) n n, .int .i64 base, .slice (some ⟨go, 0, none⟩) n n, .slice none 0 0] 39 := by rw [hwz, hpz]; exact Blk.new _ _ _
          rw [← hwz, ← hpz]
          have HPZ := Lib.hid hpz
          clear hpz
          refine hK.out _ _ (HB.out.trans (hst.mono HB.out.size)) (fun hH2 => ?_)
          clear hK KK hHeld hwz
          have hHeld := hH2
          clear hH2
          try simp only [Act.put, List.setIfInBounds_toArray, List.set_cons_zero, List.set_cons_succ]
          refine takeD (i := 12) (oi := { dst := some 9, op := _, type := _, pos := _, after := _, guard := _ }) (d := some 9) (v := ?vvzq5929) rfl rfl (by kernel_rfl) (by kernel_rfl) (by kernel_rfl) ?ddzq5929 (by rfl) ?yyzq5929 hHeld ?rrzq5929
          case ddzq5929 => first | exact fun _ _ _ h => h | exact fun _ _ _ h => HQ.out _ _ _ _ (by rfl) h
          case yyzq5929 => (intro wx hSw; obtain y0 := hSw; go_simp; try (with_reducible rfl))
          try simp only [Act.put, List.setIfInBounds_toArray, List.set_cons_zero, List.set_cons_succ]
          refine wpAnyH_done (by kernel_rfl) ?_ _
          have h1 := HGC.out
          have hpz := HPZ.out
          have h2 := HGL.out
          have h3 := HGO.out
          have h4 := HSw3.out
          have h5 := HSw4.out
          have h6 := HSw5.out
          have h7 := HB.out.size
          have hcl := HC.out.lt
          have hll := HL.out.lt
          have hol := HO.out.lt
          have hsz := HW2.out
          go_wp2_with fail
          go_meet
          exact ⟨⟨pz, gc, gl, go, n, base, .slice ta n tc, .slice none 0 0⟩, rfl, rfl, rfl, rfl, rfl, ⟨hpar, HC.out.block (hst.block _ hcl), HL.out.block (hst.block _ hll), HO.out.block (hst.block _ hol)⟩, ⟨hn, by show gc ≠ gl; omega, by show gc ≠ go; omega, by show gl ≠ go; omega, by show pz ≠ gc; omega, by show pz ≠ gl; omega, by show pz ≠ go; omega⟩, by show w.heap.size ≤ pz ∧ w.heap.size ≤ gc ∧ w.heap.size ≤ gl ∧ w.heap.size ≤ go; omega, HB.out.trans (hst.mono HB.out.size)⟩
        refine AllReadyH.cons (o := { dst := some 33, op := _, type := _, pos := _, after := _, guard := _ }) rfl (fun KK hK => ?_) AllReadyH.nil
        go_simp
        obtain ⟨w3, hwb⟩ : ∃ wb, wb = w2.alloc (.cells (madeCells #[.bool false] n) 4) := ⟨_, rfl⟩
        have hst : Below w2.heap.size w2 w3 := by rw [hwb]; exact (Below.refl _ _).alloc (Nat.le_refl _) _
        obtain ⟨go, hg⟩ : ∃ g, g = w2.heap.size := ⟨_, rfl⟩
        have ho : OwnB w3 4 go n (fun _ => false) := by rw [hwb, hg]; exact OwnB.make _ n
        have HGO := Lib.hid (show w2.heap.size ≤ go ∧ go < w3.heap.size from ⟨by omega, ho.lt⟩)
        rw [← hwb, ← hg]
        have HSw3 := Lib.hid hst.size
        try replace HC := Lib.hid (HC.out.block (hst.block _ HC.out.lt))
        try replace HL := Lib.hid (HL.out.block (hst.block _ HL.out.lt))
        replace HB := Lib.hid (HB.out.trans (hst.mono HB.out.size))
        have HO := Lib.hid ho
        clear ho hwb hg
        refine hK.out _ _ HB.out (fun hH2 => ?_)
        clear hK KK hst hHeld
        have hHeld := hH2
        clear hH2
        try simp only [Act.put, List.setIfInBounds_toArray, List.set_cons_zero, List.set_cons_succ]
        refine wpAnyH_ready (rs := [2, 5]) (by kernel_rfl) (by simp) ?_
        refine AllReadyH.cons (o := { dst := some 26, op := _, type := _, pos := _, after := _, guard := _ }) rfl (fun KK hK => ?_) ?_
        · go_simp
          refine (classes_any n T ta tc w3 (HT.out.below (Nat.le_refl _) HB.out) (by omega) (HTB.out.below (Nat.le_refl _) HB.out)).mono ?_
          rintro e9 w4 ⟨gc, rfl, hoc, hgc, hst⟩
          have HGC := Lib.hid (show w3.heap.size ≤ gc ∧ gc < w4.heap.size from ⟨hgc, hoc.lt⟩)
          have HSw4 := Lib.hid hst.size
          try replace HL := Lib.hid (HL.out.block (hst.block _ HL.out.lt))
          try replace HO := Lib.hid (HO.out.block (hst.block _ HO.out.lt))
          replace HB := Lib.hid (HB.out.trans (hst.mono HB.out.size))
          rw [← HKD.out] at hoc
          have HC := Lib.hid hoc
          clear hoc hgc
          refine hK.out _ _ HB.out (fun hH2 => ?_)
          clear hK KK hst hHeld
          have hHeld := hH2
          clear hH2
          try simp only [Act.put, List.setIfInBounds_toArray, List.set_cons_zero, List.set_cons_succ]
          refine wpAnyH_ready (rs := [5]) (by kernel_rfl) (by simp) ?_
          refine AllReadyH.cons (o := { dst := some 29, op := _, type := _, pos := _, after := _, guard := _ }) rfl (fun KK hK => ?_) AllReadyH.nil
          go_simp
          obtain ⟨w5, hwb⟩ : ∃ wb, wb = w4.alloc (.cells (madeCells #[.int .i64 0] n) 3) := ⟨_, rfl⟩
          have hst : Below w4.heap.size w4 w5 := by rw [hwb]; exact (Below.refl _ _).alloc (Nat.le_refl _) _
          obtain ⟨gl, hg⟩ : ∃ g, g = w4.heap.size := ⟨_, rfl⟩
          have ho : OwnF w5 3 gl n (fun _ => 0) := by rw [hwb, hg]; exact OwnF.make _ n
          have HGL := Lib.hid (show w4.heap.size ≤ gl ∧ gl < w5.heap.size from ⟨by omega, ho.lt⟩)
          rw [← hwb, ← hg]
          have HSw5 := Lib.hid hst.size
          try replace HC := Lib.hid (HC.out.block (hst.block _ HC.out.lt))
          try replace HO := Lib.hid (HO.out.block (hst.block _ HO.out.lt))
          replace HB := Lib.hid (HB.out.trans (hst.mono HB.out.size))
          have HL := Lib.hid ho
          clear ho hwb hg
          refine hK.out _ _ HB.out (fun hH2 => ?_)
          clear hK KK hst hHeld
          have hHeld := hH2
          clear hH2
          try simp only [Act.put, List.setIfInBounds_toArray, List.set_cons_zero, List.set_cons_succ]
          refine takeD (i := 10) (oi := { dst := some 34, op := _, type := _, pos := _, after := _, guard := _ }) (d := some 34) (v := ?vvq92534) rfl rfl (by kernel_rfl) (by kernel_rfl) (by kernel_rfl) ?ddq92534 (by rfl) ?yyq92534 hHeld ?rrq92534
          case ddq92534 => first | exact fun _ _ _ h => h | exact fun _ _ _ h => HQ.out _ _ _ _ (by rfl) h
          case yyq92534 => (intro wx hSw; obtain y0 := hSw; go_simp; try (with_reducible rfl))
          try simp only [Act.put, List.setIfInBounds_toArray, List.set_cons_zero, List.set_cons_succ]
          refine wpAnyH_ready (rs := [11]) (by kernel_rfl) (by simp) ?_
          refine AllReadyH.cons (o := { dst := some 35, op := _, type := _, pos := _, after := _, guard := _ }) rfl (fun KK hK => ?_) AllReadyH.nil
          go_simp
          obtain ⟨wz, hwz⟩ : ∃ wz, wz = w5.alloc (Obj.cells #[.slice ta n tc, .slice (some ⟨gc, 0, none⟩) n n, .slice (some ⟨gl, 0, none⟩) n n, .int .i64 base, .slice (some ⟨go, 0, none⟩) n n, .slice none 0 0] 39) := ⟨_, rfl⟩
          obtain ⟨pz, hpz⟩ : ∃ g, g = w5.heap.size := ⟨_, rfl⟩
          have hst : Below w5.heap.size w5 wz := by rw [hwz]; exact (Below.refl _ _).alloc (Nat.le_refl _) _
          have hpar : Blk wz pz #[.slice ta n tc, .slice (some ⟨gc, 0, none⟩) n n, .slice (some ⟨gl, 0, none⟩) n n, .int .i64 base, .slice (some ⟨go, 0, none⟩) n n, .slice none 0 0] 39 := by rw [hwz, hpz]; exact Blk.new _ _ _
          rw [← hwz, ← hpz]
          have HPZ := Lib.hid hpz
          clear hpz
          refine hK.out _ _ (HB.out.trans (hst.mono HB.out.size)) (fun hH2 => ?_)
          clear hK KK hHeld hwz
          have hHeld := hH2
          clear hH2
          try simp only [Act.put, List.setIfInBounds_toArray, List.set_cons_zero, List.set_cons_succ]
          refine takeD (i := 12) (oi := { dst := some 9, op := _, type := _, pos := _, after := _, guard := _ }) (d := some 9) (v := ?vvzq9259) rfl rfl (by kernel_rfl) (by kernel_rfl) (by kernel_rfl) ?ddzq9259 (by rfl) ?yyzq9259 hHeld ?rrzq9259
          case ddzq9259 => first | exact fun _ _ _ h => h | exact fun _ _ _ h => HQ.out _ _ _ _ (by rfl) h
          case yyzq9259 => (intro wx hSw; obtain y0 := hSw; go_simp; try (with_reducible rfl))
          try simp only [Act.put, List.setIfInBounds_toArray, List.set_cons_zero, List.set_cons_succ]
          refine wpAnyH_done (by kernel_rfl) ?_ _
          have h1 := HGC.out
          have hpz := HPZ.out
          have h2 := HGL.out
          have h3 := HGO.out
          have h4 := HSw3.out
          have h5 := HSw4.out
          have h6 := HSw5.out
          have h7 := HB.out.size
          have hcl := HC.out.lt
          have hll := HL.out.lt
          have hol := HO.out.lt
          have hsz := HW2.out
          go_wp2_with fail
          go_meet
          exact ⟨⟨pz, gc, gl, go, n, base, .slice ta n tc, .slice none 0 0⟩, rfl, rfl, rfl, rfl, rfl, ⟨hpar, HC.out.block (hst.block _ hcl), HL.out.block (hst.block _ hll), HO.out.block (hst.block _ hol)⟩, ⟨hn, by show gc ≠ gl; omega, by show gc ≠ go; omega, by show gl ≠ go; omega, by show pz ≠ gc; omega, by show pz ≠ gl; omega, by show pz ≠ go; omega⟩, by show w.heap.size ≤ pz ∧ w.heap.size ≤ gc ∧ w.heap.size ≤ gl ∧ w.heap.size ≤ go; omega, HB.out.trans (hst.mono HB.out.size)⟩
        refine AllReadyH.cons (o := { dst := some 29, op := _, type := _, pos := _, after := _, guard := _ }) rfl (fun KK hK => ?_) AllReadyH.nil
        go_simp
        obtain ⟨w4, hwb⟩ : ∃ wb, wb = w3.alloc (.cells (madeCells #[.int .i64 0] n) 3) := ⟨_, rfl⟩
        have hst : Below w3.heap.size w3 w4 := by rw [hwb]; exact (Below.refl _ _).alloc (Nat.le_refl _) _
        obtain ⟨gl, hg⟩ : ∃ g, g = w3.heap.size := ⟨_, rfl⟩
        have ho : OwnF w4 3 gl n (fun _ => 0) := by rw [hwb, hg]; exact OwnF.make _ n
        have HGL := Lib.hid (show w3.heap.size ≤ gl ∧ gl < w4.heap.size from ⟨by omega, ho.lt⟩)
        rw [← hwb, ← hg]
        have HSw4 := Lib.hid hst.size
        try replace HC := Lib.hid (HC.out.block (hst.block _ HC.out.lt))
        try replace HO := Lib.hid (HO.out.block (hst.block _ HO.out.lt))
        replace HB := Lib.hid (HB.out.trans (hst.mono HB.out.size))
        have HL := Lib.hid ho
        clear ho hwb hg
        refine hK.out _ _ HB.out (fun hH2 => ?_)
        clear hK KK hst hHeld
        have hHeld := hH2
        clear hH2
        try simp only [Act.put, List.setIfInBounds_toArray, List.set_cons_zero, List.set_cons_succ]
        refine wpAnyH_ready (rs := [2]) (by kernel_rfl) (by simp) ?_
        refine AllReadyH.cons (o := { dst := some 26, op := _, type := _, pos := _, after := _, guard := _ }) rfl (fun KK hK => ?_) AllReadyH.nil
        go_simp
        refine (classes_any n T ta tc w4 (HT.out.below (Nat.le_refl _) HB.out) (by omega) (HTB.out.below (Nat.le_refl _) HB.out)).mono ?_
        rintro e9 w5 ⟨gc, rfl, hoc, hgc, hst⟩
        have HGC := Lib.hid (show w4.heap.size ≤ gc ∧ gc < w5.heap.size from ⟨hgc, hoc.lt⟩)
        have HSw5 := Lib.hid hst.size
        try replace HL := Lib.hid (HL.out.block (hst.block _ HL.out.lt))
        try replace HO := Lib.hid (HO.out.block (hst.block _ HO.out.lt))
        replace HB := Lib.hid (HB.out.trans (hst.mono HB.out.size))
        rw [← HKD.out] at hoc
        have HC := Lib.hid hoc
        clear hoc hgc
        refine hK.out _ _ HB.out (fun hH2 => ?_)
        clear hK KK hst hHeld
        have hHeld := hH2
        clear hH2
        try simp only [Act.put, List.setIfInBounds_toArray, List.set_cons_zero, List.set_cons_succ]
        refine takeD (i := 10) (oi := { dst := some 34, op := _, type := _, pos := _, after := _, guard := _ }) (d := some 34) (v := ?vvq95234) rfl rfl (by kernel_rfl) (by kernel_rfl) (by kernel_rfl) ?ddq95234 (by rfl) ?yyq95234 hHeld ?rrq95234
        case ddq95234 => first | exact fun _ _ _ h => h | exact fun _ _ _ h => HQ.out _ _ _ _ (by rfl) h
        case yyq95234 => (intro wx hSw; obtain y0 := hSw; go_simp; try (with_reducible rfl))
        try simp only [Act.put, List.setIfInBounds_toArray, List.set_cons_zero, List.set_cons_succ]
        refine wpAnyH_ready (rs := [11]) (by kernel_rfl) (by simp) ?_
        refine AllReadyH.cons (o := { dst := some 35, op := _, type := _, pos := _, after := _, guard := _ }) rfl (fun KK hK => ?_) AllReadyH.nil
        go_simp
        obtain ⟨wz, hwz⟩ : ∃ wz, wz = w5.alloc (Obj.cells #[.slice ta n tc, .slice (some ⟨gc, 0, none⟩) n n, .slice (some ⟨gl, 0, none⟩) n n, .int .i64 base, .slice (some ⟨go, 0, none⟩) n n, .slice none 0 0] 39) := ⟨_, rfl⟩
        obtain ⟨pz, hpz⟩ : ∃ g, g = w5.heap.size := ⟨_, rfl⟩
        have hst : Below w5.heap.size w5 wz := by rw [hwz]; exact (Below.refl _ _).alloc (Nat.le_refl _) _
        have hpar : Blk wz pz #[.slice ta n tc, .slice (some ⟨gc, 0, none⟩) n n, .slice (some ⟨gl, 0, none⟩) n n, .int .i64 base, .slice (some ⟨go, 0, none⟩) n n, .slice none 0 0] 39 := by rw [hwz, hpz]; exact Blk.new _ _ _
        rw [← hwz, ← hpz]
        have HPZ := Lib.hid hpz
        clear hpz
        refine hK.out _ _ (HB.out.trans (hst.mono HB.out.size)) (fun hH2 => ?_)
        clear hK KK hHeld hwz
        have hHeld := hH2
        clear hH2
        try simp only [Act.put, List.setIfInBounds_toArray, List.set_cons_zero, List.set_cons_succ]
        refine takeD (i := 12) (oi := { dst := some 9, op := _, type := _, pos := _, after := _, guard := _ }) (d := some 9) (v := ?vvzq9529) rfl rfl (by kernel_rfl) (by kernel_rfl) (by kernel_rfl) ?ddzq9529 (by rfl) ?yyzq9529 hHeld ?rrzq9529
        case ddzq9529 => first | exact fun _ _ _ h => h | exact fun _ _ _ h => HQ.out _ _ _ _ (by rfl) h
        case yyzq9529 => (intro wx hSw; obtain y0 := hSw; go_simp; try (with_reducible rfl))
        try simp only [Act.put, List.setIfInBounds_toArray, List.set_cons_zero, List.set_cons_succ]
        refine wpAnyH_done (by kernel_rfl) ?_ _
        have h1 := HGC.out
        have hpz := HPZ.out
        have h2 := HGL.out
        have h3 := HGO.out
        have h4 := HSw3.out
        have h5 := HSw4.out
        have h6 := HSw5.out
        have h7 := HB.out.size
        have hcl := HC.out.lt
        have hll := HL.out.lt
        have hol := HO.out.lt
        have hsz := HW2.out
        go_wp2_with fail
        go_meet
        exact ⟨⟨pz, gc, gl, go, n, base, .slice ta n tc, .slice none 0 0⟩, rfl, rfl, rfl, rfl, rfl, ⟨hpar, HC.out.block (hst.block _ hcl), HL.out.block (hst.block _ hll), HO.out.block (hst.block _ hol)⟩, ⟨hn, by show gc ≠ gl; omega, by show gc ≠ go; omega, by show gl ≠ go; omega, by show pz ≠ gc; omega, by show pz ≠ gl; omega, by show pz ≠ go; omega⟩, by show w.heap.size ≤ pz ∧ w.heap.size ≤ gc ∧ w.heap.size ≤ gl ∧ w.heap.size ≤ go; omega, HB.out.trans (hst.mono HB.out.size)⟩
      case rest =>
      clear HB
      obtain ⟨p, rfl, rfl, rfl, hpt, hpm, hpa, hok, hlow, hbel⟩ := hcut
      have HPT := Lib.hid hpt
      have HPA := Lib.hid hpa
      have HOK := Lib.hid hok
      have HLOW := Lib.hid hlow
      have HB := Lib.hid hbel
      clear hpt hpm hpa hok hlow hbel
      go_upto_region 5 with fail
      go_wp2_with fail
      refine (classes_any p.n T ta tc wc (HT.out.below (Nat.le_refl _) HB.out) (by omega) (HTB.out.below (Nat.le_refl _) HB.out)).mono ?_
      rintro e9 w3 ⟨gw, rfl, how, hgw, hb3⟩
      rw [← HKD.out] at how
      have hlt := HPA.out.lt
      have HGW := Lib.hid (show p.pz < gw ∧ p.gc < gw ∧ p.gl < gw ∧ p.go < gw ∧ gw < w3.heap.size from ⟨by have := hlt p.pz (.inl rfl); omega, by have := hlt p.gc (.inr (.inl rfl)); omega, by have := hlt p.gl (.inr (.inr (.inl rfl))); omega, by have := hlt p.go (.inr (.inr (.inr rfl))); omega, how.lt⟩)
      have HPA3 := Lib.hid (HPA.out.under hb3 (Nat.le_refl _))
      have HOW3 := Lib.hid how
      have HB3 := Lib.hid (HB.out.trans (hb3.mono HB.out.size))
      clear hlt how hgw hb3 HPA HB
      have HPM := Lib.hid (pmat_any p HOK.out K (fun _ => 0) (fun _ => false) w3 HPA3.out HPA3.out.lt)
      go_wp2_with fail
      refine HPM.out.mono ?_
      rintro e9 w4 ⟨gm, rfl, hp4, hm4, hgm, hsv4⟩
      have HHM := HPA3.out.lt
      obtain ⟨p2, hp2⟩ : ∃ p2 : PaP, p2 = { p with mv := .slice (some ⟨gm, 0, none⟩) p.n p.n } := ⟨_, rfl⟩
      have hq : p.pz = p2.pz ∧ p.gc = p2.gc ∧ p.gl = p2.gl ∧ p.go = p2.go ∧ p.n = p2.n ∧ p.base = p2.base ∧ p.tv = p2.tv := by rw [hp2]; exact ⟨rfl, rfl, rfl, rfl, rfl, rfl, rfl⟩
      have hok2 : PaOk p2 := by rw [hp2]; exact ⟨HOK.out.n2, HOK.out.cl, HOK.out.co, HOK.out.lo, HOK.out.pc, HOK.out.pl, HOK.out.po⟩
      have HMV := Lib.hid (show p2.mv = .slice (some ⟨gm, 0, none⟩) p2.n p2.n by rw [hp2])
      rw [← hp2] at hp4
      have HOW4 := Lib.hid (HOW3.out.block (hsv4.block _ HOW3.out.lt (by show ¬ gw = p.pz; have := HGW.out; omega)))
      have HB4 := Lib.hid (HB3.out.trans (hsv4.below HB3.out.size (by rintro k rfl; exact HLOW.out.1)))
      have hgm2 : gw < gm ∧ p.gc < gm ∧ p.gl < gm ∧ p.go < gm := by have := HGW.out; omega
      have HGM := Lib.hid hgm2
      have HPA4 := Lib.hid hp4
      have HM4 := Lib.hid hm4
      clear hp2 hp4 hm4 hgm hsv4 HPM HPA3 HOW3 HB3 HHM hgm2 HOK
      obtain ⟨q1, q2, q3, q4, q5, q6, q7⟩ := hq
      rw [q7] at HPT
      rw [q1, q2, q3, q4] at HLOW HGW
      rw [q2, q3, q4] at HGM
      simp only [q5] at HPT HOW4 HM4 HD hn hmk hmkb
      simp only [q5] at HT
      rw [q6] at HBS hbr
      rw [q1, q5, q6]
      have HQ5 := Lib.hid q5
      have HQ6 := Lib.hid q6
      clear q1 q2 q3 q4 q5 q6 q7
      have HPE := Lib.hid (explicit_any p2 hok2 K (fun _ => 0) w4 HPA4.out hbr)
      have HOK := Lib.hid hok2
      clear hok2
      go_wp2_with fail
      refine HPE.out.mono ?_
      rintro e9 w5 ⟨rfl, hp5, hsv5⟩
      have hgw4 : ∀ g, g ≠ p2.gc ∧ g ≠ p2.gl ∧ g ≠ p2.go → ¬ p2.own g := by
        rintro g h (h1 | h1 | h1) <;> omega
      have HOW5 := Lib.hid (HOW4.out.block (hsv5.block _ HOW4.out.lt (hgw4 gw (by have := HGW.out; omega))))
      have HM5 := Lib.hid (HM4.out.block (hsv5.block _ HM4.out.lt (hgw4 gm (by have := HGM.out; omega))))
      have HB5 := Lib.hid (HB4.out.trans (hsv5.below HB4.out.size (by have := HLOW.out; rintro k (h | h | h) <;> omega)))
      have HPA5 := Lib.hid hp5
      clear hp5 hsv5 hgw4 HOW4 HM4 HB4 HPA4 HPE
      have HPS := Lib.hid (sequences_any HOK.out HPA5.out HMV.out HPT.out HM5.out HOW5.out hbr (fun j => by have := lvE_range (b := ⟨p2.base, -1, false⟩) (K := K) (n := p2.n) rfl (by show 0 ≤ p2.base ∧ p2.base ≤ 125; omega) rfl j; omega))
      go_wp2_with fail
      refine HPS.out.mono ?_
      rintro e9 w6 ⟨v, sz, av, rfl, hrv, hsq, hb6⟩
      obtain ⟨S, hS⟩ : ∃ S, S = seqsB K p2.n (rnsAt (ouE K) (lvE ⟨p2.base, -1, false⟩ K p2.n) p2.n) := ⟨_, rfl⟩
      rw [← hS] at hrv hsq
      have HSD := Lib.hid (show S.Pairwise fun a b => ∀ x, x ∈ a → x ∉ b by rw [hS]; exact seqs_disj (rns_ok _) (Nat.le_refl _))
      have HSM := Lib.hid (show ∀ s, s ∈ S → s ≠ [] ∧ s.Pairwise (· < ·) ∧ ∀ x, x ∈ s → x < p2.n ∧ ouE K x = false by rw [hS]; exact fun s hs => seqs_mem (rns_ok _) (Nat.le_refl _) hs)
      have hSl : S.length ≤ 1000 := by
        have h1 : S.length ≤ (rnsAt (ouE K) (lvE ⟨p2.base, -1, false⟩ K p2.n) p2.n).length := by
          rw [hS]; unfold seqsB hds; rw [List.length_map]
          have := List.length_filter_le (hdB (rnX K p2.n (rnsAt (ouE K) (lvE ⟨p2.base, -1, false⟩ K p2.n) p2.n))) (List.range (rnsAt (ouE K) (lvE ⟨p2.base, -1, false⟩ K p2.n) p2.n).length)
          rw [List.length_range] at this; exact this
        have h2 := rns_len (O := ouE K) (L := lvE ⟨p2.base, -1, false⟩ K p2.n) p2.n
        omega
      have HSS := Lib.hid hS
      have hlt5 := HPA5.out.lt
      have hbb : p2.pz < w5.heap.size ∧ p2.gc < w5.heap.size ∧ p2.gl < w5.heap.size ∧ gw < w5.heap.size := ⟨hlt5 _ (.inl rfl), hlt5 _ (.inr (.inl rfl)), hlt5 _ (.inr (.inr (.inl rfl))), HOW5.out.lt⟩
      obtain ⟨va, vc, rfl, hvc1, hvc2⟩ := hrv.slice
      have HRV := Lib.hid hrv
      have HSQ := Lib.hid hsq
      have HPA6 := Lib.hid (HPA5.out.under hb6 (Nat.le_refl _))
      have HOW6 := Lib.hid (HOW5.out.below hb6 HOW5.out.lt)
      have HB6 := Lib.hid (HB5.out.trans (hb6.mono HB5.out.size))
      obtain ⟨bb, hbbd⟩ : ∃ b, b = w5.heap.size := ⟨_, rfl⟩
      rw [← hbbd] at HRV HSQ hbb
      clear hrv hsq hb6 hS hlt5 hbbd HPA5 HOW5 HB5 HM5 HPS
      go_upto_block 0 with fail
      go_cut [12] from 46 to 58 (fun _ wx => OwnF wx 3 p2.gl p2.n (seqLv (ouE K) (lvE ⟨p2.base, -1, false⟩ K p2.n) (clE ⟨p2.base, -1, false⟩ K p2.n) T K p2.base p2.n S) ∧ Save (fun k => k = p2.gc ∨ k = p2.gl) w6 wx)
      case first =>
        exact lvSeqs (w := w) HOK HPA6 HMV HPT HOW6 HT HBR HB6 HSQ HRV HSD HSM (by have := HLOW.out; omega) hbb (by have := HGW.out; omega) hbr HKR hSl (by assumption) (by assumption)
      case rest =>
      obtain ⟨hlv, hsv⟩ := hcut
      obtain ⟨SL, hSL⟩ : ∃ L, L = seqLv (ouE K) (lvE ⟨p2.base, -1, false⟩ K p2.n) (clE ⟨p2.base, -1, false⟩ K p2.n) T K p2.base p2.n S := ⟨_, rfl⟩
      rw [← hSL] at hlv
      have HSL := Lib.hid hSL
      have HLV := Lib.hid hlv
      have hg6 := HGW.out
      have HPB := Lib.hid (HPA6.out.par.block (hsv.block _ HPA6.out.par.lt (by have h1 := HOK.out.pc; have h2 := HOK.out.pl; rintro (h | h) <;> omega)))
      have HOB := Lib.hid (HPA6.out.out.block (hsv.block _ HPA6.out.out.lt (by have h1 := HOK.out.co; have h2 := HOK.out.lo; rintro (h | h) <;> omega)))
      have HOW7 := Lib.hid (HOW6.out.block (hsv.block _ HOW6.out.lt (by rintro (h | h) <;> omega)))
      have HB7 := Lib.hid (HB6.out.trans (hsv.below HB6.out.size (by have := HLOW.out; rintro k (h | h) <;> omega)))
      clear hlv hsv hSL hg6 HPA6 HOW6 HB6 HSQ HRV HSD HSM
      rename World => w7
      have hpl := HOK.out.pl
      have hpo := HOK.out.po
      have hlo := HOK.out.lo
      obtain ⟨O, hO⟩ : ∃ O, O = ouE K := ⟨_, rfl⟩
      rw [← hO] at HOB
      have HOO := Lib.hid hO
      clear hO hbb hvc1 hvc2
      go_wp2_with fail
      go_loopw [13, 62] (fun sv iv wr => ∃ i : Nat, iv = .int .i64 i ∧ i ≤ p2.n ∧ sv = .int .i64 (lastB O SL p2.base i) ∧ OwnF wr 3 p2.gl p2.n (prt (outL O SL p2.base) SL i) ∧ Only p2.gl w7 wr) (fun _ iv _ => p2.n - (intOf iv).toNat)
      case atStart => exact ⟨0, rfl, by omega, rfl, HLV.out.congr fun i _ => (prt_zero _ _ i).symm, Aside.refl _ _ _⟩
      case round =>
        clear HLV
        obtain ⟨i, rfl, hi, rfl, hlr, hon⟩ := hrel
        have HLR := Lib.hid hlr
        have HON := Lib.hid hon
        have HPR := Lib.hid (HPB.out.block (Aside.block hon p2.pz HPB.out.lt hpl (by simp [Value.ownBlock])))
        have HOR := Lib.hid (HOB.out.block (Aside.block hon p2.go HOB.out.lt (fun e => hlo e.symm) (by simp [Value.ownBlock])))
        clear hlr hon
        by_cases hin : i < p2.n
        · have c2 : wr.cell? ⟨p2.pz, 2, none⟩ = _ := HPR.out.cell (i := 2) rfl
          have c4 : wr.cell? ⟨p2.pz, 4, none⟩ = _ := HPR.out.cell (i := 4) rfl
          have o1 := HOR.out.cell hin
          have l1 := HLR.out.cell hin
          have l2 := HLR.out.frozen i
          rw [prt_ge (Nat.le_refl _)] at l1
          obtain ⟨la, hla⟩ : ∃ x, x = lastB O SL p2.base i := ⟨_, rfl⟩
          obtain ⟨o, ho⟩ : ∃ x, x = O i := ⟨_, rfl⟩
          rw [← ho] at o1
          rw [← hla]
          have HLA := Lib.hid hla
          have HO := Lib.hid ho
          clear hla ho
          cases o with
          | true =>
            have l3 : ∀ x, (wr.setCell ⟨p2.gl, i, none⟩ x).cell? ⟨p2.pz, 2, none⟩ = _ := fun x => (HPR.out.other (a := ⟨p2.gl, i, none⟩) hpl x).cell (i := 2) rfl
            go_wp2_with fail
            go_roundw
            case rel =>
              have e := outL_last (L := SL) (base := p2.base) HO.out.symm
              exact ⟨i + 1, by go_num, by omega, by rw [HLA.out, ← e]; rfl, (HLR.out.set i la).congr fun j _ => prt_set _ _ i (by rw [e, HLA.out]) j, HON.out.set _ _⟩
            case measure => simp [intOf]; omega
          | false =>
            go_wp2_with fail
            go_roundw
            case rel =>
              have e := outL_own (L := SL) (base := p2.base) HO.out.symm
              exact ⟨i + 1, by go_num, by omega, by rw [← e]; rfl, HLR.out.congr fun j _ => prt_same (by rw [e]) j, HON.out⟩
            case measure => simp [intOf]; omega
        · obtain rfl : i = p2.n := by omega
          have c2 : wr.cell? ⟨p2.pz, 2, none⟩ = _ := HPR.out.cell (i := 2) rfl
          have hwl : gw ≠ p2.gl := by have := HGW.out; omega
          have HWR := Lib.hid (HOW7.out.block (Aside.block HON.out gw HOW7.out.lt hwl (by simp [Value.ownBlock])))
          have HBL := Lib.hid (blanks_any p2.n p2.gl K (outL O SL p2.base) (some ⟨gw, 0, none⟩) p2.n p2.n p2.base wr (fun _ => ⟨gw, 0, rfl, fun j hj => by have := HWR.out.cell hj; simpa using this⟩) (HLR.out.congr fun j hj => prt_lt hj) (by omega) (fun b off h => by cases h; exact hwl))
          go_wp2_with fail
          refine HBL.out.mono ?_
          rintro e9 w9 ⟨rfl, ho9, hon9⟩
          have c2 : w9.cell? ⟨p2.pz, 2, none⟩ = _ := (HPR.out.block (Aside.block hon9 p2.pz HPR.out.lt hpl (by simp [Value.ownBlock]))).cell (i := 2) rfl
          have HO9 := Lib.hid ho9
          have HN9 := Lib.hid hon9
          clear ho9 hon9 HBL
          go_wp2_with fail
          go_ret3
          have hb9 : Below w.heap.size w w9 := HB7.out.trans (Only.to_below (HON.out.trans HN9.out) HB7.out.size HLOW.out.2.2.1)
          refine ⟨hb9, ?_⟩
          try rw [if_neg (show ¬ ((0:Int) ≠ 0) from fun h => h rfl), if_neg HD.out]
          rw [HQ5.out, HQ6.out]
          refine ⟨p2.gl, rfl, HO9.out.congr fun j _ => ?_, HLOW.out.2.2.1⟩
          rw [HOO.out, HSL.out, HSS.out]
          rfl
end Go.Proofs.YtojbicdmcodgdaaDoor.BD
