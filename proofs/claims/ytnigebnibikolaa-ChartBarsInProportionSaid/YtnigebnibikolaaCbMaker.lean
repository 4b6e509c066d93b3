

/-
  chart's edges, and its maker: y, zero, bar.
-/
import Derived.Test.YtnigebnibikolaaCbRange
import Derived.Test.YtnigebnibikolaaMake
import Derived.Deep.RegionHeld3
import Derived.BigRegion
import Derived.Test.YtnigebnibikolaaTakes
namespace Go.Proofs.Ytnigebnibikolaa.CB
open Go.RowKit Go.Law Go.Law.Cb Ref CH
set_option linter.unusedVariables false
set_option linter.unusedSimpArgs false
set_option maxRecDepth 100000
/-- the parts of a length -/
def edF (long : Int) (parts : Nat) (i : Nat) : Int := long * (i : Int) / (parts : Int)
theorem ed_bd {long : Int} {parts i : Nat} (h : 0 ≤ long ∧ long ≤ 100000) (hp : 0 < parts) (hi : i ≤ parts) : 0 ≤ edF long parts i ∧ edF long parts i ≤ 100000 := by
  unfold edF
  have h1 : 0 ≤ long * (i : Int) := Int.mul_nonneg h.1 (by omega)
  have h2 : long * (i : Int) ≤ 100000 * (parts : Int) := Int.mul_le_mul h.2 (by omega) (by omega) (by omega)
  exact ⟨Int.ediv_nonneg h1 (by omega), Int.ediv_le_of_le_mul (by omega) h2⟩
set_option maxHeartbeats 2000000 in
theorem edges_any (long : Int) (parts : Nat) (w : World) (hl : 0 ≤ long ∧ long ≤ 100000) (hp : 0 < parts) (hp2 : parts ≤ 1000) :
    Calls Try.prog 45 #[.int .i64 long, .int .i64 (parts : Int)] w fun e w' => e = .returned (.slice (some ⟨w.heap.size, 0, none⟩) (parts + 1) (parts + 1)) ∧ OwnF w' 3 w.heap.size (parts + 1) (edF long parts) ∧ Below w.heap.size w w' := by
  have hmk := make_ints (parts + 1) (by omega)
  rw [show (((parts + 1 : Nat)) : Int) = (parts : Int) + 1 by omega] at hmk
  obtain ⟨hl1, hl2⟩ := hl
  go_enter Try.func45, Try.ntmps45
  go_wp2_with fail
  go_loopw [12] (fun iv wr => ∃ i : Nat, iv = .int .i64 i ∧ i ≤ parts + 1 ∧ OwnF wr 3 w.heap.size (parts + 1) (fun j => if j < i then edF long parts j else 0) ∧ Below w.heap.size w wr) (fun iv _ => parts + 1 - (intOf iv).toNat)
  case atStart =>
    refine ⟨0, rfl, by omega, ?_, (Below.refl _ _).alloc (Nat.le_refl _) _⟩
    exact (OwnF.make 3 (parts + 1)).congr fun j _ => by rw [if_neg (by omega)]
  case round =>
    clear hmk
    obtain ⟨i, rfl, hi, hO, hbel⟩ := hrel
    have hlt := hO.lt
    by_cases hip : i < parts + 1
    · have c0 := hO.cell hip
      have f0 := hO.frozen i
      have h1 : 0 ≤ long * (i : Int) := Int.mul_nonneg hl1 (by omega)
      have h2 : long * (i : Int) ≤ 100000 * (parts : Int) := Int.mul_le_mul hl2 (by omega) (by omega) (by omega)
      have HE := Lib.hid (show edF long parts i = long * (i : Int) / (parts : Int) from rfl)
      have HO := Lib.hid hO
      have i1 : (0 : Int) ≤ (i : Int) := by omega
      have i2 : (i : Int) < (parts : Int) + 1 := by omega
      clear hO
      go_wp2_with fail
      go_roundw
      case rel =>
        refine ⟨i + 1, by go_num, by omega, ?_, ?_⟩
        · refine (HO.out.set i _).congr fun j hj => ?_
          unfold upd
          show _ = if j < i + 1 then edF long parts j else 0
          by_cases hji : j = i
          · subst hji
            rw [if_pos rfl, if_pos (by omega)]; exact HE.out.symm
          · rw [if_neg hji]
            show (if j < i then edF long parts j else 0) = _
            by_cases hj2 : j < i
            · rw [if_pos hj2, if_pos (by omega)]
            · rw [if_neg hj2, if_neg (by omega)]
        · exact hbel.setCell (Nat.le_refl _) _
      case measure => simp [intOf]; omega
    · obtain rfl : i = parts + 1 := by omega
      have HO := Lib.hid (hO.congr (f' := edF long parts) fun j hj => by rw [if_pos hj])
      clear hO
      go_wp2_with fail
      go_ret
      exact ⟨rfl, HO.out, hbel⟩
theorem near_bd {a h d : Int} (hd : 1 ≤ d) (ha : 0 ≤ a ∧ a ≤ d) (hh : 0 ≤ h) : 0 ≤ SP.near (a * h) d ∧ SP.near (a * h) d ≤ h := by
  unfold SP.near
  have h1 : 0 ≤ a * h := Int.mul_nonneg ha.1 hh
  have h2 : a * h ≤ d * h := Int.mul_le_mul_of_nonneg_right ha.2 hh
  refine ⟨Int.ediv_nonneg (by omega) (by omega), ?_⟩
  have h3 : 2 * (a * h) + d < (h + 1) * (2 * d) := by
    have e : (h + 1) * (2 * d) = 2 * (d * h) + 2 * d := by rw [Int.add_mul, Int.one_mul, Int.mul_comm h, Int.mul_assoc]
    omega
  have := Int.ediv_lt_of_lt_mul (show 0 < 2 * d by omega) h3
  omega
theorem y_bd {lo hi st height v : Int} (hc : SP.chk lo hi st = 0) (hv : lo ≤ v ∧ v ≤ hi) (hh : 1 ≤ height ∧ height ≤ 100000) : 0 ≤ yF lo hi height v ∧ yF lo hi height v ≤ 100000 := by
  obtain ⟨_, h2, _⟩ := SP.chk_zero hc
  have := near_bd (a := v - lo) (h := height) (d := hi - lo) (by omega) (by omega) (by omega)
  unfold yF
  omega
/-- the maker's cells -/
def mkCells (kind : Int) (a1 a2 : Option Addr) (p cp s cs : Nat) (lo hi st height : Int) (out : Value) : Array Value := #[.int .i64 kind, .slice a1 p cp, .slice a2 s cs, .int .i64 lo, .int .i64 hi, .int .i64 st, .int .i64 height, out]
def MkAt (w : World) (g : Nat) (kind : Int) (a1 a2 : Option Addr) (p cp s cs : Nat) (lo hi st height : Int) (out : Value) : Prop := Blk w g (mkCells kind a1 a2 p cp s cs lo hi st height out) 95
set_option maxHeartbeats 4000000 in
theorem y_any (g : Nat) (kind : Int) (a1 a2 : Option Addr) (p cp s cs : Nat) (lo hi st height : Int) (out : Value) (v : Int) (w : World) (hM : MkAt w g kind a1 a2 p cp s cs lo hi st height out) (hc : SP.chk lo hi st = 0) (hv : lo ≤ v ∧ v ≤ hi) (hh : 1 ≤ height ∧ height ≤ 100000) :
    Calls Try.prog 48 #[.pointer (some ⟨g, 0, none⟩), .int .i64 v] w fun e w' => e = .returned (.int .i64 (yF lo hi height v)) ∧ Below w.heap.size w w' := by
  have hpl := fun w1 => SP.place_any lo hi st v height w1
  rw [show SP.placeV lo hi st v height = .tuple #[.int .i64 (SP.near ((v - lo) * height) (hi - lo)), .int .i64 0] by
    unfold SP.placeV; rw [if_neg (by omega), if_pos ⟨by omega, hv⟩]] at hpl
  have HPL := Lib.hid hpl
  have hlt := Blk.lt hM
  obtain ⟨h1, h2, _⟩ := SP.chk_zero hc
  unfold SP.InR at h1
  have hnb : 0 ≤ SP.near ((v - lo) * height) (hi - lo) ∧ SP.near ((v - lo) * height) (hi - lo) ≤ height := near_bd (by omega) (by omega) (by omega)
  have HY := Lib.hid (show yF lo hi height v = height - SP.near ((v - lo) * height) (hi - lo) from rfl)
  obtain ⟨Y, hY⟩ : ∃ Y, Y = yF lo hi height v := ⟨_, rfl⟩
  obtain ⟨N, hN⟩ : ∃ N, N = SP.near ((v - lo) * height) (hi - lo) := ⟨_, rfl⟩
  rw [← hY] at HY ⊢
  rw [← hN] at HY HPL hnb
  have c0 : w.cell? ⟨g, 0, none⟩ = some (.int .i64 kind) := Blk.cell hM (i := 0) rfl
  have c1 : w.cell? ⟨g, 1, none⟩ = some (.slice a1 p cp) := Blk.cell hM (i := 1) rfl
  have c2 : w.cell? ⟨g, 2, none⟩ = some (.slice a2 s cs) := Blk.cell hM (i := 2) rfl
  have c3 : w.cell? ⟨g, 3, none⟩ = some (.int .i64 lo) := Blk.cell hM (i := 3) rfl
  have c4 : w.cell? ⟨g, 4, none⟩ = some (.int .i64 hi) := Blk.cell hM (i := 4) rfl
  have c5 : w.cell? ⟨g, 5, none⟩ = some (.int .i64 st) := Blk.cell hM (i := 5) rfl
  have c6 : w.cell? ⟨g, 6, none⟩ = some (.int .i64 height) := Blk.cell hM (i := 6) rfl
  have c7 : w.cell? ⟨g, 7, none⟩ = some out := Blk.cell hM (i := 7) rfl
  clear hpl hc hM hY hN h1
  go_enter Try.func48, Try.ntmps48
  go_wp2_with fail
  refine wp_region_held_drew (S := fun w' => w'.cell? ⟨g, 3, none⟩ = some (.int .i64 lo) ∧ w'.cell? ⟨g, 4, none⟩ = some (.int .i64 hi) ∧ w'.cell? ⟨g, 5, none⟩ = some (.int .i64 st) ∧ w'.cell? ⟨g, 6, none⟩ = some (.int .i64 height)) (by kernel_rfl) (by exact ⟨c3, c4, c5, c6⟩) ?_
  intro hHeld
  refine takeD (i := 0) (oi := { dst := some 8, op := _, type := _, pos := _, after := _, guard := _ }) (d := some 8) (v := ?vva8) rfl rfl (by kernel_rfl) (by kernel_rfl) (by kernel_rfl) ?dda8 (by rfl) ?yya8 hHeld ?rra8
  case dda8 => exact fun _ _ _ h => h
  case yya8 => (intro wx hSw; obtain ⟨y0, y1, y2, y3⟩ := hSw; go_simp; try (with_reducible rfl))
  try simp only [Act.put, List.setIfInBounds_toArray, List.set_cons_zero, List.set_cons_succ]
  refine takeD (i := 1) (oi := { dst := some 9, op := _, type := _, pos := _, after := _, guard := _ }) (d := some 9) (v := ?vva9) rfl rfl (by kernel_rfl) (by kernel_rfl) (by kernel_rfl) ?dda9 (by rfl) ?yya9 hHeld ?rra9
  case dda9 => exact fun _ _ _ h => h
  case yya9 => (intro wx hSw; obtain ⟨y0, y1, y2, y3⟩ := hSw; go_simp; try (with_reducible rfl))
  try simp only [Act.put, List.setIfInBounds_toArray, List.set_cons_zero, List.set_cons_succ]
  refine takeD (i := 2) (oi := { dst := some 10, op := _, type := _, pos := _, after := _, guard := _ }) (d := some 10) (v := ?vva10) rfl rfl (by kernel_rfl) (by kernel_rfl) (by kernel_rfl) ?dda10 (by rfl) ?yya10 hHeld ?rra10
  case dda10 => exact fun _ _ _ h => h
  case yya10 => (intro wx hSw; obtain ⟨y0, y1, y2, y3⟩ := hSw; go_simp; try (with_reducible rfl))
  try simp only [Act.put, List.setIfInBounds_toArray, List.set_cons_zero, List.set_cons_succ]
  refine takeD (i := 3) (oi := { dst := some 11, op := _, type := _, pos := _, after := _, guard := _ }) (d := some 11) (v := ?vva11) rfl rfl (by kernel_rfl) (by kernel_rfl) (by kernel_rfl) ?dda11 (by rfl) ?yya11 hHeld ?rra11
  case dda11 => exact fun _ _ _ h => h
  case yya11 => (intro wx hSw; obtain ⟨y0, y1, y2, y3⟩ := hSw; go_simp; try (with_reducible rfl))
  try simp only [Act.put, List.setIfInBounds_toArray, List.set_cons_zero, List.set_cons_succ]
  refine takeD (i := 4) (oi := { dst := some 12, op := _, type := _, pos := _, after := _, guard := _ }) (d := some 12) (v := ?vva12) rfl rfl (by kernel_rfl) (by kernel_rfl) (by kernel_rfl) ?dda12 (by rfl) ?yya12 hHeld ?rra12
  case dda12 => exact fun _ _ _ h => h
  case yya12 => (intro wx hSw; obtain ⟨y0, y1, y2, y3⟩ := hSw; go_simp; try (with_reducible rfl))
  try simp only [Act.put, List.setIfInBounds_toArray, List.set_cons_zero, List.set_cons_succ]
  refine takeD (i := 5) (oi := { dst := some 13, op := _, type := _, pos := _, after := _, guard := _ }) (d := some 13) (v := ?vva13) rfl rfl (by kernel_rfl) (by kernel_rfl) (by kernel_rfl) ?dda13 (by rfl) ?yya13 hHeld ?rra13
  case dda13 => exact fun _ _ _ h => h
  case yya13 => (intro wx hSw; obtain ⟨y0, y1, y2, y3⟩ := hSw; go_simp; try (with_reducible rfl))
  try simp only [Act.put, List.setIfInBounds_toArray, List.set_cons_zero, List.set_cons_succ]
  refine takeD (i := 6) (oi := { dst := some 14, op := _, type := _, pos := _, after := _, guard := _ }) (d := some 14) (v := ?vva14) rfl rfl (by kernel_rfl) (by kernel_rfl) (by kernel_rfl) ?dda14 (by rfl) ?yya14 hHeld ?rra14
  case dda14 => exact fun _ _ _ h => h
  case yya14 => (intro wx hSw; obtain ⟨y0, y1, y2, y3⟩ := hSw; go_simp; try (with_reducible rfl))
  try simp only [Act.put, List.setIfInBounds_toArray, List.set_cons_zero, List.set_cons_succ]
  refine takeD (i := 7) (oi := { dst := some 15, op := _, type := _, pos := _, after := _, guard := _ }) (d := some 15) (v := ?vva15) rfl rfl (by kernel_rfl) (by kernel_rfl) (by kernel_rfl) ?dda15 (by rfl) ?yya15 hHeld ?rra15
  case dda15 => exact fun _ _ _ h => h
  case yya15 => (intro wx hSw; obtain ⟨y0, y1, y2, y3⟩ := hSw; go_simp; try (with_reducible rfl))
  try simp only [Act.put, List.setIfInBounds_toArray, List.set_cons_zero, List.set_cons_succ]
  refine takeD (i := 8) (oi := { dst := some 16, op := _, type := _, pos := _, after := _, guard := _ }) (d := some 16) (v := ?vva16) rfl rfl (by kernel_rfl) (by kernel_rfl) (by kernel_rfl) ?dda16 (by rfl) ?yya16 hHeld ?rra16
  case dda16 => exact fun _ _ _ h => h
  case yya16 => (intro wx hSw; obtain ⟨y0, y1, y2, y3⟩ := hSw; go_simp; try (with_reducible rfl))
  try simp only [Act.put, List.setIfInBounds_toArray, List.set_cons_zero, List.set_cons_succ]
  refine wpAnyH_ready (rs := [9]) (by kernel_rfl) (by simp) ?_
  refine AllReadyH.cons (o := { dst := some 17, op := _, type := _, pos := _, after := _, guard := _ }) rfl (fun K hK => ?_) AllReadyH.nil
  go_simp
  go_at_call 74
  refine (HPL.out w.drew).mono ?_
  rintro e w6 ⟨rfl, hb6⟩
  refine hK.out _ _ ?_ (fun hHeld2 => ?_)
  · refine ⟨?_, ?_, ?_, ?_⟩ <;> (rw [hb6.cell (by simpa using hlt)]; assumption)
  clear hK K
  try simp only [Act.put, List.setIfInBounds_toArray, List.set_cons_zero, List.set_cons_succ]
  refine takeD (i := 10) (oi := { dst := some 7, op := _, type := _, pos := _, after := _, guard := _ }) (d := some 7) (v := ?vvb7) rfl rfl (by kernel_rfl) (by kernel_rfl) (by kernel_rfl) ?ddb7 (by rfl) ?yyb7 hHeld2 ?rrb7
  case ddb7 => exact fun _ _ _ h => h
  case yyb7 => (intro wx hSw; obtain ⟨y0, y1, y2, y3⟩ := hSw; go_simp; try (with_reducible rfl))
  try simp only [Act.put, List.setIfInBounds_toArray, List.set_cons_zero, List.set_cons_succ]
  refine takeD (i := 11) (oi := { dst := some 18, op := _, type := _, pos := _, after := _, guard := _ }) (d := some 18) (v := ?vvb18) rfl rfl (by kernel_rfl) (by kernel_rfl) (by kernel_rfl) ?ddb18 (by rfl) ?yyb18 hHeld2 ?rrb18
  case ddb18 => exact fun _ _ _ h => h
  case yyb18 => (intro wx hSw; obtain ⟨y0, y1, y2, y3⟩ := hSw; go_simp; try (with_reducible rfl))
  try simp only [Act.put, List.setIfInBounds_toArray, List.set_cons_zero, List.set_cons_succ]
  refine takeD (i := 12) (oi := { dst := some 19, op := _, type := _, pos := _, after := _, guard := _ }) (d := some 19) (v := ?vvb19) rfl rfl (by kernel_rfl) (by kernel_rfl) (by kernel_rfl) ?ddb19 (by rfl) ?yyb19 hHeld2 ?rrb19
  case ddb19 => exact fun _ _ _ h => h
  case yyb19 => (intro wx hSw; obtain ⟨y0, y1, y2, y3⟩ := hSw; go_simp; try (with_reducible rfl))
  try simp only [Act.put, List.setIfInBounds_toArray, List.set_cons_zero, List.set_cons_succ]
  refine takeD (i := 13) (oi := { dst := some 5, op := _, type := _, pos := _, after := _, guard := _ }) (d := some 5) (v := ?vvb5) rfl rfl (by kernel_rfl) (by kernel_rfl) (by kernel_rfl) ?ddb5 (by rfl) ?yyb5 hHeld2 ?rrb5
  case ddb5 => exact fun _ _ _ h => h
  case yyb5 => (intro wx hSw; obtain ⟨y0, y1, y2, y3⟩ := hSw; go_simp; try (with_reducible rfl))
  try simp only [Act.put, List.setIfInBounds_toArray, List.set_cons_zero, List.set_cons_succ]
  refine takeD (i := 14) (oi := { dst := some 6, op := _, type := _, pos := _, after := _, guard := _ }) (d := some 6) (v := ?vvb6) rfl rfl (by kernel_rfl) (by kernel_rfl) (by kernel_rfl) ?ddb6 (by rfl) ?yyb6 hHeld2 ?rrb6
  case ddb6 => exact fun _ _ _ h => h
  case yyb6 => (intro wx hSw; obtain ⟨y0, y1, y2, y3⟩ := hSw; go_simp; try (with_reducible rfl))
  try simp only [Act.put, List.setIfInBounds_toArray, List.set_cons_zero, List.set_cons_succ]
  refine wpAnyH_done (by kernel_rfl) ?_ _
  have d6 : w6.cell? ⟨g, 6, none⟩ = some (.int .i64 height) := hHeld2.2.2.2
  have hbel : Below w.heap.size w w6 := ((Below.refl _ _).drew).trans hb6
  clear hb6 hHeld hHeld2 c0 c1 c2 c3 c4 c5 c6 c7
  go_wp2_with fail
  go_ret
  exact ⟨by rw [HY.out]; rfl, hbel⟩
end Go.Proofs.Ytnigebnibikolaa.CB
