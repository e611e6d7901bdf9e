/- The document's answer of digest: below, root. -/
import Derived.Test.YtgcbgeombbohpaaDoorRefA
namespace Go.Proofs.YtgcbgeombbohpaaDoor
open Go.RowKit
set_option maxRecDepth 100000

def belowTo (x y : List Nat) : Nat → Bool
  | 0 => true
  | i + 1 => if x.getD i 0 = y.getD i 0 then belowTo x y i else decide (x.getD i 0 < y.getD i 0)

def belowL (x : List Nat) (n k : Nat) : Bool := belowTo x ((List.replicate x.length 0).set k n) x.length

set_option maxHeartbeats 4000000 in
set_option maxRecDepth 100000 in
theorem below_any (bx cx n k : Nat) (x : List Nat) (w : World) (hX : Blk w bx 32 (u64V x)) (hl : x.length ≤ 16) (hk : k < x.length) :
    Calls Tryd.prog 40 #[.slice (some ⟨bx, 0, none⟩) x.length cx, .int .u64 (n : Int), .int .i64 (k : Int)] w fun e w' => e = .returned (.bool (belowL x n k)) ∧ Ext [] w w' := by
  obtain ⟨i0, hi, hz0, hz1, hz2⟩ := info_parts info_u64
  have hal := hX.lt
  obtain ⟨la, hla⟩ : ∃ la, la = x.length := ⟨_, rfl⟩
  have HA := Lib.hid hX
  have HLA := Lib.hid hla
  have HR := Lib.hid (show belowL x n k = belowTo x ((List.replicate la 0).set k n) la by rw [hla]; rfl)
  rw [← hla] at hl hk ⊢
  clear hla hX
  go_enter Tryd.func40, Tryd.ntmps40
  go_upto_region 2 with (at_make; refine wpList_mk _ rfl _ _ _ rfl 32 i0 (.int .u64 0) Tryd.underlying67 hi hz0 hz1 rfl .i64 .i64 _ _ la rfl rfl rfl rfl (by rw [hz2]; omega) (by unfold maxLen; omega) ?_)
  rw [show Array.replicate la (Value.int .u64 0) = (u64V (List.replicate la 0)).toArray by rw [← u64V_replicate]; simp]
  have BO := Blk.new w 32 (u64V (List.replicate la 0)).toArray
  have x0 : Ext [] w (w.alloc (.cells (u64V (List.replicate la 0)).toArray 32)) := (Ext.refl _ _).alloc _
  have ho := (BO.cell k).trans (u64V_at (List.replicate la 0) k (by simpa using hk))
  have fo := BO.frozen k
  generalize w.alloc (.cells (u64V (List.replicate la 0)).toArray 32) = w1 at *
  go_wp2_with fail
  have BY := BO.set k (.int .u64 (n : Int))
  rw [u64V_set] at BY
  have x1 := x0.setCell (p := ⟨w.heap.size, k, none⟩) (.inr (Nat.le_refl _)) (.int .u64 (n : Int))
  have hyl : ((List.replicate la 0).set k n).length = la := by simp
  have HYL := Lib.hid hyl
  clear BO x0 ho fo hyl
  generalize w1.setCell ⟨w.heap.size, k, none⟩ (.int .u64 (n : Int)) = w2 at *
  generalize (List.replicate la 0).set k n = y at *
  go_loopw [8] (fun i wr => ∃ m : Nat, m ≤ la ∧ i = .int .i64 ((m : Int) - 1) ∧ belowTo x y m = belowTo x y la ∧ Blk wr w.heap.size 32 (u64V y) ∧ Ext [] w wr) (fun i _ => (1 + intOf i).toNat)
  case atStart => exact ⟨la, Nat.le_refl _, rfl, rfl, BY, x1⟩
  case round =>
    clear BY x1
    obtain ⟨m, hm, rfl, hbt, BY, x1⟩ := hrel
    have HBT := Lib.hid hbt
    clear hbt
    cases m with
    | zero =>
      go_wp2_with fail
      go_ret
      exact ⟨by rw [HR.out, ← HBT.out]; rfl, x1⟩
    | succ m =>
      have e1 : ((m + 1 : Nat) : Int) - 1 = (m : Int) := by omega
      rw [e1]
      have h1 := ((HA.out.ext x1 (by simp)).cell m).trans (u64V_at x m (by have := HLA.out; omega))
      have h2 := (BY.cell m).trans (u64V_at y m (by have := HYL.out; omega))
      have hb := Lib.hid (show belowTo x y (m + 1) = if x.getD m 0 = y.getD m 0 then belowTo x y m else decide (x.getD m 0 < y.getD m 0) from rfl)
      generalize x.getD m 0 = xm at *
      generalize y.getD m 0 = ym at *
      go_upto_region 6 with (fail)
      go_quiet (fail)
      rename Nat => nq
      have BY2 := BY.drewN nq
      have x2 := x1.drewN nq
      have h1' : (wr.drewN nq).cell? ⟨bx, m, none⟩ = some (.int .u64 (xm : Int)) := by rw [← h1]; rfl
      have h2' : (wr.drewN nq).cell? ⟨w.heap.size, m, none⟩ = some (.int .u64 (ym : Int)) := by rw [← h2]; rfl
      clear h1 h2
      generalize wr.drewN nq = w3 at *
      by_cases hxy : xm = ym
      · have hne : (((xm : Nat) : Int) != (ym : Int)) = false := by rw [bne_eq_false_iff_eq]; omega
        have hb2 := hb.out
        rw [if_pos hxy] at hb2
        have HB2 := Lib.hid hb2
        clear hxy hb2 hb
        go_wp2_with fail
        go_roundw
        case rel => exact ⟨m, by omega, by go_num, by rw [← HB2.out]; exact HBT.out, BY2, x2⟩
        case measure => simp [intOf]; omega
      · have hne : (((xm : Nat) : Int) != (ym : Int)) = true := by rw [bne_iff_ne]; omega
        have hb2 := hb.out
        rw [if_neg hxy] at hb2
        have HB2 := Lib.hid hb2
        clear hxy hb2 hb
        go_wp2_with fail
        go_quiet (fail)
        rename Nat => nq2
        go_wp2_with fail
        go_ret
        refine ⟨?_, x2.drewN _⟩
        rw [HR.out, ← HBT.out, HB2.out]
        simp

def partsOf (y : Nat) : List Nat := [y % 4294967296, y / 4294967296]

def powerOf (y power : Nat) : List Nat := if power = 3 then timesL (timesL (partsOf y) (partsOf y)) (partsOf y) else timesL (partsOf y) (partsOf y)

def rstep (n power x bit : Nat) : Nat :=
  if belowL (powerOf ((x + 2 ^ bit) % 18446744073709551616) power) n power then (x + 2 ^ bit) % 18446744073709551616 else x

def rootTo (n power : Nat) : Nat → Nat
  | 0 => 0
  | j + 1 => rstep n power (rootTo n power j) (36 - j)

def rootOf (n power : Nat) : Nat := rootTo n power 37 % 4294967296

set_option maxHeartbeats 4000000 in
set_option maxRecDepth 100000 in
theorem root_any (n power : Nat) (w : World) (hp : power = 2 ∨ power = 3) :
    Calls Tryd.prog 29 #[.int .u64 (n : Int), .int .i64 (power : Int)] w fun e w' => e = .returned (.int .u32 (rootOf n power : Int)) ∧ Ext [] w w' := by
  go_enter Tryd.func29, Tryd.ntmps29
  go_wp2_with fail
  go_loopw [5, 6] (fun x i wr => ∃ j : Nat, j ≤ 37 ∧ i = .int .i64 (36 - (j : Int)) ∧ x = .int .u64 (rootTo n power j : Int) ∧ Ext [] w wr) (fun _ i _ => (1 + intOf i).toNat)
  case atStart => exact ⟨0, by omega, rfl, rfl, Ext.refl _ _⟩
  case round =>
    obtain ⟨j, hj, rfl, rfl, x⟩ := hrel
    by_cases hlt : j < 37
    · have hr := Lib.hid (show rootTo n power (j + 1) = rstep n power (rootTo n power j) (36 - j) from rfl)
      generalize rootTo n power j = xv at *
      have hy : IntKind.u64.wrap ((xv : Int) + IntKind.u64.wrap (2 ^ (36 - j))) = (((xv + 2 ^ (36 - j)) % 18446744073709551616 : Nat) : Int) := by
        rw [show (2 : Int) ^ (36 - j) = ((2 ^ (36 - j) : Nat) : Int) by simp]
        generalize 2 ^ (36 - j) = q
        simp only [IntKind.wrap_u64]
        omega
      have HY := Lib.hid hy
      clear hy
      go_upto_region 6 with (fail)
      rw [HY.out]
      unfold rstep at hr
      generalize (xv + 2 ^ (36 - j)) % 18446744073709551616 = y at *
      clear HY
      go_upto_region 7 with (fail)
      have B1 : Blk (wr.alloc (.cells #[.int .u64 ((y : Int) % 4294967296), .int .u64 ((y : Int) / 4294967296)] 32)) wr.heap.size 32 (u64V (partsOf y)) := Blk.new wr 32 (u64V (partsOf y)).toArray
      have x1 : Ext [] w (wr.alloc (.cells #[.int .u64 ((y : Int) % 4294967296), .int .u64 ((y : Int) / 4294967296)] 32)) := x.alloc _
      generalize wr.alloc (.cells #[.int .u64 ((y : Int) % 4294967296), .int .u64 ((y : Int) / 4294967296)] 32) = w1 at *
      clear x
      have hpl : (partsOf y).length = 2 := rfl
      have ht := times_any wr.heap.size wr.heap.size 2 2 (partsOf y) (partsOf y) w1 B1 B1 (by rw [hpl]; omega) (by rw [hpl]; omega)
      have htl := timesL_length (partsOf y) (partsOf y)
      rw [hpl] at ht htl
      have HT := Lib.hid ht
      clear ht
      go_wp2_with fail
      refine HT.out.mono ?_
      rintro e w2 ⟨g, rfl, B2, x2, hg⟩
      have B1' := B1.ext x2 (by simp)
      have x12 := x1.trans x2
      rcases hp with hp | hp
      · have hq : ((power : Int) == 3) = false := by rw [beq_eq_false_iff_ne]; omega
        have hz := Lib.hid (show powerOf y power = timesL (partsOf y) (partsOf y) by unfold powerOf; rw [if_neg (by omega)])
        have hbe := below_any g 4 n power (timesL (partsOf y) (partsOf y)) w2 B2 (by omega) (by omega)
        rw [htl] at hbe
        have HB := Lib.hid hbe
        rw [hz.out] at hr
        clear hbe hz HT
        generalize belowL (timesL (partsOf y) (partsOf y)) n power = bb at *
        clear hp
        go_wp2_with fail
        refine HB.out.mono ?_
        rintro e w3 ⟨rfl, x3⟩
        cases bb
        · go_wp2_with fail
          go_roundw
          case rel => exact ⟨j + 1, by omega, by go_num, by rw [hr.out]; rfl, x12.trans x3⟩
          case measure => simp [intOf]; omega
        · go_wp2_with fail
          go_roundw
          case rel => exact ⟨j + 1, by omega, by go_num, by rw [hr.out]; rfl, x12.trans x3⟩
          case measure => simp [intOf]; omega
      · have hq : ((power : Int) == 3) = true := by rw [beq_iff_eq]; omega
        have hz := Lib.hid (show powerOf y power = timesL (timesL (partsOf y) (partsOf y)) (partsOf y) by unfold powerOf; rw [if_pos hp])
        have htm := times_any g wr.heap.size 4 2 (timesL (partsOf y) (partsOf y)) (partsOf y) w2 B2 B1' (by omega) (by rw [hpl]; omega)
        have htl2 := timesL_length (timesL (partsOf y) (partsOf y)) (partsOf y)
        rw [htl, hpl] at htm htl2
        have HT2 := Lib.hid htm
        rw [hz.out] at hr
        have hbe := fun g' w3 B3 => below_any g' 6 n power (timesL (timesL (partsOf y) (partsOf y)) (partsOf y)) w3 B3 (by omega) (by omega)
        rw [htl2] at hbe
        have HB := Lib.hid hbe
        clear htm hz HT hbe
        generalize belowL (timesL (timesL (partsOf y) (partsOf y)) (partsOf y)) n power = bb at *
        clear hp
        go_wp2_with fail
        refine HT2.out.mono ?_
        rintro e w3 ⟨g', rfl, B3, x3, -⟩
        have HB3 := Lib.hid (HB.out g' w3 B3)
        go_wp2_with fail
        refine HB3.out.mono ?_
        rintro e w4 ⟨rfl, x4⟩
        cases bb
        · go_wp2_with fail
          go_roundw
          case rel => exact ⟨j + 1, by omega, by go_num, by rw [hr.out]; rfl, (x12.trans x3).trans x4⟩
          case measure => simp [intOf]; omega
        · go_wp2_with fail
          go_roundw
          case rel => exact ⟨j + 1, by omega, by go_num, by rw [hr.out]; rfl, (x12.trans x3).trans x4⟩
          case measure => simp [intOf]; omega
    · have hj' : j = 37 := by omega
      have hr := Lib.hid (show rootOf n power = rootTo n power j % 4294967296 by rw [hj']; rfl)
      generalize rootTo n power j = xv at *
      clear hj'
      go_wp2_with fail
      go_ret
      exact ⟨by rw [hr.out]; rfl, x⟩
end Go.Proofs.YtgcbgeombbohpaaDoor
