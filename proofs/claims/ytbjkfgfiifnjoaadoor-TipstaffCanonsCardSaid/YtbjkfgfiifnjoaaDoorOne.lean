/- Package insn: one: eight bytes as an instruction. -/
import Derived.Test.YtbjkfgfiifnjoaaDoorDecN
import Derived.Deep.RegionHeld3
namespace Go.Proofs.YtbjkfgfiifnjoaaDoor
open Go.RowKit
set_option maxRecDepth 100000

def immS (b4 b5 b6 b7 : UInt8) (j : Nat) : Nat := (if 0 < j then b4.toNat else 0) + (if 1 < j then 256 * b5.toNat else 0) + (if 2 < j then 65536 * b6.toNat else 0) + (if 3 < j then 16777216 * b7.toNat else 0)

theorem bits_or_i32 (a c : Nat) : bits .or .i32 (BitVec.ofNat 32 a).toInt (IntKind.i32.wrap (c : Int)) = (BitVec.ofNat 32 a ||| BitVec.ofNat 32 c).toInt := by
  rw [wrap_i32_of]
  simp only [bits, IntKind.bits]
  rw [BitVec.ofInt_toInt, BitVec.ofInt_toInt]
  have := wrap_i32_of (BitVec.ofNat 32 a ||| BitVec.ofNat 32 c).toNat
  rw [BitVec.ofNat_toNat, BitVec.setWidth_eq] at this
  exact this

theorem or_ofNat (a c j : Nat) (ha : a < 2 ^ j) (hj : j ≤ 24) (hc : c < 256) : BitVec.ofNat 32 a ||| BitVec.ofNat 32 (c * 2 ^ j) = BitVec.ofNat 32 (a + c * 2 ^ j) := by
  have hp : (2 : Nat) ^ j ≤ 2 ^ 24 := Nat.pow_le_pow_right (by decide) hj
  have h1 : c * 2 ^ j ≤ 255 * 2 ^ 24 := Nat.mul_le_mul (by omega) hp
  apply BitVec.eq_of_toNat_eq
  rw [BitVec.toNat_or, BitVec.toNat_ofNat, BitVec.toNat_ofNat, BitVec.toNat_ofNat, Nat.mod_eq_of_lt (by omega), Nat.mod_eq_of_lt (by omega), Nat.mod_eq_of_lt (by omega), Nat.or_comm, Nat.mul_comm c, ← Nat.two_pow_add_eq_or_of_lt ha, Nat.add_comm]

theorem imm_step (b4 b5 b6 b7 c : UInt8) (j : Nat) (hj : j < 4) (hc : c = [b4, b5, b6, b7].getD j 0) :
    bits .or .i32 (BitVec.ofNat 32 (immS b4 b5 b6 b7 j)).toInt (IntKind.i32.wrap ((c.toNat : Int) * 2 ^ (8 * j))) = (BitVec.ofNat 32 (immS b4 b5 b6 b7 (j + 1))).toInt := by
  have h4 := b4.toNat_lt
  have h5 := b5.toNat_lt
  have h6 := b6.toNat_lt
  have h7 := b7.toNat_lt
  have hcl := c.toNat_lt
  have e : (c.toNat : Int) * 2 ^ (8 * j) = ((c.toNat * 2 ^ (8 * j) : Nat) : Int) := by push_cast; rfl
  rw [e, bits_or_i32, or_ofNat _ _ (8 * j) ?_ (by omega) (by omega)]
  · congr 2
    match j, hj with
    | 0, _ => simp at hc; subst hc; simp [immS]
    | 1, _ => simp at hc; subst hc; simp [immS]; omega
    | 2, _ => simp at hc; subst hc; simp [immS]; omega
    | 3, _ => simp at hc; subst hc; simp [immS]; omega
  · match j, hj with
    | 0, _ => simp [immS]
    | 1, _ => simp [immS]; omega
    | 2, _ => simp [immS]; omega
    | 3, _ => simp [immS]; omega

theorem bits_or_i16 (b2 b3 : UInt8) : bits .or .i16 (IntKind.i16.wrap (b2.toNat : Int)) (IntKind.i16.wrap (IntKind.i16.wrap (b3.toNat : Int) * 256)) = (BitVec.ofNat 16 (b2.toNat + 256 * b3.toNat)).toInt := by
  have h2 := b2.toNat_lt
  have h3 := b3.toNat_lt
  have e1 : IntKind.i16.wrap (b3.toNat : Int) = (b3.toNat : Int) := by rw [wrap_i16_of, BitVec.toInt_eq_toNat_cond, BitVec.toNat_ofNat]; split <;> omega
  rw [e1, show (b3.toNat : Int) * 256 = ((b3.toNat * 2 ^ 8 : Nat) : Int) by omega, wrap_i16_of, wrap_i16_of]
  simp only [bits, IntKind.bits]
  rw [BitVec.ofInt_toInt, BitVec.ofInt_toInt]
  have e2 : BitVec.ofNat 16 b2.toNat ||| BitVec.ofNat 16 (b3.toNat * 2 ^ 8) = BitVec.ofNat 16 (b2.toNat + 256 * b3.toNat) := by
    apply BitVec.eq_of_toNat_eq
    rw [BitVec.toNat_or, BitVec.toNat_ofNat, BitVec.toNat_ofNat, BitVec.toNat_ofNat, Nat.mod_eq_of_lt (by omega), Nat.mod_eq_of_lt (by omega), Nat.mod_eq_of_lt (by omega), Nat.or_comm, Nat.mul_comm b3.toNat, ← Nat.two_pow_add_eq_or_of_lt h2]
    omega
  have e3 : (BitVec.ofNat 16 b2.toNat ||| BitVec.ofNat 16 (b3.toNat * 2 ^ 8)).toNat = (BitVec.ofNat 16 (b2.toNat + 256 * b3.toNat)).toNat := by rw [e2]
  refine (congrArg (fun n : Nat => IntKind.i16.wrap (n : Int)) e3).trans ?_
  have := wrap_i16_of (BitVec.ofNat 16 (b2.toNat + 256 * b3.toNat)).toNat
  rw [BitVec.ofNat_toNat, BitVec.setWidth_eq] at this
  exact this

theorem and15 (b : UInt8) : bits .and .u8 (b.toNat : Int) 15 = (((UInt8.ofNat (b.toNat % 16)).toNat : Nat) : Int) := by
  have h1 : ∀ n : Fin 256, bits .and .u8 ((n.val : Nat) : Int) 15 = (((UInt8.ofNat (n.val % 16)).toNat : Nat) : Int) := by decide +kernel
  exact h1 ⟨b.toNat, b.toNat_lt⟩

set_option maxHeartbeats 4000000 in
set_option maxRecDepth 100000 in
theorem one_any (bb o : Nat) (b0 b1 b2 b3 b4 b5 b6 b7 : UInt8) (w : World)
    (hc : ∀ j, j < 8 → w.cell? ⟨bb, o + j, none⟩ = some (.int .u8 (([b0, b1, b2, b3, b4, b5, b6, b7].getD j 0).toNat : Int))) :
    Calls Tryd.prog 52 #[.slice (some ⟨bb, o, none⟩) 8 8] w fun e w' => e = .returned (.agg (dec8 b0 b1 b2 b3 b4 b5 b6 b7).cells.toArray) ∧ Ext [] w w' := by
  have hbl : bb < w.heap.size := World.block_lt_of_cell? w _ (hc 0 (by omega))
  have HC := Lib.hid hc
  go_enter Tryd.func52, Tryd.ntmps52
  go_upto_region 1 with (fail)
  have BR := Blk.new w 25 #[.int .u8 0, .int .u8 0, .int .u8 0, .int .i16 0, .int .i32 0]
  have x1 : Ext [] w (w.alloc (.cells #[.int .u8 0, .int .u8 0, .int .u8 0, .int .i16 0, .int .i32 0] 25)) := (Ext.refl _ _).alloc _
  obtain ⟨br, hbr⟩ : ∃ b, b = w.heap.size := ⟨_, rfl⟩
  have HW := Lib.hid hbr
  rw [← hbr] at BR
  rw [← hbr]
  clear hbr hc
  generalize w.alloc (.cells #[.int .u8 0, .int .u8 0, .int .u8 0, .int .i16 0, .int .i32 0] 25) = wA at *
  have hbA : bb < wA.heap.size := by have := x1.size; omega
  have HB := Lib.hid (fun w' (h : Ext [] wA w') => (show w'.cell? ⟨bb, o, none⟩ = some (.int .u8 (b0.toNat : Int)) ∧ w'.cell? ⟨bb, o + 1, none⟩ = some (.int .u8 (b1.toNat : Int)) ∧ w'.cell? ⟨bb, o + 2, none⟩ = some (.int .u8 (b2.toNat : Int)) ∧ w'.cell? ⟨bb, o + 3, none⟩ = some (.int .u8 (b3.toNat : Int)) from by
    have hh := fun j (hj : j < 8) => ((x1.trans h).cell (p := ⟨bb, o + j, none⟩) hbl (by simp)).trans (HC.out j hj)
    exact ⟨hh 0 (by omega), hh 1 (by omega), hh 2 (by omega), hh 3 (by omega)⟩))
  have hstart : Ext [] wA wA.drew := (Ext.refl _ _).drew
  refine wp_region_held_drew (S := fun w' => Ext [] wA w') (by kernel_rfl) hstart (fun _ => ?_)
  refine wpAnyH_take (i := 0) (oi := ⟨some 6, _, _, _, _, _⟩) (v := ?_) rfl (by kernel_rfl) (by kernel_rfl) (by kernel_rfl) (fun _ _ _ h => h) (Or.inl ⟨by rfl, ?_⟩) (by assumption) ?_
  rotate_left 1
  · (intro w hSw; (try dsimp only at hSw); go_split_ands; have hcv := HB.out w (by assumption); go_simp; (try with_reducible rfl))
  try simp only [Act.put, List.setIfInBounds_toArray, List.set_cons_zero, List.set_cons_succ]
  refine wpAnyH_take (i := 1) (oi := ⟨some 7, _, _, _, _, _⟩) (v := ?_) rfl (by kernel_rfl) (by kernel_rfl) (by kernel_rfl) (fun _ _ _ h => h) (Or.inl ⟨by rfl, ?_⟩) (by assumption) ?_
  rotate_left 1
  · (intro w hSw; (try dsimp only at hSw); go_split_ands; have hcv := HB.out w (by assumption); go_simp; (try with_reducible rfl))
  try simp only [Act.put, List.setIfInBounds_toArray, List.set_cons_zero, List.set_cons_succ]
  refine wpAnyH_take (i := 2) (oi := ⟨some 8, _, _, _, _, _⟩) (v := ?_) rfl (by kernel_rfl) (by kernel_rfl) (by kernel_rfl) (fun _ _ _ h => h) (Or.inl ⟨by rfl, ?_⟩) (by assumption) ?_
  rotate_left 1
  · (intro w hSw; (try dsimp only at hSw); go_split_ands; have hcv := HB.out w (by assumption); go_simp; (try with_reducible rfl))
  try simp only [Act.put, List.setIfInBounds_toArray, List.set_cons_zero, List.set_cons_succ]
  refine wpAnyH_take (i := 3) (oi := ⟨some 9, _, _, _, _, _⟩) (v := ?_) rfl (by kernel_rfl) (by kernel_rfl) (by kernel_rfl) (fun _ _ _ h => h) (Or.inl ⟨by rfl, ?_⟩) (by assumption) ?_
  rotate_left 1
  · (intro w hSw; (try dsimp only at hSw); go_split_ands; have hcv := HB.out w (by assumption); go_simp; (try with_reducible rfl))
  try simp only [Act.put, List.setIfInBounds_toArray, List.set_cons_zero, List.set_cons_succ]
  refine wpAnyH_take (i := 4) (oi := ⟨some 10, _, _, _, _, _⟩) (v := ?_) rfl (by kernel_rfl) (by kernel_rfl) (by kernel_rfl) (fun _ _ _ h => h) (Or.inl ⟨by rfl, ?_⟩) (by assumption) ?_
  rotate_left 1
  · (intro w hSw; (try dsimp only at hSw); go_split_ands; have hcv := HB.out w (by assumption); go_simp; (try with_reducible rfl))
  try simp only [Act.put, List.setIfInBounds_toArray, List.set_cons_zero, List.set_cons_succ]
  refine wpAnyH_take (i := 5) (oi := ⟨some 11, _, _, _, _, _⟩) (v := ?_) rfl (by kernel_rfl) (by kernel_rfl) (by kernel_rfl) (fun _ _ _ h => h) (Or.inl ⟨by rfl, ?_⟩) (by assumption) ?_
  rotate_left 1
  · (intro w hSw; (try dsimp only at hSw); go_split_ands; have hcv := HB.out w (by assumption); go_simp; (try with_reducible rfl))
  try simp only [Act.put, List.setIfInBounds_toArray, List.set_cons_zero, List.set_cons_succ]
  refine wpAnyH_take (i := 6) (oi := ⟨some 12, _, _, _, _, _⟩) (v := ?_) rfl (by kernel_rfl) (by kernel_rfl) (by kernel_rfl) (fun _ _ _ h => h) (Or.inl ⟨by rfl, ?_⟩) (by assumption) ?_
  rotate_left 1
  · (intro w hSw; (try dsimp only at hSw); go_split_ands; have hcv := HB.out w (by assumption); go_simp; (try with_reducible rfl))
  try simp only [Act.put, List.setIfInBounds_toArray, List.set_cons_zero, List.set_cons_succ]
  refine wpAnyH_take (i := 7) (oi := ⟨some 13, _, _, _, _, _⟩) (v := ?_) rfl (by kernel_rfl) (by kernel_rfl) (by kernel_rfl) (fun _ _ _ h => h) (Or.inl ⟨by rfl, ?_⟩) (by assumption) ?_
  rotate_left 1
  · (intro w hSw; (try dsimp only at hSw); go_split_ands; have hcv := HB.out w (by assumption); go_simp; (try with_reducible rfl))
  try simp only [Act.put, List.setIfInBounds_toArray, List.set_cons_zero, List.set_cons_succ]
  refine wpAnyH_take (i := 8) (oi := ⟨some 14, _, _, _, _, _⟩) (v := ?_) rfl (by kernel_rfl) (by kernel_rfl) (by kernel_rfl) (fun _ _ _ h => h) (Or.inl ⟨by rfl, ?_⟩) (by assumption) ?_
  rotate_left 1
  · (intro w hSw; (try dsimp only at hSw); go_split_ands; have hcv := HB.out w (by assumption); go_simp; (try with_reducible rfl))
  try simp only [Act.put, List.setIfInBounds_toArray, List.set_cons_zero, List.set_cons_succ]
  refine wpAnyH_take (i := 9) (oi := ⟨some 15, _, _, _, _, _⟩) (v := ?_) rfl (by kernel_rfl) (by kernel_rfl) (by kernel_rfl) (fun _ _ _ h => h) (Or.inl ⟨by rfl, ?_⟩) (by assumption) ?_
  rotate_left 1
  · (intro w hSw; (try dsimp only at hSw); go_split_ands; have hcv := HB.out w (by assumption); go_simp; (try with_reducible rfl))
  try simp only [Act.put, List.setIfInBounds_toArray, List.set_cons_zero, List.set_cons_succ]
  refine wpAnyH_take (i := 10) (oi := ⟨some 16, _, _, _, _, _⟩) (v := ?_) rfl (by kernel_rfl) (by kernel_rfl) (by kernel_rfl) (fun _ _ _ h => h) (Or.inl ⟨by rfl, ?_⟩) (by assumption) ?_
  rotate_left 1
  · (intro w hSw; (try dsimp only at hSw); go_split_ands; have hcv := HB.out w (by assumption); go_simp; (try with_reducible rfl))
  try simp only [Act.put, List.setIfInBounds_toArray, List.set_cons_zero, List.set_cons_succ]
  refine wpAnyH_take (i := 11) (oi := ⟨some 17, _, _, _, _, _⟩) (v := ?_) rfl (by kernel_rfl) (by kernel_rfl) (by kernel_rfl) (fun _ _ _ h => h) (Or.inl ⟨by rfl, ?_⟩) (by assumption) ?_
  rotate_left 1
  · (intro w hSw; (try dsimp only at hSw); go_split_ands; have hcv := HB.out w (by assumption); go_simp; (try with_reducible rfl))
  try simp only [Act.put, List.setIfInBounds_toArray, List.set_cons_zero, List.set_cons_succ]
  refine wpAnyH_take (i := 12) (oi := ⟨some 18, _, _, _, _, _⟩) (v := ?_) rfl (by kernel_rfl) (by kernel_rfl) (by kernel_rfl) (fun _ _ _ h => h) (Or.inl ⟨by rfl, ?_⟩) (by assumption) ?_
  rotate_left 1
  · (intro w hSw; (try dsimp only at hSw); go_split_ands; have hcv := HB.out w (by assumption); go_simp; (try with_reducible rfl))
  try simp only [Act.put, List.setIfInBounds_toArray, List.set_cons_zero, List.set_cons_succ]
  refine wpAnyH_take (i := 13) (oi := ⟨some 19, _, _, _, _, _⟩) (v := ?_) rfl (by kernel_rfl) (by kernel_rfl) (by kernel_rfl) (fun _ _ _ h => h) (Or.inl ⟨by rfl, ?_⟩) (by assumption) ?_
  rotate_left 1
  · (intro w hSw; (try dsimp only at hSw); go_split_ands; have hcv := HB.out w (by assumption); go_simp; (try with_reducible rfl))
  try simp only [Act.put, List.setIfInBounds_toArray, List.set_cons_zero, List.set_cons_succ]
  refine wpAnyH_take (i := 14) (oi := ⟨some 20, _, _, _, _, _⟩) (v := ?_) rfl (by kernel_rfl) (by kernel_rfl) (by kernel_rfl) (fun _ _ _ h => h) (Or.inl ⟨by rfl, ?_⟩) (by assumption) ?_
  rotate_left 1
  · (intro w hSw; (try dsimp only at hSw); go_split_ands; have hcv := HB.out w (by assumption); go_simp; (try with_reducible rfl))
  try simp only [Act.put, List.setIfInBounds_toArray, List.set_cons_zero, List.set_cons_succ]
  refine wpAnyH_take (i := 15) (oi := ⟨some 21, _, _, _, _, _⟩) (v := ?_) rfl (by kernel_rfl) (by kernel_rfl) (by kernel_rfl) (fun _ _ _ h => h) (Or.inl ⟨by rfl, ?_⟩) (by assumption) ?_
  rotate_left 1
  · (intro w hSw; (try dsimp only at hSw); go_split_ands; have hcv := HB.out w (by assumption); go_simp; (try with_reducible rfl))
  try simp only [Act.put, List.setIfInBounds_toArray, List.set_cons_zero, List.set_cons_succ]
  refine wpAnyH_take (i := 16) (oi := ⟨some 22, _, _, _, _, _⟩) (v := ?_) rfl (by kernel_rfl) (by kernel_rfl) (by kernel_rfl) (fun _ _ _ h => h) (Or.inl ⟨by rfl, ?_⟩) (by assumption) ?_
  rotate_left 1
  · (intro w hSw; (try dsimp only at hSw); go_split_ands; have hcv := HB.out w (by assumption); go_simp; (try with_reducible rfl))
  try simp only [Act.put, List.setIfInBounds_toArray, List.set_cons_zero, List.set_cons_succ]
  refine wpAnyH_take (i := 17) (oi := ⟨some 23, _, _, _, _, _⟩) (v := ?_) rfl (by kernel_rfl) (by kernel_rfl) (by kernel_rfl) (fun _ _ _ h => h) (Or.inl ⟨by rfl, ?_⟩) (by assumption) ?_
  rotate_left 1
  · (intro w hSw; (try dsimp only at hSw); go_split_ands; have hcv := HB.out w (by assumption); go_simp; (try with_reducible rfl))
  try simp only [Act.put, List.setIfInBounds_toArray, List.set_cons_zero, List.set_cons_succ]
  refine wpAnyH_take (i := 18) (oi := ⟨some 24, _, _, _, _, _⟩) (v := ?_) rfl (by kernel_rfl) (by kernel_rfl) (by kernel_rfl) (fun _ _ _ h => h) (Or.inl ⟨by rfl, ?_⟩) (by assumption) ?_
  rotate_left 1
  · (intro w hSw; (try dsimp only at hSw); go_split_ands; have hcv := HB.out w (by assumption); go_simp; (try with_reducible rfl))
  try simp only [Act.put, List.setIfInBounds_toArray, List.set_cons_zero, List.set_cons_succ]
  refine wpAnyH_take (i := 19) (oi := ⟨some 25, _, _, _, _, _⟩) (v := ?_) rfl (by kernel_rfl) (by kernel_rfl) (by kernel_rfl) (fun _ _ _ h => h) (Or.inl ⟨by rfl, ?_⟩) (by assumption) ?_
  rotate_left 1
  · (intro w hSw; (try dsimp only at hSw); go_split_ands; have hcv := HB.out w (by assumption); go_simp; (try with_reducible rfl))
  try simp only [Act.put, List.setIfInBounds_toArray, List.set_cons_zero, List.set_cons_succ]
  refine wpAnyH_take (i := 20) (oi := ⟨some 26, _, _, _, _, _⟩) (v := ?_) rfl (by kernel_rfl) (by kernel_rfl) (by kernel_rfl) (fun _ _ _ h => h) (Or.inl ⟨by rfl, ?_⟩) (by assumption) ?_
  rotate_left 1
  · (intro w hSw; (try dsimp only at hSw); go_split_ands; have hcv := HB.out w (by assumption); go_simp; (try with_reducible rfl))
  try simp only [Act.put, List.setIfInBounds_toArray, List.set_cons_zero, List.set_cons_succ]
  refine wpAnyH_take (i := 21) (oi := ⟨some 27, _, _, _, _, _⟩) (v := ?_) rfl (by kernel_rfl) (by kernel_rfl) (by kernel_rfl) (fun _ _ _ h => h) (Or.inl ⟨by rfl, ?_⟩) (by assumption) ?_
  rotate_left 1
  · (intro w hSw; (try dsimp only at hSw); go_split_ands; have hcv := HB.out w (by assumption); go_simp; (try with_reducible rfl))
  try simp only [Act.put, List.setIfInBounds_toArray, List.set_cons_zero, List.set_cons_succ]
  rw [bits_or_i16, and15]
  refine wpAnyH_ready (rs := [22]) (by kernel_rfl) (by simp) ?_
  refine AllReadyH.cons (o := ⟨some 3, _, _, _, _, _⟩) rfl (fun K hK => ?_) AllReadyH.nil
  go_simp
  refine hK.out _ _ ((Ext.refl _ _).drew.alloc _) (fun _ => ?_)
  clear hK K
  try simp only [Act.put, List.setIfInBounds_toArray, List.set_cons_zero, List.set_cons_succ]
  refine wpAnyH_ready (rs := [23]) (by kernel_rfl) (by simp) ?_
  refine AllReadyH.cons (o := ⟨none, _, _, _, _, _⟩) rfl (fun K hK => ?_) AllReadyH.nil
  have B1 := (Blk.new wA 25 #[.int .u8 0, .int .u8 0, .int .u8 0, .int .i16 0, .int .i32 0]).drew
  have xA1 : Ext [] wA (wA.alloc (.cells #[.int .u8 0, .int .u8 0, .int .u8 0, .int .i16 0, .int .i32 0] 25)).drew := ((Ext.refl _ _).alloc _).drew
  have BR1 := BR.ext xA1 (by simp)
  have hbx := BR.lt
  generalize (wA.alloc (.cells #[.int .u8 0, .int .u8 0, .int .u8 0, .int .i16 0, .int .i32 0] 25)).drew = wB at *
  obtain ⟨bx, hbxe⟩ : ∃ b, b = wA.heap.size := ⟨_, rfl⟩
  rw [← hbxe] at B1 hbx
  have HBX := Lib.hid hbxe
  try rw [← hbxe]
  clear hbxe
  refine step_strow rfl 25 (.tmp 3) (.tmp 27) rfl bx 0 rfl 25 _ [.int .u8 (b0.toNat : Int), .int .u8 (((UInt8.ofNat (b1.toNat % 16)).toNat : Nat) : Int), .int .u8 ((b1.toNat : Int) / 16), .int .i16 (BitVec.ofNat 16 (b2.toNat + 256 * b3.toNat)).toInt, .int .i32 0] rfl B1 (by simp) (by intro u hu; simp at hu; rcases hu with rfl | rfl | rfl | rfl | rfl <;> rfl) (by kernel_rfl) ?_
  intro wC H2 x2 _
  have xC : Ext [] wA wC := xA1.trans' x2 (by intro i hi; simp at hi; subst hi; right; rw [HBX.out]; exact Nat.le_refl _)
  refine hK.out _ _ xC (fun _ => ?_)
  clear hK K
  refine wpAnyH_done (by kernel_rfl) ?_ _
  have BX : Blk wC bx 25 [.int .u8 (b0.toNat : Int), .int .u8 (((UInt8.ofNat (b1.toNat % 16)).toNat : Nat) : Int), .int .u8 ((b1.toNat : Int) / 16), .int .i16 (BitVec.ofNat 16 (b2.toNat + 256 * b3.toNat)).toInt, .int .i32 (BitVec.ofNat 32 (immS b4 b5 b6 b7 0)).toInt] := H2
  have BRC : Blk wC br 25 [.int .u8 0, .int .u8 0, .int .u8 0, .int .i16 0, .int .i32 0] := BR1.ext x2 (by simp; omega)
  have xx := x1.trans xC
  have hbxw : w.heap.size ≤ bx := by have := x1.size; rw [HBX.out]; exact this
  have HS := Lib.hid (imm_step b4 b5 b6 b7)
  have hD : (dec8 b0 b1 b2 b3 b4 b5 b6 b7).cells = [.int .u8 (b0.toNat : Int), .int .u8 (((UInt8.ofNat (b1.toNat % 16)).toNat : Nat) : Int), .int .u8 ((b1.toNat : Int) / 16), .int .i16 (BitVec.ofNat 16 (b2.toNat + 256 * b3.toNat)).toInt, .int .i32 (BitVec.ofNat 32 (immS b4 b5 b6 b7 4)).toInt] := by
    have h1 := b1.toNat_lt
    unfold dec8 Ins.cells immS
    rw [u8_of (b1.toNat / 16) ((b1.toNat : Int) / 16) (by omega)]
    simp
  have HD := Lib.hid hD
  clear hD H2 x2 BR1 B1 xA1 hstart HB x1 xC BR hbA
  generalize (((UInt8.ofNat (b1.toNat % 16)).toNat : Nat) : Int) = z1 at *
  generalize (b1.toNat : Int) / 16 = z2 at *
  generalize (BitVec.ofNat 16 (b2.toNat + 256 * b3.toNat)).toInt = z3 at *
  go_wp2_with fail
  go_loopw [4, 5, 31] (fun _ _ i wr => ∃ j : Nat, j ≤ 4 ∧ i = .int .i64 (j : Int) ∧ Blk wr bx 25 [.int .u8 (b0.toNat : Int), .int .u8 z1, .int .u8 z2, .int .i16 z3, .int .i32 (BitVec.ofNat 32 (immS b4 b5 b6 b7 j)).toInt] ∧ Blk wr br 25 [.int .u8 0, .int .u8 0, .int .u8 0, .int .i16 0, .int .i32 0] ∧ Ext [] w wr) (fun _ _ i _ => 4 - (intOf i).toNat)
  case atStart => exact ⟨0, by omega, rfl, BX, BRC, xx⟩
  case round =>
    clear BX BRC xx
    obtain ⟨j, hj, rfl, BX, BRC, xx⟩ := hrel
    by_cases hlt : j < 4
    · have hcj : wr.cell? ⟨bb, o + 4 + j, none⟩ = some (.int .u8 (([b4, b5, b6, b7].getD j 0).toNat : Int)) := by
        have e : [b0, b1, b2, b3, b4, b5, b6, b7].getD (4 + j) 0 = [b4, b5, b6, b7].getD j 0 := by
          match j, hlt with
          | 0, _ => rfl
          | 1, _ => rfl
          | 2, _ => rfl
          | 3, _ => rfl
        rw [← e, Nat.add_assoc]
        exact (xx.cell (p := ⟨bb, o + (4 + j), none⟩) hbl (by simp)).trans (HC.out (4 + j) (by omega))
      have hst := Lib.hid (fun c hc => HS.out c j hlt hc)
      obtain ⟨cc, hcc⟩ : ∃ cc, cc = [b4, b5, b6, b7].getD j 0 := ⟨_, rfl⟩
      rw [← hcc] at hcj
      have HST := Lib.hid (hst.out cc hcc)
      clear hcc hst
      have d4 := BX.cell 4
      have f4 := BX.frozen 4
      simp only [List.getElem?_cons_zero, List.getElem?_cons_succ] at d4
      have hsh : (0 : Int) ≤ 8 * (j : Int) := by omega
      go_upto_region 5 with (fail)
      go_region
      have hw1 : wrap32 (wrap32 (cc.toNat : Int) * 2 ^ (8 * j)) = IntKind.i32.wrap ((cc.toNat : Int) * 2 ^ (8 * j)) := by
        have := cc.toNat_lt
        rw [IntWalk.wrap32_in (cc.toNat : Int) (by omega), IntKind.wrap_i32]; unfold wrap32; exact Eq.refl _
      rw [hw1, HST.out]
      have BX2 := (BX.set 4 (.int .i32 (BitVec.ofNat 32 (immS b4 b5 b6 b7 (j + 1))).toInt)).drew
      have BR2 := (BRC.setOther (p := ⟨bx, 4, none⟩) (by simp; omega) (.int .i32 (BitVec.ofNat 32 (immS b4 b5 b6 b7 (j + 1))).toInt)).drew
      have x2 := (xx.setCell (p := ⟨bx, 4, none⟩) (.inr hbxw) (.int .i32 (BitVec.ofNat 32 (immS b4 b5 b6 b7 (j + 1))).toInt)).drew
      clear BX BRC xx d4 f4
      generalize (wr.setCell ⟨bx, 4, none⟩ (.int .i32 (BitVec.ofNat 32 (immS b4 b5 b6 b7 (j + 1))).toInt)).drew = w5 at *
      go_wp2_with fail
      go_roundw
      case rel => exact ⟨j + 1, by omega, by go_num, BX2, BR2, x2⟩
      case measure => simp [intOf]; omega
    · have hj4 : j = 4 := by omega
      subst hj4
      rw [← HD.out] at BX
      have hdl : (dec8 b0 b1 b2 b3 b4 b5 b6 b7).cells.length = 5 := rfl
      have hdo : ∀ u ∈ (dec8 b0 b1 b2 b3 b4 b5 b6 b7).cells, u.oneCell' = true := by
        intro u hu; rw [HD.out] at hu; simp at hu; rcases hu with rfl | rfl | rfl | rfl | rfl <;> rfl
      obtain ⟨ov, hov⟩ : ∃ ov, ov = (dec8 b0 b1 b2 b3 b4 b5 b6 b7).cells := ⟨_, rfl⟩
      rw [← hov] at BX hdl hdo
      have HOV := Lib.hid hov
      clear HD HS hov
      have HW2 := HW.out
      have hbx' : br ≠ bx := by omega
      have hl5 : ∀ l : List Value, l.length = 5 → l.take 0 ++ ov ++ l.drop (0 + ov.length) = ov := by
        intro l hl; rw [hdl, List.take_zero, List.nil_append, List.drop_of_length_le (by omega), List.append_nil]
      go_upto_region 7 with (fail)
      apply wp_region_lit
      refine wpList_ldpart rfl 25 (.tmp 3) rfl bx 0 rfl ov _ BX.part Tryd.underlying25 rfl (by rw [hdl]; kernel_rfl) ?_
      refine wpList_strow rfl 25 (.tmp 2) (.tmp 46) rfl br 0 rfl 25 _ ov rfl BRC (by rw [hdl]; simp) hdo (by rw [hdl]; kernel_rfl) ?_
      intro w9 H9 x9 _
      rw [hl5 _ rfl] at H9
      go_wp2_with fail
      refine bodyPost_ret (results_blk Tryd.results52 _ _ br 25 ov _ rfl H9 Tryd.underlying25 rfl (by rw [hdl]; kernel_rfl)) rfl ?_
      exact ⟨by rw [HOV.out], xx.trans' x9 (by intro i hi; simp at hi; subst hi; right; rw [HW2]; exact Nat.le_refl _)⟩
end Go.Proofs.YtbjkfgfiifnjoaaDoor
