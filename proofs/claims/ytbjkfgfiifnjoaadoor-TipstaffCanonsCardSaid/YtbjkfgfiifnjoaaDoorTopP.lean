/- TipstaffCanons: its programs, plainly. -/
import Derived.Test.YtbjkfgfiifnjoaaDoorCanonB
import Derived.Test.YtbjkfgfiifnjoaaDoorDecA
import Derived.Test.YtbjkfgfiifnjoaaDoorCSum
import Derived.Test.YtbjkfgfiifnjoaaDoorEqB
import Derived.Test.YtbjkfgfiifnjoaaDoorEqI
namespace Go.Proofs.YtbjkfgfiifnjoaaDoor
open Go.RowKit
set_option maxRecDepth 100000

def pI (d : UInt8) (z : BitVec 32) : Ins := ⟨24, d, 1, 0, z⟩
def oI : Ins := ⟨0, 0, 0, 0, 0⟩
def movI (z : BitVec 32) : Ins := ⟨183, 0, 0, 0, z⟩
def endI : Ins := ⟨149, 0, 0, 0, 0⟩
def prog3 (x y z i : BitVec 32) : List Ins := [pI 6 x, oI, pI 7 y, oI, pI 8 z, oI, movI i, endI]

theorem map_pI (d : UInt8) (z : BitVec 32) : isMapI (pI d z) = true := by
  have h : (decide ((partsN 24).kind = 9) && decide ((1 : Nat) = 1)) = true := by decide +kernel
  exact h
theorem map_oI : isMapI oI = false := by decide +kernel
theorem map_movI (i : BitVec 32) : isMapI (movI i) = false := by
  have h : (decide ((partsN 183).kind = 9) && decide ((0 : Nat) = 1)) = false := by decide +kernel
  exact h
theorem map_endI : isMapI endI = false := by decide +kernel

theorem stepF_pI (f : List (BitVec 32)) (d : UInt8) (z : BitVec 32) : stepF f (pI d z) = if z ∈ f then f else f ++ [z] := by
  unfold stepF; rw [map_pI]; rfl
theorem stepI_pI (f : List (BitVec 32)) (d : UInt8) (z : BitVec 32) : stepI f (pI d z) = pI d (BitVec.ofNat 32 (f.idxOf z)) := by
  unfold stepI; rw [map_pI]; rfl
theorem stepF_oI (f : List (BitVec 32)) : stepF f oI = f := by unfold stepF; rw [map_oI]; rfl
theorem stepI_oI (f : List (BitVec 32)) : stepI f oI = oI := by unfold stepI; rw [map_oI]; rfl
theorem stepF_movI (f : List (BitVec 32)) (i : BitVec 32) : stepF f (movI i) = f := by unfold stepF; rw [map_movI]; rfl
theorem stepI_movI (f : List (BitVec 32)) (i : BitVec 32) : stepI f (movI i) = movI i := by unfold stepI; rw [map_movI]; rfl
theorem stepF_endI (f : List (BitVec 32)) : stepF f endI = f := by unfold stepF; rw [map_endI]; rfl
theorem stepI_endI (f : List (BitVec 32)) : stepI f endI = endI := by unfold stepI; rw [map_endI]; rfl

theorem prog_fds (x y i : BitVec 32) (h : x ≠ y) : fdsOf (prog3 x y x i) = [x, y] := by
  simp [fdsOf, prog3, stepF_pI, stepF_oI, stepF_movI, stepF_endI, h.symm]
theorem prog_out (x y i : BitVec 32) (h : x ≠ y) : outOf (prog3 x y x i) = prog3 0 1 0 i := by
  have hb : (x == y) = false := by rw [beq_eq_false_iff_ne]; exact h
  simp [outOf, outFrom, prog3, stepF_pI, stepF_oI, stepF_movI, stepI_pI, stepI_oI, stepI_movI, stepI_endI, h.symm, h, hb, List.idxOf_cons]
theorem prog_m16 (x y z i : BitVec 32) : (prog3 x y z i).map m16 = prog3 x y z i := rfl

theorem xor_ne (x k : BitVec 32) (hk : k ≠ 0) : x ≠ x ^^^ k := by
  intro h
  apply hk
  have := congrArg (x ^^^ ·) h
  simpa [← BitVec.xor_assoc] using this.symm

theorem bits_xor_i32 (x y : BitVec 32) : bits .xor .i32 x.toInt y.toInt = (x ^^^ y).toInt := by
  simp only [bits, IntKind.bits]
  rw [BitVec.ofInt_toInt, BitVec.ofInt_toInt]
  have h : ∀ n : Nat, IntKind.i32.wrap (n : Int) = (BitVec.ofNat 32 n).toInt := by
    intro n
    rw [BitVec.toInt_eq_toNat_cond, BitVec.toNat_ofNat, IntKind.wrap_i32]
    split <;> omega
  have := h (x ^^^ y).toNat
  rw [BitVec.ofNat_toNat, BitVec.setWidth_eq] at this
  exact this
theorem bits_xor_any (x : BitVec 32) (y : Int) : bits .xor .i32 x.toInt y = (x ^^^ BitVec.ofInt 32 y).toInt := by
  rw [← bits_xor_i32]
  simp only [bits, IntKind.bits]
  rw [BitVec.ofInt_toInt, BitVec.ofInt_toInt]
theorem wf_i32 {z : Int} (h : (Lit.int .i32 z).wf = true) : (BitVec.ofInt 32 z).toInt = z := by
  have b : -2147483648 ≤ z ∧ z ≤ 2147483647 := by simp [Lit.wf] at h; first | exact h | (simp [IntKind.min, IntKind.max] at h; omega)
  rw [BitVec.toInt_ofInt]; simp [Int.bmod]; omega

theorem eq_sums (b c : List UInt8) : ∀ w, (Op.equalIn 10000 36 (.agg (bytesV (sumOf b)).toArray) (.agg (bytesV (sumOf c)).toArray)).run Tryd.prog w = .ok (decide (sumOf b = sumOf c)) w :=
  run_equal_bytes (P := Tryd.prog) 9998 Tryd.underlying36 Tryd.underlying5 (by kernel_rfl) (by kernel_rfl) (sumOf b) (sumOf c) (sumOf_length _) (sumOf_length _)

/-! ### mov, end -/
theorem mov_any (i : BitVec 32) (w : World) : Calls Tryd.prog 7 #[.int .u8 0, .int .i32 i.toInt] w fun e w' => e = .returned (.agg #[.int .u8 183, .int .u8 0, .int .u8 0, .int .i16 0, .int .i32 i.toInt]) ∧ Ext [] w w' := by
  go_enter Tryd.func7, Tryd.ntmps7
  go_wp2_with fail
  refine bodyPost_ret (v := .agg #[.int .u8 183, .int .u8 0, .int .u8 0, .int .i16 0, .int .i32 i.toInt]) ?_ rfl ⟨rfl, ?_⟩
  · simp [results, Tryd.results7, go_sem]
  · repeat (first | exact Ext.refl _ _ | apply Ext.drew | apply Ext.alloc | (refine Ext.setCell ?_ (.inr (by simp; done)) _) | (refine Ext.setCell ?_ (.inr (by simp; omega)) _))
theorem end_any (w : World) : Calls Tryd.prog 8 #[] w fun e w' => e = .returned (.agg #[.int .u8 149, .int .u8 0, .int .u8 0, .int .i16 0, .int .i32 0]) ∧ Ext [] w w' := by
  go_enter Tryd.func8, Tryd.ntmps8
  go_wp2_with fail
  refine bodyPost_ret (v := .agg #[.int .u8 149, .int .u8 0, .int .u8 0, .int .i16 0, .int .i32 0]) ?_ rfl ⟨rfl, ?_⟩
  · simp [results, Tryd.results8, go_sem]
  · repeat (first | exact Ext.refl _ _ | apply Ext.drew | apply Ext.alloc | (refine Ext.setCell ?_ (.inr (by simp; done)) _) | (refine Ext.setCell ?_ (.inr (by simp; omega)) _))

theorem prog_cells (x y z i : BitVec 32) : insV (prog3 x y z i) = [.int .u8 24, .int .u8 6, .int .u8 1, .int .i16 0, .int .i32 x.toInt, .int .u8 0, .int .u8 0, .int .u8 0, .int .i16 0, .int .i32 0,
    .int .u8 24, .int .u8 7, .int .u8 1, .int .i16 0, .int .i32 y.toInt, .int .u8 0, .int .u8 0, .int .u8 0, .int .i16 0, .int .i32 0, .int .u8 24, .int .u8 8, .int .u8 1, .int .i16 0, .int .i32 z.toInt, .int .u8 0, .int .u8 0, .int .u8 0, .int .i16 0, .int .i32 0,
    .int .u8 183, .int .u8 0, .int .u8 0, .int .i16 0, .int .i32 i.toInt, .int .u8 149, .int .u8 0, .int .u8 0, .int .i16 0, .int .i32 0] := rfl
theorem prog_set (a b c i : BitVec 32) : (((insV (prog3 a b a i)).set 4 (.int .i32 c.toInt)).set 14 (.int .i32 a.toInt)).set 24 (.int .i32 c.toInt) = insV (prog3 c a c i) := rfl
theorem prog_set6 (x y z i k : BitVec 32) : (insV (prog3 x y z i)).set 34 (.int .i32 k.toInt) = insV (prog3 x y z k) := rfl

/-! ### The calls of the law, said of its programs -/
theorem top_slots (v : Value) (x y i : BitVec 32) (h : x ≠ y) (w : World) (hr : Reads w v 5 8 (insV (prog3 x y x i))) :
    Calls Tryd.prog 9 #[v] w fun e w' => ∃ v5 a6 c6, e = .returned (.tuple #[v5, .slice a6 2 c6, .int .i64 0]) ∧ w'.ownsRow 0 25 5 v5 8 (insV (prog3 0 1 0 i)) ∧ Ext [] w w' ∧ (∀ g, v5.ownBlock = some g → w.heap.size ≤ g) := by
  refine (slots_go v (prog3 x y x i) w hr (by show 8 ≤ 10000; omega)).mono ?_
  intro e w' hp
  unfold SlotsPost at hp
  rw [prog_fds x y i h, prog_out x y i h, if_pos (by show 2 ≤ 4; omega)] at hp
  obtain ⟨v5, v6, rfl, hown5, hown6, x, fr5, -, -⟩ := hp
  obtain ⟨a6, c6, rfl⟩ := owns_slice hown6
  exact ⟨v5, a6, c6, rfl, hown5, x, fr5⟩
/-- The sum of a program without maps' sums. -/
def sumP (l : List Ins) : List UInt8 := sumOf (joinB [encL l])
theorem top_sum (v : Value) (l : List Ins) (w : World) (G : DigG w) (hr : Reads w v 5 l.length (insV l)) (hl : l.length ≤ 100) :
    Calls Tryd.prog 12 #[v, .slice none 0 0] w fun e w' => e = .returned (.agg (bytesV (sumP l)).toArray) ∧ Ext [] w w' :=
  csum_any v (.slice none 0 0) l [] w G hr ⟨none, 0, rfl, rfl, fun _ => ⟨rfl, rfl⟩, fun ad e => by cases e⟩ (by simp) hl (by simp)
theorem top_joined (b : Nat) (u : Value) (l : List Ins) (w : World) (G : DigG w) (hb : Blk w b 39 [u]) (hu : Reads w u 1 (encL l).length (bytesV (encL l))) (hl : l.length ≤ 100) :
    Calls Tryd.prog 13 #[.slice (some ⟨b, 0, none⟩) 1 1] w fun e w' => e = .returned (.agg (bytesV (sumP l)).toArray) ∧ Ext [] w w' := by
  refine joined_any (.slice (some ⟨b, 0, none⟩) 1 1) [u] [encL l] w G ⟨blk_reads hb 1 rfl, rfl, ?_⟩ ?_ (by simp)
  · intro i v hv
    cases i with
    | zero => simp at hv; subst hv; exact hu
    | succ k => simp at hv
  · have := joinB_cons_len (encL l) [] (by simp)
    rw [this, encL_length]; simp; omega
theorem top_decode (v : Value) (k : BitVec 32) (w : World) (h : w.ownsRow 0 5 1 v (encL (prog3 0 1 0 k)).length (bytesV (encL (prog3 0 1 0 k)))) :
    Calls Tryd.prog 15 #[v] w fun e w' => ∃ g c, e = .returned (.tuple #[.slice (some ⟨g, 0, none⟩) 8 c, .int .i64 0]) ∧ w'.ownsRow 0 25 5 (.slice (some ⟨g, 0, none⟩) 8 c) 8 (insV (prog3 0 1 0 k)) ∧ Ext [] w w' := by
  have hl : (encL (prog3 0 1 0 k)).length = 64 := by rw [encL_length]; rfl
  refine (decode_own v (encL (prog3 0 1 0 k)) w h (by omega)).mono ?_
  intro e w' hp
  unfold DecPost at hp
  rw [if_pos (by omega), hl] at hp
  obtain ⟨v5, rfl, hown, x, -⟩ := hp
  have hd : decN (encL (prog3 0 1 0 k)) (64 / 8) = prog3 0 1 0 k := (dec_enc (prog3 0 1 0 k)).trans (prog_m16 0 1 0 k)
  rw [hd] at hown
  obtain ⟨g, c, cur, rfl, -⟩ := owns_some hown (by omega)
  exact ⟨g, c, rfl, hown, x⟩
theorem eq_movI (k : BitVec 32) : ∀ w, (Op.equalIn 10000 25 (.agg (movI k).cells.toArray) (.agg (movI k).cells.toArray)).run Tryd.prog w = .ok true w := by
  intro w
  have h := eq_insn_raw 9998 ((movI k).op.toNat) ((movI k).dst.toNat) ((movI k).src.toNat) (movI k).off.toInt (movI k).imm.toInt ((movI k).op.toNat) ((movI k).dst.toNat) ((movI k).src.toNat) (movI k).off.toInt (movI k).imm.toInt w
  simp only [beq_self_eq_true, Bool.and_self] at h
  exact h
theorem part_movI (k : BitVec 32) (w' : World) (g c : Nat) (h : w'.ownsRow 0 25 5 (.slice (some ⟨g, 0, none⟩) 8 c) 8 (insV (prog3 0 1 0 k))) : PartAt w' g 30 (movI k).cells := by
  intro j hj
  have hj : j < 5 := hj
  have e : (insV (prog3 0 1 0 k))[30 + j]? = (movI k).cells[j]? := insV_at (prog3 0 1 0 k) 6 j (by show 6 < 8; omega) hj
  rw [h.cellAt (30 + j) (by omega), e]
end Go.Proofs.YtbjkfgfiifnjoaaDoor
