/- Package cfg: kind; a row of two sorted; Compact of two. -/
import Derived.Lib.SliceRun
import Derived.Test.YtooifaakflphpaaCfgM
import Derived.Test.YtooifaakflphpaaCfgLay
namespace Go.Proofs.Ytooifaakflphpaa
open Go.RowKit
set_option maxRecDepth 100000

set_option maxHeartbeats 1000000 in
theorem ckind_any (x : Ins) (w : World) :
    Calls Try.prog 23 #[.agg x.cells.toArray] w fun e w' => e = .returned (.int .i64 (kindM x : Int)) ∧ Ext [] w w' := by
  have hfk := fun (k : Int) (b c d e : Value) (w : World) => (show (Instr.field 61 (.agg #[.int .i64 k, b, c, d, e]) 0).run Try.prog w = .ok (.int .i64 k) w from by kernel_rfl)
  have hof := Lib.hid (fun w' => of_any x.op.toNat x.op.toNat_lt w')
  have HM := Lib.hid (show kindM x = (partsN x.op.toNat).kind from rfl)
  generalize partsN x.op.toNat = p at *
  obtain ⟨kind, op, size, long, reg⟩ := p
  simp only [Prt.cells] at hof HM
  go_enter Try.func23, Try.ntmps23
  go_upto_region 1 with (fail)
  have B := Blk.new w 31 x.cells.toArray
  have x1 : Ext [] w (w.alloc (.cells x.cells.toArray 31)) := (Ext.refl _ _).alloc _
  show Code.wp _ _ _ _ (w.alloc (.cells x.cells.toArray 31))
  generalize w.alloc (.cells x.cells.toArray 31) = w1 at *
  have c0 := B.cell 0
  simp only [Ins.cells, List.getElem?_cons_zero] at c0
  go_wp2_with fail
  refine (hof.out w1).mono ?_
  rintro e w2 ⟨rfl, x2⟩
  go_wp2_with fail
  go_ret
  exact ⟨by rw [HM.out]; rfl, x1.trans x2⟩

/-! ### The sort, over a block of the call's own -/
open Go.Sort in
theorem blk_holds {w : World} {g : Nat} {T : TypeId} {zs : List Int} (h : Blk w g T (zs.map (Value.int .i64))) : Holds (Value.int .i64) w g 0 zs.toArray := by
  intro j hj
  have hj' : j < zs.length := by simpa using hj
  refine ⟨?_, by rw [Nat.zero_add]; exact h.frozen j⟩
  rw [Nat.zero_add, h.cell, List.getElem?_map, List.getElem?_eq_getElem hj']
  simp [hj']
open Go.Sort in
theorem put_blk {w : World} {g : Nat} {T : TypeId} {zs ys : List Int} (h : Blk w g T (zs.map (Value.int .i64))) (hl : ys.length = zs.length) (n : Nat) (os : Array Obj) :
    Blk (grow (putRow (Value.int .i64) (Sort.ahead w n) g 0 ys.toArray) os) g T (ys.map (Value.int .i64)) ∧ Ext [g] w (grow (putRow (Value.int .i64) (Sort.ahead w n) g 0 ys.toArray) os) := by
  have hlt := h.lt
  unfold Blk at h
  constructor
  · unfold Blk grow putRow mapBlock Sort.ahead
    dsimp only
    rw [Array.getElem?_append_left (by simpa using hlt), Array.getElem?_modify, if_pos rfl, h]
    simp only [Option.map_some, onCells]
    congr 2
    unfold putCells
    apply Array.ext
    · simp [hl]
    · intro i h1 h2
      have hi : i < ys.length := by simpa using h2
      simp [hi]
  · refine ⟨rfl, rfl, rfl, by simp [grow, putRow, mapBlock, Sort.ahead], fun k hk hn => ?_⟩
    have hne : g ≠ k := by rintro rfl; simp at hn
    unfold grow putRow mapBlock Sort.ahead
    dsimp only
    rw [Array.getElem?_append_left (by simpa using hk), Array.getElem?_modify, if_neg hne]

def two (a b : Int) : List Int := if a ≤ b then [a, b] else [b, a]
theorem sort_two (a b : Int) : [a, b].mergeSort (fun x y => decide (x ≤ y)) = two a b := by
  unfold two
  by_cases h : a ≤ b <;> simp [List.mergeSort, h, List.MergeSort.Internal.splitInTwo]

theorem sort2_any (g : Nat) (a b : Int) (w : World) (h : Blk w g 3 [.int .i64 a, .int .i64 b]) :
    Calls Try.prog 31 #[.slice (some ⟨g, 0, none⟩) 2 2] w fun e w' => e = .returned (.tuple #[]) ∧ Blk w' g 3 ((two a b).map (Value.int .i64)) ∧ Ext [g] w w' := by
  have h' : Blk w g 3 ([a, b].map (Value.int .i64)) := h
  refine (AnyM.slices_Sort_int Try.sortI g 0 2 [a, b] w (blk_holds h') h.lt (by simp)).mono ?_
  rintro e w' ⟨rfl, n, os, rfl⟩
  rw [sort_two]
  have hl : (two a b).length = [a, b].length := by unfold two; split <;> rfl
  exact ⟨rfl, put_blk h' hl n os⟩

theorem c_of {w : World} {g : Nat} (h : (w.cell? ⟨g, 1, none⟩).isSome = true) : ∀ j, j < 1 → (w.cell? ⟨g, 1 + j, none⟩).isSome = true := by
  intro j hj
  obtain rfl : j = 0 := by omega
  exact h
theorem f_of {w : World} {g : Nat} (h : w.frozen? ⟨g, 1, none⟩ = false) : ∀ j, j < 1 → w.frozen? ⟨g, 1 + j, none⟩ = false := by
  intro j hj
  obtain rfl : j = 0 := by omega
  exact h
/-- What Compact of two leaves. -/
def CompPost (g : Nat) (a b : Int) (w : World) (e : Ending) (w' : World) : Prop :=
  ∃ (n : Nat) (zs : List Int), e = .returned (.slice (some ⟨g, 0, none⟩) n 2) ∧ zs.length = n ∧ zs = (if a = b then [a] else [a, b]) ∧ w'.ownsRow 0 3 1 (.slice (some ⟨g, 0, none⟩) n 2) n (zs.map (Value.int .i64)) ∧ Ext [g] w w'

set_option maxHeartbeats 1000000 in
theorem compact2_any (g : Nat) (a b : Int) (w : World) (h : Blk w g 3 [.int .i64 a, .int .i64 b]) :
    Calls Try.prog 32 #[.slice (some ⟨g, 0, none⟩) 2 2] w (CompPost g a b w) := by
  have c0 := h.cell 0
  have c1 := h.cell 1
  have f0 := h.frozen 0
  have f1 := h.frozen 1
  simp only [List.getElem?_cons_zero, List.getElem?_cons_succ] at c0 c1
  have B := Lib.hid h
  by_cases hab : a = b
  · subst hab
    have HCL := Lib.hid (fun (w' : World) ty hc hf => (show (Builtin.clear_ #[24] ty #[.slice (some ⟨g, 1, none⟩) 1 1]).run Try.prog w' = .ok (.tuple #[]) (w'.setCell ⟨g, 1, none⟩ (.int .i64 0)) from
      Lib.run_clear_slice w' 24 3 ty (.int .i64 0) Try.underlying24 (fun w => by kernel_rfl) rfl rfl g 1 1 1 (by omega) (c_of hc) (f_of hf)))
    clear h
    go_enter Try.func32, Try.ntmps32
    go_wp2_with fail
    refine wp_loop_rounds 1 ?_
    rw [rounds_succ]
    go_upto_region 6 with (fail)
    go_quiet (fail)
    have B1 : Blk (w.drewN nq) g 3 [.int .i64 a, .int .i64 a] := B.out.drewN nq
    have x1 : Ext [g] w (w.drewN nq) := (Ext.refl _ _).drewN nq
    clear c0 c1 f0 f1
    generalize w.drewN nq = w1 at *
    have c0 := B1.cell 0
    have c1 := B1.cell 1
    have f0 := B1.frozen 0
    have f1 := B1.frozen 1
    simp only [List.getElem?_cons_zero, List.getElem?_cons_succ] at c0 c1
    have hcl := fun ty => HCL.out w1 ty (by rw [c1]; rfl) f1
    go_wp2_with fail
    refine wp_loop_rounds 1 ?_
    rw [rounds_succ]
    go_wp2_with fail
    go_ret
    have S := B1.set 1 (.int .i64 0)
    refine ⟨1, [a], rfl, rfl, by rw [if_pos rfl], ?_, x1.setCell (.inl (by simp)) _⟩
    exact ⟨rfl, .inr ⟨g, 2, #[.int .i64 a, .int .i64 0], rfl, Nat.zero_le _, S, by omega, by unfold maxLen; omega, rfl, rfl⟩⟩
  · have hne : (b == a) = false := by rw [beq_eq_false_iff_ne]; exact fun e => hab e.symm
    have HAB := Lib.hid hab
    clear hab h
    go_enter Try.func32, Try.ntmps32
    go_wp2_with fail
    refine wp_loop_rounds 2 ?_
    rw [rounds_succ]
    go_upto_region 6 with (fail)
    go_quiet (fail)
    go_wp2_with fail
    rw [rounds_succ]
    go_wp2_with fail
    go_ret
    refine ⟨2, [a, b], rfl, rfl, by rw [if_neg HAB.out], ?_, (Ext.refl _ _).drewN nq⟩
    exact (B.out.drewN nq).owns rfl (by unfold maxLen; omega)
end Go.Proofs.Ytooifaakflphpaa
