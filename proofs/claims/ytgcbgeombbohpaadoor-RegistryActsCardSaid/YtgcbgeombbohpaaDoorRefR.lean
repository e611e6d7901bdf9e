/- The document's answer of digest: Roots.Sum. -/
import Derived.Test.YtgcbgeombbohpaaDoorRefSum
import Derived.Test.YtgcbgeombbohpaaDoorJoined
namespace Go.Proofs.YtgcbgeombbohpaaDoor
open Go.RowKit
set_option maxRecDepth 100000

theorem PartAt.left {w : World} {b off : Nat} {xs ys : List Value} (h : PartAt w b off (xs ++ ys)) : PartAt w b off xs := fun j hj => by
  rw [h j (by simp; omega), List.getElem?_append_left hj]
theorem PartAt.right {w : World} {b off : Nat} {xs ys : List Value} (h : PartAt w b off (xs ++ ys)) : PartAt w b (off + xs.length) ys := fun j hj => by
  have := h (xs.length + j) (by simp; omega)
  rw [List.getElem?_append_right (by omega), show xs.length + j - xs.length = j by omega] at this
  rw [Nat.add_assoc]; exact this
theorem V32_append (a b : List (BitVec 32)) : V32 (a ++ b) = V32 a ++ V32 b := by simp [V32]

set_option maxHeartbeats 4000000 in
set_option maxRecDepth 100000 in
theorem roots_sum (v : Value) (b : List UInt8) (w : World) (hr : Reads w v 1 b.length (bytesV b)) (hl : b.length ≤ 1048576) :
    Calls Tryd.prog 43 #[.agg (V32 (Ks ++ begin0.list)).toArray, v] w fun e w' => e = .returned (.agg (bytesV (sumOf b)).toArray) ∧ Ext [] w w' := by
  have HR := Lib.hid (fun w' (x : Ext [] w w') => hr.ext x)
  clear hr
  have hKl : (V32 Ks).length = 64 := rfl
  have hBl : (V32 begin0.list).length = 8 := rfl
  have hSum := Lib.hid (fun w' (x : Ext [] w w') => rsum_any v b w' (HR.out w' x) hl)
  rw [V32_append]
  generalize V32 Ks = kv at *
  generalize V32 begin0.list = bv at *
  go_enter Tryd.func43, Tryd.ntmps43
  go_upto_region 1 with (fail)
  show Code.wp _ _ _ _ ((w.alloc (.cells (kv ++ bv).toArray 47)).alloc (.cells (bytesV (List.replicate 32 0)).toArray 22))
  have BR : Blk ((w.alloc (.cells (kv ++ bv).toArray 47)).alloc (.cells (bytesV (List.replicate 32 0)).toArray 22)) w.heap.size 47 (kv ++ bv) := (Blk.new w _ (kv ++ bv).toArray).alloc _
  have BO : Blk ((w.alloc (.cells (kv ++ bv).toArray 47)).alloc (.cells (bytesV (List.replicate 32 0)).toArray 22)) (w.heap.size + 1) 22 (bytesV (List.replicate 32 0)) := Blk.new' _ _ (bytesV (List.replicate 32 0)).toArray _ (by simp)
  have x1 : Ext [] w ((w.alloc (.cells (kv ++ bv).toArray 47)).alloc (.cells (bytesV (List.replicate 32 0)).toArray 22)) := ((Ext.refl _ _).alloc _).alloc _
  generalize ((w.alloc (.cells (kv ++ bv).toArray 47)).alloc (.cells (bytesV (List.replicate 32 0)).toArray 22)) = w1 at *
  have p1 := BR.part.left
  have p2 := BR.part.right
  rw [hKl] at p2
  go_wp2_with (first
    | (with_reducible refine wpList_ldpart rfl 44 (.tmp 6) rfl w.heap.size 0 rfl kv _ p1 Tryd.underlying44 rfl (by rw [hKl]; kernel_rfl) ?_)
    | (with_reducible refine wpList_ldpart rfl 45 (.tmp 8) rfl w.heap.size 64 rfl bv _ p2 Tryd.underlying45 rfl (by rw [hBl]; kernel_rfl) ?_))
  refine (hSum.out w1 x1).mono ?_
  rintro e w2 ⟨rfl, x2⟩
  have BO2 := BO.ext x2 (by simp)
  have hOl : (bytesV (sumOf b)).length = 32 := by rw [bytesV_length, sumOf_length]
  have hob : ∀ u ∈ bytesV (sumOf b), u.oneCell' = true := bytesV_one _
  generalize hov : bytesV (sumOf b) = ov at *
  go_wp2_with fail
  refine upon_strow (w.heap.size + 1) 0 22 _ ov BO2 (by rw [hOl]; simp [bytesV]) hob ?_
  intro w10 H10 x10 _
  have e9 : (bytesV (List.replicate 32 0)).take 0 ++ ov ++ (bytesV (List.replicate 32 0)).drop (0 + ov.length) = ov := by
    rw [hOl, List.take_zero, List.nil_append, List.drop_of_length_le (by simp [bytesV]), List.append_nil]
  rw [e9] at H10
  go_wp2_with fail
  refine bodyPost_ret (results_blk Tryd.results43 _ _ (w.heap.size + 1) 22 ov _ rfl H10 Tryd.underlying22 rfl (by rw [hOl]; kernel_rfl)) rfl ?_
  exact ⟨by rw [hov], (x1.trans x2).trans' x10 (by simp)⟩
end Go.Proofs.YtgcbgeombbohpaaDoor
