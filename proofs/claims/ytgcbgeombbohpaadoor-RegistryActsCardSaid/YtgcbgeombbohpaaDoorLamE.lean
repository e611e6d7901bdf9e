/- The document's answer of layer 2: Leaf, Bit. -/
import Derived.Deep.RegionHeld3
import Derived.Test.YtgcbgeombbohpaaDoorLamA
import Derived.Test.YtgcbgeombbohpaaDoorRefR
namespace Go.Proofs.YtgcbgeombbohpaaDoor
open Go.RowKit
set_option maxRecDepth 100000

theorem range_of_blk' {w : World} {b : Nat} {T : TypeId} {cs : List Value} (h : Blk w b T cs) : w.rangeAt b 0 cs := fun j v hv => by
  rw [Nat.zero_add, h.cell]; exact hv
set_option maxHeartbeats 4000000 in
theorem r2leaf (v : Value) (b : List UInt8) (w : World) (hr : Reads w v 1 b.length (bytesV b)) (hl : b.length ≤ 1048576) :
    Calls Tryd.prog 41 #[.agg (V32 (Ks ++ begin0.list)).toArray, v] w fun e w' => ∃ u, e = .returned u ∧ SumAt w w' (sumOf b) u ∧ Ext [] w w' := by
  have HS := Lib.hid (fun w' (x : Ext [] w w') => roots_sum v b w' (hr.ext x) hl)
  obtain ⟨ao, c, rfl, -, -, -⟩ := hr
  have hol : (bytesV (sumOf b)).length = 32 := by rw [bytesV_length, sumOf_length]
  have hob := bytesV_one (sumOf b)
  have HSA := Lib.hid (show ∀ w' g, Blk w' g 22 (bytesV (sumOf b)) → w.heap.size ≤ g → SumAt w w' (sumOf b) (.slice (some ⟨g, 0, none⟩) 32 32) from fun w' g h1 h2 => ⟨g, rfl, h1, h2, sumOf_length _⟩)
  have hRl : (V32 (Ks ++ begin0.list)).length = 72 := rfl
  generalize sumOf b = S at *
  generalize bytesV S = ov at *
  generalize V32 (Ks ++ begin0.list) = rt at *
  go_enter Tryd.func41, Tryd.ntmps41
  go_upto_region 1 with (fail)
  show Code.wp _ _ _ _ (w.alloc (.cells rt.toArray 47))
  have BR : Blk (w.alloc (.cells rt.toArray 47)) w.heap.size 47 rt := Blk.new w _ rt.toArray
  have x1 : Ext [] w (w.alloc (.cells rt.toArray 47)) := (Ext.refl _ _).alloc _
  generalize w.alloc (.cells rt.toArray 47) = w1 at *
  go_wp2_with (with_reducible refine wpList_ldpart rfl 47 (.tmp 2) rfl w.heap.size 0 rfl rt _ BR.part Tryd.underlying47 rfl (by rw [hRl]; kernel_rfl) ?_)
  refine (HS.out w1 x1).mono ?_
  rintro e w2 ⟨rfl, x2⟩
  have hsz := x1.size
  have hsz2 := x2.size
  go_wp2_with fail
  refine upon_strow w2.heap.size 0 22 _ ov (Blk.new w2 22 (bytesV (List.replicate 32 0)).toArray) (by rw [hol]; simp [bytesV]) hob ?_
  intro w3 H3 x3 _
  have e9 : (bytesV (List.replicate 32 0)).take 0 ++ ov ++ (bytesV (List.replicate 32 0)).drop (0 + ov.length) = ov := by
    rw [hol, List.take_zero, List.nil_append, List.drop_of_length_le (by simp [bytesV]), List.append_nil]
  have H3 : Blk w3 w2.heap.size 22 ov := e9 ▸ H3
  have x23 : Ext [] w2 w3 := ((Ext.refl [] w2).alloc _).trans' x3 (by simp)
  clear e9 x3
  go_wp2_with fail
  go_ret
  exact ⟨_, rfl, HSA.out _ _ H3 (by omega), x1.trans (x2.trans x23)⟩

set_option maxHeartbeats 2000000 in
theorem r2bit (s : List UInt8) (i : Nat) (w : World) (hs : s.length = 32) (hi : i < 32) :
    Calls Tryd.prog 42 #[.agg (bytesV s).toArray, .int .i64 (i : Int)] w fun e w' => e = .returned (.int .i64 (bitM s i : Int)) ∧ Ext [] w w' := by
  have hB : (bytesV s)[i / 8]? = some (.int .u8 ((s.getD (i / 8) 0).toNat : Int)) := by
    unfold bytesV
    simp [List.getD, show i / 8 < s.length by omega]
  have HM := Lib.hid (show bitM s i = (s.getD (i / 8) 0).toNat / 2 ^ (7 - i % 8) % 2 from rfl)
  have hlt := UInt8.toNat_lt (s.getD (i / 8) 0)
  have hb2 := bitM_lt s i
  generalize bitM s i = R at *
  generalize s.getD (i / 8) 0 = q at *
  obtain ⟨ov, hov⟩ : ∃ ov, ov = bytesV s := ⟨_, rfl⟩
  rw [← hov] at hB ⊢
  clear hov
  go_enter Tryd.func42, Tryd.ntmps42
  go_upto_region 1 with (fail)
  have BO := Blk.new w 22 ov.toArray
  have x1 : Ext [] w (w.alloc (.cells ov.toArray 22)) := (Ext.refl _ _).alloc _
  generalize w.alloc (.cells ov.toArray 22) = w1 at *
  have c := BO.cell (i / 8)
  rw [show (ov.toArray.toList)[i / 8]? = some (.int .u8 (q.toNat : Int)) from hB] at c
  have h1 : ((i : Int) / 8).toNat = i / 8 := by omega
  have h2 : (0 : Int) ≤ (i : Int) / 8 := by omega
  have h3 : (i : Int) / 8 < 32 := by omega
  have hq : q.toNat / 2 ^ (7 - i % 8) < 256 := by
    have := Nat.div_le_self q.toNat (2 ^ (7 - i % 8))
    omega
  have e : ((q.toNat : Int) / 2 ^ (7 - i % 8)) = ((q.toNat / 2 ^ (7 - i % 8) : Nat) : Int) := by push_cast; rfl
  have hbits : bits .and .u8 ((q.toNat : Int) / 2 ^ (7 - i % 8)) 1 = (R : Int) := by rw [e, lam_and1 _ hq, HM.out]
  clear hq e
  go_wp2
  go_ret
  exact ⟨rfl, x1⟩
end Go.Proofs.YtgcbgeombbohpaaDoor
