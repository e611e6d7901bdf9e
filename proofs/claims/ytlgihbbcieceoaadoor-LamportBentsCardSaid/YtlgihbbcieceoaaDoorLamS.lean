/- The document's answer of layer 2: Leaf, Secret, Bit. -/
import Derived.Test.YtlgihbbcieceoaaDoorLamR
namespace Go.Proofs.YtlgihbbcieceoaaDoor
open Go.RowKit
set_option maxRecDepth 100000

set_option maxHeartbeats 4000000 in
theorem r2leaf (v : Value) (b : List UInt8) (w : World) (hr : Reads w v 1 b.length (bytesV b)) (hl : b.length ≤ 1048576) :
    Calls Tryd.prog 22 #[.agg (V32 (Ks ++ begin0.list)).toArray, v] w fun e w' => ∃ u, e = .returned u ∧ SumAt w w' (sumOf b) u ∧ Ext [] w w' := by
  have HS := Lib.hid (fun w' (x : Ext [] w w') => roots_sum v b w' (hr.ext x) hl)
  obtain ⟨ao, c, rfl, -, -, -⟩ := hr
  have hol : (bytesV (sumOf b)).length = 32 := by rw [bytesV_length, sumOf_length]
  have hob := bytesV_one (sumOf b)
  have HSA := Lib.hid (show ∀ w' g, Blk w' g 23 (bytesV (sumOf b)) → w.heap.size ≤ g → SumAt w w' (sumOf b) (.slice (some ⟨g, 0, none⟩) 32 32) from fun w' g h1 h2 => ⟨g, rfl, h1, h2, sumOf_length _⟩)
  have hRl : (V32 (Ks ++ begin0.list)).length = 72 := rfl
  generalize sumOf b = S at *
  generalize bytesV S = ov at *
  generalize V32 (Ks ++ begin0.list) = rt at *
  go_enter Tryd.func22, Tryd.ntmps22
  go_upto_region 1 with (fail)
  show Code.wp _ _ _ _ (w.alloc (.cells rt.toArray 28))
  have BR : Blk (w.alloc (.cells rt.toArray 28)) w.heap.size 28 rt := Blk.new w _ rt.toArray
  have x1 : Ext [] w (w.alloc (.cells rt.toArray 28)) := (Ext.refl _ _).alloc _
  generalize w.alloc (.cells rt.toArray 28) = w1 at *
  go_wp2_with (with_reducible refine wpList_ldpart rfl 28 (.tmp 2) rfl w.heap.size 0 rfl rt _ BR.part Tryd.underlying28 rfl (by rw [hRl]; kernel_rfl) ?_)
  refine (HS.out w1 x1).mono ?_
  rintro e w2 ⟨rfl, x2⟩
  have hsz := x1.size
  have hsz2 := x2.size
  go_wp2_with fail
  refine upon_strow w2.heap.size 0 23 _ ov (Blk.new w2 23 (bytesV (List.replicate 32 0)).toArray) (by rw [hol]; simp [bytesV]) hob ?_
  intro w3 H3 x3 _
  have e9 : (bytesV (List.replicate 32 0)).take 0 ++ ov ++ (bytesV (List.replicate 32 0)).drop (0 + ov.length) = ov := by
    rw [hol, List.take_zero, List.nil_append, List.drop_of_length_le (by simp [bytesV]), List.append_nil]
  have H3 : Blk w3 w2.heap.size 23 ov := e9 ▸ H3
  have x23 : Ext [] w2 w3 := ((Ext.refl [] w2).alloc _).trans' x3 (by simp)
  clear e9 x3
  go_wp2_with fail
  go_ret
  exact ⟨_, rfl, HSA.out _ _ H3 (by omega), x1.trans (x2.trans x23)⟩

set_option maxHeartbeats 4000000 in
theorem r2secret (v : Value) (seed : List UInt8) (i b : Nat) (w : World) (hr : Reads w v 1 seed.length (bytesV seed)) (hl : seed.length ≤ 1000) (hi : i < 32) (hb : b < 2) :
    Calls Tryd.prog 23 #[.agg (V32 (Ks ++ begin0.list)).toArray, v, .int .i64 (i : Int), .int .i64 (b : Int)] w fun e w' => ∃ u, e = .returned u ∧ SumAt w w' (secB seed i b) u ∧ Ext [] w w' := by
  have HR := Lib.hid (fun w' (x : Ext [] w w') => hr.ext x)
  have HJ := Lib.hid (fun w' (x : Ext [] w w') vb hrb => r2joined v vb seed [UInt8.ofNat i, UInt8.ofNat b] w' (hr.ext x) hrb hl (by simp))
  obtain ⟨ao, c, rfl, -, -, -⟩ := hr
  have HSB := Lib.hid (show secB seed i b = sumOf (joinB [seed, [UInt8.ofNat i, UInt8.ofNat b]]) from rfl)
  rw [← HSB.out] at HJ
  have hS := secB_length seed i b
  have HSA := Lib.hid (show ∀ w' g, Blk w' g 23 (bytesV (secB seed i b)) → w.heap.size ≤ g → SumAt w w' (secB seed i b) (.slice (some ⟨g, 0, none⟩) 32 32) from fun w' g h1 h2 => ⟨g, rfl, h1, h2, hS⟩)
  have hol : (bytesV (secB seed i b)).length = 32 := by rw [bytesV_length, hS]
  have hob := bytesV_one (secB seed i b)
  clear hS HSB
  generalize secB seed i b = S at *
  generalize bytesV S = ov at *
  have hRl : (V32 (Ks ++ begin0.list)).length = 72 := rfl
  generalize V32 (Ks ++ begin0.list) = rt at *
  go_enter Tryd.func23, Tryd.ntmps23
  go_upto_region 1 with (fail)
  show Code.wp _ _ _ _ (w.alloc (.cells rt.toArray 28))
  have BR : Blk (w.alloc (.cells rt.toArray 28)) w.heap.size 28 rt := Blk.new w _ rt.toArray
  have x1 : Ext [] w (w.alloc (.cells rt.toArray 28)) := (Ext.refl _ _).alloc _
  generalize w.alloc (.cells rt.toArray 28) = w1 at *
  go_wp2_with (with_reducible refine wpList_ldpart rfl 28 (.tmp 4) rfl w.heap.size 0 rfl rt _ BR.part Tryd.underlying28 rfl (by rw [hRl]; kernel_rfl) ?_)
  have hpair : Reads (w1.alloc (.cells #[.int .u8 (i : Int), .int .u8 (b : Int)] 5)) (.slice (some ⟨w1.heap.size, 0, none⟩) 2 2) 1 2 (bytesV [UInt8.ofNat i, UInt8.ofNat b]) := by
    have h := blk_reads (size := 1) (m := 2) (Blk.new w1 5 #[.int .u8 (i : Int), .int .u8 (b : Int)]) 2 rfl
    have e : bytesV [UInt8.ofNat i, UInt8.ofNat b] = [.int .u8 (i : Int), .int .u8 (b : Int)] := by
      show [Value.int .u8 _, Value.int .u8 _] = _
      rw [byte_val, byte_val, show ((i : Int) % 256) = i by omega, show ((b : Int) % 256) = b by omega]
    rw [e]; exact h
  have x2 : Ext [] w (w1.alloc (.cells #[.int .u8 (i : Int), .int .u8 (b : Int)] 5)) := x1.alloc _
  refine (HJ.out _ x2 _ hpair).mono ?_
  rintro e w3 ⟨rfl, x3⟩
  have hsz := (x2.trans x3).size
  go_wp2_with fail
  refine upon_strow w3.heap.size 0 23 _ ov (Blk.new w3 23 (bytesV (List.replicate 32 0)).toArray) (by rw [hol]; simp [bytesV]) hob ?_
  intro w4 H4 x4 _
  have e9 : (bytesV (List.replicate 32 0)).take 0 ++ ov ++ (bytesV (List.replicate 32 0)).drop (0 + ov.length) = ov := by
    rw [hol, List.take_zero, List.nil_append, List.drop_of_length_le (by simp [bytesV]), List.append_nil]
  have H4 : Blk w4 w3.heap.size 23 ov := e9 ▸ H4
  have x34 : Ext [] w3 w4 := ((Ext.refl [] w3).alloc _).trans' x4 (by simp)
  clear e9 x4
  go_wp2_with fail
  go_ret
  exact ⟨_, rfl, HSA.out _ _ H4 hsz, x2.trans (x3.trans x34)⟩

set_option maxHeartbeats 2000000 in
theorem r2bit (s : List UInt8) (i : Nat) (w : World) (hs : s.length = 32) (hi : i < 32) :
    Calls Tryd.prog 25 #[.agg (bytesV s).toArray, .int .i64 (i : Int)] w fun e w' => e = .returned (.int .i64 (bitM s i : Int)) ∧ Ext [] w w' := by
  have hB : (bytesV s)[i / 8]? = some (.int .u8 ((s.getD (i / 8) 0).toNat : Int)) := by
    unfold bytesV
    simp [List.getD, show i / 8 < s.length by omega]
  have HM := Lib.hid (show bitM s i = (s.getD (i / 8) 0).toNat / 2 ^ (7 - i % 8) % 2 from rfl)
  have hlt := UInt8.toNat_lt (s.getD (i / 8) 0)
  have hb2 := bitM_lt s i
  generalize bitM s i = R at *
  generalize s.getD (i / 8) 0 = q at *
  obtain ⟨ov, hov⟩ : ∃ ov, ov = bytesV s := ⟨_, rfl⟩
  rw [← hov] at hB ⊢
  clear hov
  go_enter Tryd.func25, Tryd.ntmps25
  go_upto_region 1 with (fail)
  have BO := Blk.new w 23 ov.toArray
  have x1 : Ext [] w (w.alloc (.cells ov.toArray 23)) := (Ext.refl _ _).alloc _
  generalize w.alloc (.cells ov.toArray 23) = w1 at *
  have c := BO.cell (i / 8)
  rw [show (ov.toArray.toList)[i / 8]? = some (.int .u8 (q.toNat : Int)) from hB] at c
  have h1 : ((i : Int) / 8).toNat = i / 8 := by omega
  have h2 : (0 : Int) ≤ (i : Int) / 8 := by omega
  have h3 : (i : Int) / 8 < 32 := by omega
  have hq : q.toNat / 2 ^ (7 - i % 8) < 256 := by
    have := Nat.div_le_self q.toNat (2 ^ (7 - i % 8))
    omega
  have e : ((q.toNat : Int) / 2 ^ (7 - i % 8)) = ((q.toNat / 2 ^ (7 - i % 8) : Nat) : Int) := by push_cast; rfl
  have hbits : bits .and .u8 ((q.toNat : Int) / 2 ^ (7 - i % 8)) 1 = (R : Int) := by rw [e, lam_and1 _ hq, HM.out]
  clear hq e
  go_wp2
  go_ret
  exact ⟨rfl, x1⟩
end Go.Proofs.YtlgihbbcieceoaaDoor
