/- Package lamport: bit, leaf, secret. -/
import Derived.Test.YtgcbgeombbohpaaDoorJoined
namespace Go.Proofs.YtgcbgeombbohpaaDoor
open Go.RowKit
set_option maxRecDepth 100000

def secB (seed : List UInt8) (i b : Nat) : List UInt8 := sumOf (joinB [seed, [UInt8.ofNat i, UInt8.ofNat b]])
def bitM (s : List UInt8) (i : Nat) : Nat := (s.getD (i / 8) 0).toNat / 2 ^ (7 - i % 8) % 2
theorem bitM_lt (s : List UInt8) (i : Nat) : bitM s i < 2 := Nat.mod_lt _ (by omega)
theorem secB_length (seed : List UInt8) (i b : Nat) : (secB seed i b).length = 32 := sumOf_length _

theorem lam_and1 (n : Nat) (hn : n < 256) : bits .and .u8 (n : Int) 1 = ((n % 2 : Nat) : Int) := by
  have h : ∀ n : Fin 256, bits .and .u8 ((n.val : Nat) : Int) 1 = ((n.val % 2 : Nat) : Int) := by decide +kernel
  exact h ⟨n, hn⟩

set_option maxHeartbeats 2000000 in
theorem lbit_any (s : List UInt8) (i : Nat) (w : World) (hs : s.length = 32) (hi : i < 32) :
    Calls Tryd.prog 27 #[.agg (bytesV s).toArray, .int .i64 (i : Int)] w fun e w' => e = .returned (.int .u8 (bitM s i : Int)) ∧ Ext [] w w' := by
  have hB : (bytesV s)[i / 8]? = some (.int .u8 ((s.getD (i / 8) 0).toNat : Int)) := by
    unfold bytesV
    simp [List.getD, show i / 8 < s.length by omega]
  have HM := Lib.hid (show bitM s i = (s.getD (i / 8) 0).toNat / 2 ^ (7 - i % 8) % 2 from rfl)
  have hlt := UInt8.toNat_lt (s.getD (i / 8) 0)
  generalize bitM s i = R at *
  generalize s.getD (i / 8) 0 = q at *
  obtain ⟨ov, hov⟩ : ∃ ov, ov = bytesV s := ⟨_, rfl⟩
  rw [← hov] at hB ⊢
  clear hov
  go_enter Tryd.func27, Tryd.ntmps27
  go_upto_region 1 with (fail)
  have BO := Blk.new w 22 ov.toArray
  have x1 : Ext [] w (w.alloc (.cells ov.toArray 22)) := (Ext.refl _ _).alloc _
  generalize w.alloc (.cells ov.toArray 22) = w1 at *
  have c := BO.cell (i / 8)
  rw [show (ov.toArray.toList)[i / 8]? = some (.int .u8 (q.toNat : Int)) from hB] at c
  have h1 : ((i : Int) / 8).toNat = i / 8 := by omega
  have h2 : (0 : Int) ≤ (i : Int) / 8 := by omega
  have h3 : (i : Int) / 8 < 32 := by omega
  go_wp2
  go_ret
  refine ⟨?_, x1⟩
  show Ending.returned (.int .u8 (bits .and .u8 ((q.toNat : Int) / 2 ^ (7 - i % 8)) 1)) = _
  rw [HM.out]
  congr 2
  have hq : q.toNat / 2 ^ (7 - i % 8) < 256 := by
    have := Nat.div_le_self q.toNat (2 ^ (7 - i % 8))
    omega
  have e : ((q.toNat : Int) / 2 ^ (7 - i % 8)) = ((q.toNat / 2 ^ (7 - i % 8) : Nat) : Int) := by push_cast; rfl
  rw [e]
  exact lam_and1 _ hq

/-- A sum's bytes, laid into an array of their own: what a slice of it reads. -/
def SumAt (w w' : World) (l : List UInt8) (v : Value) : Prop :=
  ∃ g, v = .slice (some ⟨g, 0, none⟩) 32 32 ∧ Blk w' g 22 (bytesV l) ∧ w.heap.size ≤ g ∧ l.length = 32

theorem SumAt.reads {w w' : World} {l : List UInt8} {v : Value} (h : SumAt w w' l v) : Reads w' v 1 l.length (bytesV l) := by
  obtain ⟨g, rfl, hB, -, hl⟩ := h
  rw [hl]
  exact blk_reads hB 32 (by rw [bytesV_length, hl])

theorem SumAt.ext {w w' w'' : World} {l : List UInt8} {v : Value} (h : SumAt w w' l v) (x : Ext [] w' w'') : SumAt w w'' l v := by
  obtain ⟨g, rfl, hB, hle, hl⟩ := h
  exact ⟨g, rfl, hB.ext x (by simp), hle, hl⟩

set_option maxHeartbeats 4000000 in
theorem leaf_any (v : Value) (b : List UInt8) (w : World) (G : DigG w) (hr : Reads w v 1 b.length (bytesV b)) (hl : b.length ≤ 1048576) :
    Calls Tryd.prog 23 #[v] w fun e w' => ∃ u, e = .returned u ∧ SumAt w w' (sumOf b) u ∧ Ext [] w w' := by
  have HS := Lib.hid (sum_any v b w G hr hl)
  obtain ⟨ao, c, rfl, -, -, -⟩ := hr
  have hol : (bytesV (sumOf b)).length = 32 := by rw [bytesV_length, sumOf_length]
  have hob := bytesV_one (sumOf b)
  have HSA := Lib.hid (show ∀ w' g, Blk w' g 22 (bytesV (sumOf b)) → w.heap.size ≤ g → SumAt w w' (sumOf b) (.slice (some ⟨g, 0, none⟩) 32 32) from fun w' g h1 h2 => ⟨g, rfl, h1, h2, sumOf_length _⟩)
  generalize sumOf b = S at *
  generalize bytesV S = ov at *
  go_enter Tryd.func23, Tryd.ntmps23
  go_wp2_with fail
  refine HS.out.mono ?_
  rintro e w1 ⟨rfl, x1⟩
  go_wp2_with fail
  refine upon_strow w1.heap.size 0 22 _ ov (Blk.new w1 22 (bytesV (List.replicate 32 0)).toArray) (by rw [hol]; simp [bytesV]) hob ?_
  intro w2 H2 x2 _
  have e9 : (bytesV (List.replicate 32 0)).take 0 ++ ov ++ (bytesV (List.replicate 32 0)).drop (0 + ov.length) = ov := by
    rw [hol, List.take_zero, List.nil_append, List.drop_of_length_le (by simp [bytesV]), List.append_nil]
  have H2 : Blk w2 w1.heap.size 22 ov := e9 ▸ H2
  have x12 : Ext [] w1 w2 := ((Ext.refl [] w1).alloc _).trans' x2 (by simp)
  have hsz := x1.size
  clear e9 x2
  go_wp2_with fail
  go_ret
  exact ⟨_, rfl, HSA.out _ _ H2 hsz, x1.trans x12⟩

set_option maxHeartbeats 4000000 in
theorem secret_any (v : Value) (seed : List UInt8) (i b : Nat) (w : World) (G : DigG w) (hr : Reads w v 1 seed.length (bytesV seed)) (hl : seed.length ≤ 1000) (hi : i < 32) (hb : b < 2) :
    Calls Tryd.prog 24 #[v, .int .i64 (i : Int), .int .u8 (b : Int)] w fun e w' => ∃ u, e = .returned u ∧ SumAt w w' (secB seed i b) u ∧ Ext [] w w' := by
  have HR := Lib.hid (fun w' (x : Ext [] w w') => hr.ext x)
  have HG := Lib.hid (fun w' (x' : Ext [] w w') => G.ext x' (by simp) (by simp))
  obtain ⟨ao, c, rfl, -, -, -⟩ := hr
  have HSB := Lib.hid (show secB seed i b = sumOf (joinB [seed, [UInt8.ofNat i, UInt8.ofNat b]]) from rfl)
  have hS := secB_length seed i b
  generalize secB seed i b = S at *
  have hol : (bytesV S).length = 32 := by rw [bytesV_length, hS]
  have hob := bytesV_one S
  go_enter Tryd.func24, Tryd.ntmps24
  go_wp2_with fail
  have hpair : Blk (w.alloc (.cells #[.int .u8 (i : Int), .int .u8 (b : Int)] 5)) w.heap.size 5 (bytesV [UInt8.ofNat i, UInt8.ofNat b]) := by
    have h := Blk.new w 5 #[.int .u8 (i : Int), .int .u8 (b : Int)]
    have e : bytesV [UInt8.ofNat i, UInt8.ofNat b] = [.int .u8 (i : Int), .int .u8 (b : Int)] := by
      show [Value.int .u8 _, Value.int .u8 _] = _
      rw [byte_val, byte_val, show ((i : Int) % 256) = i by omega, show ((b : Int) % 256) = b by omega]
    rw [e]; exact h
  have x1 : Ext [] w (w.alloc (.cells #[.int .u8 (i : Int), .int .u8 (b : Int)] 5)) := (Ext.refl _ _).alloc _
  have hs1 : (w.alloc (.cells #[.int .u8 (i : Int), .int .u8 (b : Int)] 5)).heap.size = w.heap.size + 1 := by simp
  show Calls _ _ _ ((w.alloc (.cells #[.int .u8 (i : Int), .int .u8 (b : Int)] 5)).alloc (.cells #[.slice ao seed.length c, .slice (some ⟨w.heap.size, 0, none⟩) 2 2] 30)) _
  generalize w.alloc (.cells #[.int .u8 (i : Int), .int .u8 (b : Int)] 5) = w1 at *
  have BP := Blk.new w1 30 #[.slice ao seed.length c, .slice (some ⟨w.heap.size, 0, none⟩) 2 2]
  have x2 : Ext [] w1 (w1.alloc (.cells #[.slice ao seed.length c, .slice (some ⟨w.heap.size, 0, none⟩) 2 2] 30)) := (Ext.refl _ _).alloc _
  rw [hs1] at BP
  generalize w1.alloc (.cells #[.slice ao seed.length c, .slice (some ⟨w.heap.size, 0, none⟩) 2 2] 30) = w2 at *
  have x02 := x1.trans x2
  have hp : PartsIn w2 (.slice (some ⟨w.heap.size + 1, 0, none⟩) 2 2) [.slice ao seed.length c, .slice (some ⟨w.heap.size, 0, none⟩) 2 2] [seed, [UInt8.ofNat i, UInt8.ofNat b]] := by
    refine ⟨blk_reads BP 2 rfl, rfl, ?_⟩
    intro t u hu
    match t, hu with
    | 0, hu => obtain rfl := Option.some.inj hu; exact HR.out w2 x02
    | 1, hu => obtain rfl := Option.some.inj hu; exact blk_reads (hpair.ext x2 (by simp)) 2 rfl
    | t + 2, hu => simp at hu
  have hJL : (joinB [seed, [UInt8.ofNat i, UInt8.ofNat b]]).length ≤ 1048576 := by
    simp [joinB, be8_length]; omega
  have HJ := Lib.hid (joined_any (.slice (some ⟨w.heap.size + 1, 0, none⟩) 2 2) _ _ w2 (HG.out _ x02) hp hJL (by simp))
  rw [← HSB.out] at HJ
  have HSA := Lib.hid (show ∀ w' g, Blk w' g 22 (bytesV S) → w.heap.size ≤ g → SumAt w w' S (.slice (some ⟨g, 0, none⟩) 32 32) from fun w' g h1 h2 => ⟨g, rfl, h1, h2, hS⟩)
  have hsz2 := x02.size
  clear hp hJL BP hpair x1 x2 hs1
  generalize bytesV S = ov at *
  refine HJ.out.mono ?_
  rintro e w3 ⟨rfl, x3⟩
  go_wp2_with fail
  refine upon_strow w3.heap.size 0 22 _ ov (Blk.new w3 22 (bytesV (List.replicate 32 0)).toArray) (by rw [hol]; simp [bytesV]) hob ?_
  intro w4 H4 x4 _
  have e9 : (bytesV (List.replicate 32 0)).take 0 ++ ov ++ (bytesV (List.replicate 32 0)).drop (0 + ov.length) = ov := by
    rw [hol, List.take_zero, List.nil_append, List.drop_of_length_le (by simp [bytesV]), List.append_nil]
  have H4 : Blk w4 w3.heap.size 22 ov := e9 ▸ H4
  have x34 : Ext [] w3 w4 := ((Ext.refl [] w3).alloc _).trans' x4 (by simp)
  have hsz := x3.size
  clear e9 x4
  go_wp2_with fail
  go_ret
  exact ⟨_, rfl, HSA.out _ _ H4 (by omega), x02.trans (x3.trans x34)⟩
end Go.Proofs.YtgcbgeombbohpaaDoor
