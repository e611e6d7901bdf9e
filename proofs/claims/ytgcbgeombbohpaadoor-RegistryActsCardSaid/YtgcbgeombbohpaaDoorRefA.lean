/- The document's answer of digest: turn, times. -/
import Derived.Test.YtgcbgeombbohpaaDoorBits
import Derived.Test.YtgcbgeombbohpaaDoorRows
namespace Go.Proofs.YtgcbgeombbohpaaDoor
open Go.RowKit
set_option maxRecDepth 100000

set_option maxHeartbeats 1000000 in
theorem turn_any (x : BitVec 32) (n : Nat) (w : World) (h1 : 1 ≤ n) (h2 : n ≤ 31) :
    Calls Tryd.prog 50 #[.int .u32 (x.toNat : Int), .int .i64 (n : Int)] w fun e w' => e = .returned (.int .u32 ((rotr x n).toNat : Int)) ∧ Ext [] w w' := by
  have hx := x.isLt
  go_enter Tryd.func50, Tryd.ntmps50
  go_upto_region 1 with (fail)
  go_region
  go_wp2_with fail
  go_ret
  refine ⟨ret_int ?_, (Ext.refl _ _).drew⟩
  rw [bv_shl', bv_shr, bv_or, rotr]

def u64V (l : List Nat) : List Value := l.map fun n : Nat => Value.int .u64 (n : Int)

/-- One product: the row behind k parts, and what is carried. -/
def tin (ai : Nat) (b : List Nat) (i : Nat) (out : List Nat) : Nat → List Nat × Nat
  | 0 => (out, 0)
  | k + 1 =>
    let p := tin ai b i out k
    let x := (ai * b.getD k 0 + p.1.getD (i + k) 0 + p.2) % 18446744073709551616
    (p.1.set (i + k) (x % 4294967296), x / 4294967296)

def tout (a b : List Nat) : Nat → List Nat
  | 0 => List.replicate (a.length + b.length) 0
  | i + 1 =>
    let p := tin (a.getD i 0) b i (tout a b i) b.length
    p.1.set (i + b.length) ((p.1.getD (i + b.length) 0 + p.2) % 18446744073709551616)

def timesL (a b : List Nat) : List Nat := tout a b a.length

theorem tin_length (ai : Nat) (b : List Nat) (i : Nat) (out : List Nat) : ∀ k, (tin ai b i out k).1.length = out.length
  | 0 => rfl
  | k + 1 => by simp [tin, tin_length ai b i out k]
theorem tout_length (a b : List Nat) : ∀ i, (tout a b i).length = a.length + b.length
  | 0 => by simp [tout]
  | i + 1 => by simp [tout, tin_length, tout_length a b i]
theorem timesL_length (a b : List Nat) : (timesL a b).length = a.length + b.length := tout_length _ _ _
theorem u64V_set (l : List Nat) (i n : Nat) : (u64V l).set i (.int .u64 (n : Int)) = u64V (l.set i n) := by
  unfold u64V
  rw [← List.map_set (f := fun n : Nat => Value.int .u64 (n : Int))]
theorem u64V_length (l : List Nat) : (u64V l).length = l.length := by simp [u64V]
theorem u64V_at (l : List Nat) (i : Nat) (h : i < l.length) : (u64V l)[i]? = some (.int .u64 ((l.getD i 0 : Nat) : Int)) := by simp [u64V, List.getD, h]
theorem u64V_replicate (n : Nat) : List.replicate n (Value.int .u64 0) = u64V (List.replicate n 0) := by simp [u64V]

theorem info_u64 : (Tryd.prog.info? 32).map (fun i => (i.zero, i.size, i.bytes)) = some (some (.int .u64 0), 1, 8) := by kernel_rfl

set_option maxHeartbeats 4000000 in
set_option maxRecDepth 100000 in
theorem times_any (ba bb ca cb : Nat) (a b : List Nat) (w : World) (hA : Blk w ba 32 (u64V a)) (hB : Blk w bb 32 (u64V b)) (hla : a.length ≤ 8) (hlb : b.length ≤ 8) :
    Calls Tryd.prog 39 #[.slice (some ⟨ba, 0, none⟩) a.length ca, .slice (some ⟨bb, 0, none⟩) b.length cb] w fun e w' =>
      ∃ g, e = .returned (.slice (some ⟨g, 0, none⟩) (a.length + b.length) (a.length + b.length)) ∧ Blk w' g 32 (u64V (timesL a b)) ∧ Ext [] w w' ∧ w.heap.size ≤ g := by
  obtain ⟨i0, hi, hz0, hz1, hz2⟩ := info_parts info_u64
  have hal := hA.lt
  have hbl := hB.lt
  obtain ⟨la, hla'⟩ : ∃ la, la = a.length := ⟨_, rfl⟩
  obtain ⟨lb, hlb'⟩ : ∃ lb, lb = b.length := ⟨_, rfl⟩
  have HA := Lib.hid hA
  have HB := Lib.hid hB
  have HLA := Lib.hid hla'
  have HLB := Lib.hid hlb'
  rw [← hla'] at hla ⊢
  rw [← hlb'] at hlb ⊢
  clear hla' hlb' hA hB
  go_enter Tryd.func39, Tryd.ntmps39
  go_wp2_with (at_make; refine wpList_mk _ rfl _ _ _ rfl 32 i0 (.int .u64 0) Tryd.underlying67 hi hz0 hz1 rfl .i64 .i64 _ _ (la + lb) rfl rfl rfl rfl (by rw [hz2]; omega) (by unfold maxLen; omega) ?_)
  rw [show Array.replicate (la + lb) (Value.int .u64 0) = (u64V (List.replicate (la + lb) 0)).toArray by rw [← u64V_replicate]; simp]
  have BO := Blk.new w 32 (u64V (List.replicate (la + lb) 0)).toArray
  have x0 : Ext [] w (w.alloc (.cells (u64V (List.replicate (la + lb) 0)).toArray 32)) := (Ext.refl _ _).alloc _
  generalize w.alloc (.cells (u64V (List.replicate (la + lb) 0)).toArray 32) = w1 at *
  go_loopw [6] (fun i wr => ∃ m : Nat, m ≤ la ∧ i = .int .i64 m ∧ Blk wr w.heap.size 32 (u64V (tout a b m)) ∧ Ext [] w wr) (fun i _ => la - (intOf i).toNat)
  case atStart => exact ⟨0, Nat.zero_le _, rfl, by rw [tout, ← HLA.out, ← HLB.out]; exact BO, x0⟩
  case round =>
    clear BO x0
    obtain ⟨m, hm, rfl, BO, x⟩ := hrel
    by_cases hlt : m < la
    · have hol := Lib.hid (show (tout a b m).length = la + lb by rw [tout_length, HLA.out, HLB.out])
      have HO := Lib.hid (show tout a b (m + 1) = (tin (a.getD m 0) b m (tout a b m) lb).1.set (m + lb) (((tin (a.getD m 0) b m (tout a b m) lb).1.getD (m + lb) 0 + (tin (a.getD m 0) b m (tout a b m) lb).2) % 18446744073709551616) by rw [HLB.out]; rfl)
      have hac := fun (w' : World) (x' : Ext [] w w') => (((HA.out.ext x' (by simp)).cell m).trans (u64V_at a m (by have := HLA.out; omega)))
      have HAC := Lib.hid hac
      clear hac
      generalize tout a b m = o0 at *
      generalize a.getD m 0 = am at *
      go_wp2_with fail
      go_loopw [7, 8] (fun c kk wr => ∃ k : Nat, k ≤ lb ∧ kk = .int .i64 k ∧ c = .int .u64 ((tin am b m o0 k).2 : Int) ∧ Blk wr w.heap.size 32 (u64V (tin am b m o0 k).1) ∧ Ext [] w wr) (fun _ kk _ => lb - (intOf kk).toNat)
      case atStart => exact ⟨0, Nat.zero_le _, rfl, rfl, BO, x⟩
      case round =>
        clear BO x
        obtain ⟨k, hk, rfl, rfl, BO, x⟩ := hrel
        by_cases hlt2 : k < lb
        · have h1 := HAC.out wr x
          have h2 := ((HB.out.ext x (by simp)).cell k).trans (u64V_at b k (by have := HLB.out; omega))
          have hl3 : (tin am b m o0 k).1.length = la + lb := by rw [tin_length, hol.out]
          have h3 := (BO.cell (m + k)).trans (u64V_at (tin am b m o0 k).1 (m + k) (by omega))
          have hT := Lib.hid (show tin am b m o0 (k + 1) = ((tin am b m o0 k).1.set (m + k) ((am * b.getD k 0 + (tin am b m o0 k).1.getD (m + k) 0 + (tin am b m o0 k).2) % 18446744073709551616 % 4294967296), (am * b.getD k 0 + (tin am b m o0 k).1.getD (m + k) 0 + (tin am b m o0 k).2) % 18446744073709551616 / 4294967296) from rfl)
          generalize tin am b m o0 k = T at *
          generalize b.getD k 0 = bk at *
          obtain ⟨ok, hok⟩ : ∃ ok, ok = T.1.getD (m + k) 0 := ⟨_, rfl⟩
          rw [← hok] at h3 hT
          obtain ⟨tc, htc⟩ : ∃ tc, tc = T.2 := ⟨_, rfl⟩
          rw [← htc] at hT ⊢
          have hX : IntKind.u64.wrap (IntKind.u64.wrap (IntKind.u64.wrap ((am : Int) * (bk : Int)) + (ok : Int)) + (tc : Int)) = (((am * bk + ok + tc) % 18446744073709551616 : Nat) : Int) := by
            rw [← Int.natCast_mul am bk]
            generalize am * bk = q
            simp only [IntKind.wrap_u64]
            omega
          have HX := Lib.hid hX
          clear hok htc hX
          have h1' : wr.drew.cell? ⟨ba, m, none⟩ = some (.int .u64 (am : Int)) := h1
          have h2' : wr.drew.cell? ⟨bb, k, none⟩ = some (.int .u64 (bk : Int)) := h2
          have h3' : wr.drew.cell? ⟨w.heap.size, m + k, none⟩ = some (.int .u64 (ok : Int)) := h3
          go_upto_region 9 with (fail)
          go_region
          rw [HX.out]
          generalize (am * bk + ok + tc) % 18446744073709551616 = X at *
          have BO' := BO.drew
          have x' := x.drew
          have ho := (BO'.cell (m + k)).trans (u64V_at T.1 (m + k) (by omega))
          have fo := BO'.frozen (m + k)
          clear h1 h2 h3 h1' h2' h3'
          generalize wr.drew = w2 at *
          generalize T.1.getD (m + k) 0 = ok2 at *
          go_wp2_with fail
          go_roundw
          case rel =>
            refine ⟨k + 1, by omega, by go_num, by rw [hT.out]; go_num, ?_, x'.setCell (.inr (Nat.le_refl _)) _⟩
            rw [hT.out]
            show Blk _ _ _ (u64V (T.1.set (m + k) (X % 4294967296)))
            rw [← u64V_set]
            exact BO'.set (m + k) _
          case measure => simp [intOf]; omega
        · have hk' : k = lb := by omega
          rw [hk'] at BO ⊢
          have hl3 : (tin am b m o0 lb).1.length = la + lb := by rw [tin_length, hol.out]
          have h3 := (BO.cell (m + lb)).trans (u64V_at (tin am b m o0 lb).1 (m + lb) (by omega))
          have f3 := BO.frozen (m + lb)
          clear hk'
          generalize tin am b m o0 lb = T at *
          obtain ⟨ok, hok⟩ : ∃ ok, ok = T.1.getD (m + lb) 0 := ⟨_, rfl⟩
          rw [← hok] at h3 HO
          clear hok
          go_wp2_with fail
          go_roundw
          case rel =>
            refine ⟨m + 1, by omega, by go_num, ?_, x.setCell (.inr (Nat.le_refl _)) _⟩
            rw [HO.out, ← u64V_set]
            exact BO.set (m + lb) _
          case measure => simp [intOf]; omega
    · have hk' : m = la := by omega
      have ht : timesL a b = tout a b la := by rw [HLA.out]; rfl
      have HT := Lib.hid ht
      clear ht
      rw [hk'] at BO
      clear hk'
      go_wp2_with fail
      go_ret
      exact ⟨_, rfl, by rw [HT.out]; exact BO, x, Nat.le_refl _⟩
end Go.Proofs.YtgcbgeombbohpaaDoor
