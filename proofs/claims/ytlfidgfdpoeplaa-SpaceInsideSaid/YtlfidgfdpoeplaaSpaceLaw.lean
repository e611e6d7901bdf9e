/- The laws of layer 10: build, within. -/
import Derived.Test.YtlfidgfdpoeplaaSpaceRef
namespace Go.Proofs.Ytlfidgfdpoeplaa
open Go.RowKit

/-- Two trees alike, of the call's own. -/
structure Pair (B : Nat) (w : World) (bt bl c bw bu c' : Nat) (T : Tree) : Prop where
  t : TreeAt w bt bl c T
  r : RefAt w bw bu c' T
  f1 : B ≤ bt
  f2 : B ≤ bl
  f3 : B ≤ bw
  f4 : B ≤ bu
  n1 : bt ≠ bw
  n2 : bt ≠ bu
  n3 : bl ≠ bw
  n4 : bl ≠ bu

def BuildPost (w : World) (e : Ending) (w' : World) : Prop :=
  ∃ bt bl c bw bu c' T, e = .returned (.tuple #[.pointer (some ⟨bt, 0, none⟩), .pointer (some ⟨bw, 0, none⟩), .bool true]) ∧ Pair w.heap.size w' bt bl c bw bu c' T ∧ Ext [] w w'

set_option maxHeartbeats 2000000 in
set_option maxRecDepth 100000 in
theorem build_any (a1 : Option Addr) (len1 cap1 : Nat) (z1 : List Int) (w : World) (r1 : IsRow .i64 w a1 len1 cap1 z1) :
    Calls Try.prog 9 #[.slice a1 len1 cap1] w (BuildPost w) := by
  obtain ⟨hl, hm, -, b, off, hA, hB, hC⟩ := r1.at
  unfold maxLen at hm
  have HA := Lib.hid hA
  have HC := Lib.hid hC
  clear hA hC r1
  go_enter Try.func9, Try.ntmps9
  go_wp2_with fail
  refine (tree_new w).mono ?_
  rintro e w1 ⟨rfl, T1, x1, hz1⟩
  go_wp2_with fail
  refine (ref_new w1).mono ?_
  rintro e w2 ⟨bw, bu, cr, rfl, R1, x2, hf3, hf4⟩
  go_wp2_with fail
  have l1 := T1.lt1
  have l2 := T1.lt2
  go_loopw [7] (fun i wr => ∃ (k bl c bu c' : Nat) (T : Tree), k ≤ len1 ∧ k ≤ 20 ∧ i = .int .i64 k ∧ Pair w.heap.size wr (w.heap.size + 1) bl c bw bu c' T ∧ Ext [] w wr) (fun i _ => 20 - (intOf i).toNat)
  case atStart =>
    exact ⟨0, _, _, _, _, _, Nat.zero_le _, by omega, rfl, ⟨T1.ext x2 (by simp) (by simp), R1, by omega, by omega, by omega, by omega, by omega, by omega, by omega, by omega⟩, x1.trans x2⟩
  case round =>
    clear T1 R1 hz1 l1 l2 x1 x2 hf4
    obtain ⟨k, bl, c, bu, c', T, hk, hk20, rfl, P, x⟩ := hrel
    by_cases hlt : k < len1 ∧ k < 20
    · obtain ⟨hlt, h20⟩ := hlt
      obtain rfl := HA.out (by omega)
      have hcell : wr.cell? ⟨b, off + k, none⟩ = some (.int .i64 (z1.getD k 0)) := by
        rw [x.cell (hB (by omega)) (by simp)]; exact HC.out k (by omega)
      have hcell0 := Lib.hid (show w.cell? ⟨b, off + k, none⟩ = some (.int .i64 (z1.getD k 0)) from HC.out k (by omega))
      have hb := hB (by omega)
      generalize z1.getD k 0 = z at *
      go_wp2_with fail
      refine (make_any _ _ _ z T wr P.t).mono ?_
      rintro e w3 ⟨bl', cp', rfl, T2, x3, hbl⟩
      have l1 := P.t.lt1
      have l2 := P.t.lt2
      have l3 := P.r.lt1
      have l4 := P.r.lt2
      have q1 := P.n1
      have q2 := P.n2
      have q3 := P.n3
      have q4 := P.n4
      have q5 := P.f2
      have hsz := x.size
      have x13 : Ext [] w w3 := x.trans' x3 (by intro i hi; simp at hi; rcases hi with rfl | rfl <;> omega)
      have hcell3 : w3.cell? ⟨b, off + k, none⟩ = some (.int .i64 z) := by rw [x13.cell hb (by simp)]; exact hcell0.out
      have R2 := P.r.ext x3 (by simp; omega) (by simp; omega)
      go_wp2_with fail
      refine (rmake_any _ _ _ z T w3 R2).mono ?_
      rintro e w4 ⟨bu', cp2, rfl, R3, x4, hbu⟩
      have l5 := T2.lt1
      have l6 := T2.lt2
      have q6 := P.f4
      have q7 := P.f3
      go_wp2_with fail
      go_roundw
      case rel =>
        have hs3 := x3.size
        refine ⟨k + 1, bl', cp', bu', cp2, _, by omega, by omega, by go_num, ⟨T2.ext x4 (by simp; omega) (by simp; omega), R3, by omega, by omega, by omega, by omega, by omega, by omega, by omega, by omega⟩, ?_⟩
        exact x13.trans' x4 (by intro i hi; simp at hi; rcases hi with rfl | rfl <;> omega)
      case measure => simp [intOf]; omega
    · by_cases hlt' : k < len1
      · obtain rfl : k = 20 := by omega
        clear hlt
        go_wp2_with fail
        go_ret3
        exact ⟨_, _, _, _, _, _, T, rfl, P, x⟩
      · clear hlt
        go_wp2_with fail
        go_ret3
        exact ⟨_, _, _, _, _, _, T, rfl, P, x⟩

theorem within_any (w : World) : Calls Try.prog 10 #[] w fun e w' => e = .returned (.bool true) ∧ Ext [] w w' := by
  go_enter Try.func10, Try.ntmps10
  go_wp2_with fail
  refine (tree_new w).mono ?_
  rintro e w1 ⟨rfl, T1, x1, hz1⟩
  go_wp2_with fail
  refine (make_push _ _ _ 0 _ w1 T1 (by decide) (by decide) (by decide)).mono ?_
  rintro e w2 ⟨bl2, c2, rfl, T2, x2, h2⟩
  have l1 := T2.lt1
  have l2 := T2.lt2
  go_wp2_with fail
  refine (make_push _ _ _ 1 _ w2 T2 (by decide) (by decide) (by decide)).mono ?_
  rintro e w3 ⟨bl3, c3, rfl, T3, x3, h3⟩
  go_wp2_with fail
  refine (inside_any _ _ _ 2 0 _ w3 T3).mono ?_
  rintro e w4 ⟨rfl, x4⟩
  rw [show ((Tree.one.push 0).push 1).inside 2 0 = true from by decide]
  go_wp2_with fail
  refine (inside_any _ _ _ 0 2 _ w4 (T3.ext x4 (by simp) (by simp))).mono ?_
  rintro e w5 ⟨rfl, x5⟩
  rw [show ((Tree.one.push 0).push 1).inside 0 2 = false from by decide]
  go_wp2_with fail
  refine (path_ok _ _ _ 2 _ w5 ((T3.ext x4 (by simp) (by simp)).ext x5 (by simp) (by simp)) (by decide)).mono ?_
  rintro e w6 ⟨b, c, rfl, -, x6, -⟩
  rw [show (((Tree.one.push 0).push 1).ps 2).length = 3 from by decide]
  go_wp2_with fail
  go_ret
  have s1 := x1.size
  refine ⟨rfl, ((((x1.trans' x2 ?_).trans' x3 ?_).trans x4).trans x5).trans x6⟩
  · intro i hi; simp at hi; rcases hi with rfl | rfl <;> omega
  · intro i hi; simp at hi; rcases hi with rfl | rfl <;> omega

end Go.Proofs.Ytlfidgfdpoeplaa
