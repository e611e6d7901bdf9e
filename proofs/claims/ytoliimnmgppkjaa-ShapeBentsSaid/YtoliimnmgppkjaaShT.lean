/- The laws of layer 5: forms; ShapeTells. -/
import Derived.Test.YtoliimnmgppkjaaShG
namespace Go.Proofs.Ytoliimnmgppkjaa
open Go.RowKit
set_option maxRecDepth 100000

def insA : Ins := ⟨183, 0, 0, 0, 0⟩
def insB : Ins := ⟨149, 0, 0, 0, 0⟩
def insB1 : Ins := ⟨149, 0, 0, 0, 1⟩
theorem checkA : checkM [insA, insB] = (0, 0) := by decide +kernel
theorem checkB : checkM [insA, insB1] = (1, 22) := by decide +kernel

set_option maxHeartbeats 2000000 in
set_option maxRecDepth 100000 in
theorem forms_any (w : World) :
    Calls Try.prog 10 #[] w fun e w' => e = .returned (.bool true) ∧ Ext [] w w' := by
  go_enter Try.func10, Try.ntmps10
  go_wp2_with fail
  have hrd : Reads (w.alloc (.cells (insV [insA, insB]).toArray 26)) (.slice (some ⟨w.heap.size, 0, none⟩) 2 2) 5 [insA, insB].length (insV [insA, insB]) := blk_reads (Blk.new w 26 (insV [insA, insB]).toArray) 2 rfl
  have x1 : Ext [] w (w.alloc (.cells (insV [insA, insB]).toArray 26)) := (Ext.refl _ _).alloc _
  show Calls _ _ _ (w.alloc (.cells (insV [insA, insB]).toArray 26)) _
  generalize w.alloc (.cells (insV [insA, insB]).toArray 26) = w1 at *
  refine (check_any _ [insA, insB] w1 hrd (by decide)).mono ?_
  rw [checkA]
  rintro e w2 ⟨rfl, x2⟩
  clear hrd
  go_wp2_with fail
  have hrd : Reads (w2.alloc (.cells (insV [insA, insB1]).toArray 26)) (.slice (some ⟨w2.heap.size, 0, none⟩) 2 2) 5 [insA, insB1].length (insV [insA, insB1]) := blk_reads (Blk.new w2 26 (insV [insA, insB1]).toArray) 2 rfl
  have x3 : Ext [] w2 (w2.alloc (.cells (insV [insA, insB1]).toArray 26)) := (Ext.refl _ _).alloc _
  show Calls _ _ _ (w2.alloc (.cells (insV [insA, insB1]).toArray 26)) _
  generalize w2.alloc (.cells (insV [insA, insB1]).toArray 26) = w3 at *
  refine (check_any _ [insA, insB1] w3 hrd (by decide)).mono ?_
  rw [checkB]
  rintro e w4 ⟨rfl, x4⟩
  clear hrd
  go_wp2_with fail
  go_ret
  exact ⟨rfl, x1.trans (x2.trans (x3.trans x4))⟩

set_option maxHeartbeats 2000000 in
theorem rargs_any (h : Int) (w : World) :
    Calls Try.prog 12 #[.int .i32 h] w fun e w' => e = .returned (.int .i64 (argsM h)) ∧ w' = w := by
  have hk : h = 1 ∨ h = 3 ∨ h = 88 ∨ h = 89 ∨ h = 2 ∨ h = 5 ∨ h = 7 ∨ h = 87 ∨ (h ≠ 1 ∧ h ≠ 3 ∧ h ≠ 88 ∧ h ≠ 89 ∧ h ≠ 2 ∧ h ≠ 5 ∧ h ≠ 7 ∧ h ≠ 87) := by omega
  rcases hk with rfl | rfl | rfl | rfl | rfl | rfl | rfl | rfl | ⟨k1, k2, k3, k4, k5, k6, k7, k8⟩
  all_goals
    try rw [show argsM h = -1 by unfold argsM; rw [if_neg (by omega), if_neg (by omega), if_neg (by omega), if_neg (by omega)]]
    try (have e0 : (h == 1) = false := by rw [beq_eq_false_iff_ne]; omega)
    try (have e1 : (h == 3) = false := by rw [beq_eq_false_iff_ne]; omega)
    try (have e2 : (h == 88) = false := by rw [beq_eq_false_iff_ne]; omega)
    try (have e3 : (h == 89) = false := by rw [beq_eq_false_iff_ne]; omega)
    try (have e4 : (h == 2) = false := by rw [beq_eq_false_iff_ne]; omega)
    try (have e5 : (h == 5) = false := by rw [beq_eq_false_iff_ne]; omega)
    try (have e6 : (h == 7) = false := by rw [beq_eq_false_iff_ne]; omega)
    try (have e7 : (h == 87) = false := by rw [beq_eq_false_iff_ne]; omega)
    go_enter Try.func12, Try.ntmps12
    go_wp2
    go_ret
    exact ⟨rfl, rfl⟩

theorem argsM_range (h : Int) : -1 ≤ argsM h ∧ argsM h ≤ 4 := by
  unfold argsM
  repeat' split
  all_goals omega

set_option maxHeartbeats 4000000 in
set_option maxRecDepth 100000 in
theorem tells_walk (h a : Int) (off : BitVec 16) (w : World) :
    Calls Try.prog 5 #[.int .i32 h, .int .i64 a, .int .i16 off.toInt] w fun e w' => e = .returned (.bool true) ∧ Ext [] w w' := by
  have hk1 : -1073741824 < a.tmod 1073741824 := by have := Int.lt_tmod_of_pos a (b := 1073741824) (by omega); omega
  have hk2 : a.tmod 1073741824 < 1073741824 := Int.tmod_lt_of_pos a (by omega)
  have hr := argsM_range h
  have HA := Lib.hid (fun w' => args_any h w')
  have HRA := Lib.hid (fun w' => rargs_any h w')
  generalize argsM h = A at *
  have ho1 : -32768 ≤ off.toInt := by have := off.le_toInt; simpa using this
  have ho2 : off.toInt ≤ 32767 := by have := off.toInt_lt; simp at this; omega
  by_cases hA : A < 0
  · rw [if_pos hA, decide_eq_false (p := 0 ≤ A) (by omega)] at HA
    go_enter Try.func5, Try.ntmps5
    go_wp2_with fail
    refine (HA.out w).mono ?_
    rintro e w1 ⟨rfl, rfl⟩
    go_wp2_with fail
    refine (HRA.out w1).mono ?_
    rintro e w2 ⟨rfl, rfl⟩
    obtain rfl : A = -1 := by omega
    go_wp2_with fail
    generalize a.tmod 1073741824 = k at *
    refine (forms_any w2).mono ?_
    rintro e w3 ⟨rfl, x3⟩
    go_wp2_with fail
    refine (target_any _ (⟨0, 0, 0, off, 0⟩ : Ins) w3 (by omega)).mono ?_
    rintro e w4 ⟨rfl, x4⟩
    have hsum : ∀ k : Int, (k + off.toInt + 1 == k + 1 + off.toInt) = true := fun k => by rw [beq_iff_eq]; omega
    go_wp2_with fail
    go_ret
    exact ⟨rfl, x3.trans x4⟩
  · rw [if_neg hA, decide_eq_true (p := 0 ≤ A) (by omega)] at HA
    go_enter Try.func5, Try.ntmps5
    go_wp2_with fail
    refine (HA.out w).mono ?_
    rintro e w1 ⟨rfl, rfl⟩
    go_wp2_with fail
    refine (HRA.out w1).mono ?_
    rintro e w2 ⟨rfl, rfl⟩
    have hge : decide (0 ≤ A) = true := decide_eq_true (by omega)
    go_wp2_with fail
    generalize a.tmod 1073741824 = k at *
    refine (forms_any w2).mono ?_
    rintro e w3 ⟨rfl, x3⟩
    go_wp2_with fail
    refine (target_any _ (⟨0, 0, 0, off, 0⟩ : Ins) w3 (by omega)).mono ?_
    rintro e w4 ⟨rfl, x4⟩
    have hsum : ∀ k : Int, (k + off.toInt + 1 == k + 1 + off.toInt) = true := fun k => by rw [beq_iff_eq]; omega
    go_wp2_with fail
    go_ret
    exact ⟨rfl, x3.trans x4⟩
end Go.Proofs.Ytoliimnmgppkjaa
