/- The reference of layer 5: Args. -/
import Derived.Test.YtooifaakflphpaaShG
namespace Go.Proofs.Ytooifaakflphpaa
open Go.RowKit
set_option maxRecDepth 100000

set_option maxHeartbeats 2000000 in
theorem rargs_any (h : Int) (w : World) :
    Calls Try.prog 52 #[.int .i32 h] w fun e w' => e = .returned (.int .i64 (argsM h)) ∧ w' = w := by
  have hk : h = 1 ∨ h = 3 ∨ h = 88 ∨ h = 89 ∨ h = 2 ∨ h = 5 ∨ h = 7 ∨ h = 87 ∨ (h ≠ 1 ∧ h ≠ 3 ∧ h ≠ 88 ∧ h ≠ 89 ∧ h ≠ 2 ∧ h ≠ 5 ∧ h ≠ 7 ∧ h ≠ 87) := by omega
  rcases hk with rfl | rfl | rfl | rfl | rfl | rfl | rfl | rfl | ⟨k1, k2, k3, k4, k5, k6, k7, k8⟩
  all_goals
    try rw [show argsM h = -1 by unfold argsM; rw [if_neg (by omega), if_neg (by omega), if_neg (by omega), if_neg (by omega)]]
    try (have e0 : (h == 1) = false := by rw [beq_eq_false_iff_ne]; omega)
    try (have e1 : (h == 3) = false := by rw [beq_eq_false_iff_ne]; omega)
    try (have e2 : (h == 88) = false := by rw [beq_eq_false_iff_ne]; omega)
    try (have e3 : (h == 89) = false := by rw [beq_eq_false_iff_ne]; omega)
    try (have e4 : (h == 2) = false := by rw [beq_eq_false_iff_ne]; omega)
    try (have e5 : (h == 5) = false := by rw [beq_eq_false_iff_ne]; omega)
    try (have e6 : (h == 7) = false := by rw [beq_eq_false_iff_ne]; omega)
    try (have e7 : (h == 87) = false := by rw [beq_eq_false_iff_ne]; omega)
    go_enter Try.func52, Try.ntmps52
    go_wp2
    go_ret
    exact ⟨rfl, rfl⟩

theorem argsM_range (h : Int) : -1 ≤ argsM h ∧ argsM h ≤ 4 := by
  unfold argsM
  repeat' split
  all_goals omega
end Go.Proofs.Ytooifaakflphpaa
