/- The reference's Of: memory, low bits 1. -/
import Derived.Test.YtooifaakflphpaaOfP
namespace Go.Proofs.Ytooifaakflphpaa
open Go.RowKit
set_option maxRecDepth 100000

set_option maxHeartbeats 8000000 in
set_option maxRecDepth 100000 in
theorem rof_mem1 (n : Nat) (hn : n < 256) (w : World) (hl : n % 8 = 1) :
    Calls Try.prog 21 #[.int .u8 (n : Int)] w fun e w' => e = .returned (.agg (memN n).cells.toArray) ∧ Ext [] w w' := by
  have h32 : (n : Int) / 32 = ((n / 32 : Nat) : Int) := by omega
  have hr : n / 8 % 4 = 0 ∨ n / 8 % 4 = 1 ∨ n / 8 % 4 = 2 ∨ n / 8 % 4 = 3 := by omega
  have hA := Lib.hid (show memN n = if n / 32 = 3 then ⟨if n % 8 = 1 then 6 else 7, 0, sizeN (n / 8 % 4), false, decide (n % 8 = 3)⟩ else if n / 32 = 6 ∧ n % 8 = 3 ∧ 4 ≤ sizeN (n / 8 % 4) then ⟨8, 0, sizeN (n / 8 % 4), false, true⟩ else noPrt from rfl)
  have hc7 : ((n : Int) % 8) = ((n % 8 : Nat) : Int) := by omega
  have hc8 : ((n : Int) / 8 % 4) = ((n / 8 % 4 : Nat) : Int) := by omega
  have hm8 : n / 32 < 8 := by omega
  have hk0 := fun w => (show (Instr.index 59 (.agg #[.int .i64 4, .int .i64 2, .int .i64 1, .int .i64 8]) (.int .u8 0)).run Try.prog w = .ok (.int .i64 4) w from by kernel_rfl)
  have hk1 := fun w => (show (Instr.index 59 (.agg #[.int .i64 4, .int .i64 2, .int .i64 1, .int .i64 8]) (.int .u8 1)).run Try.prog w = .ok (.int .i64 2) w from by kernel_rfl)
  have hk2 := fun w => (show (Instr.index 59 (.agg #[.int .i64 4, .int .i64 2, .int .i64 1, .int .i64 8]) (.int .u8 2)).run Try.prog w = .ok (.int .i64 1) w from by kernel_rfl)
  have hk3 := fun w => (show (Instr.index 59 (.agg #[.int .i64 4, .int .i64 2, .int .i64 1, .int .i64 8]) (.int .u8 3)).run Try.prog w = .ok (.int .i64 8) w from by kernel_rfl)
  have hkk := fun w => (show (Instr.index 59 (.agg #[.int .i64 0, .int .i64 6, .int .i64 7, .int .i64 7]) (.int .i64 1)).run Try.prog w = .ok (.int .i64 6) w from by kernel_rfl)
  generalize n / 32 = m at *
  rw [hl] at hA hc7
  clear hl
  rcases hr with hr | hr | hr | hr
  all_goals
    rw [hr] at hA hc8
    clear hr
    by_cases h3 : m = 3
    · subst h3
      go_enter Try.func21, Try.ntmps21
      go_wp2
      refine bodyPost_ret (v := .agg (memN n).cells.toArray) ?_ rfl ⟨rfl, ?_⟩
      · rw [hA.out]
        simp [results, Try.results21, go_sem, Prt.cells, sizeN]
      · repeat (first | exact Ext.refl _ _ | apply Ext.drew | apply Ext.alloc | (refine Ext.setCell ?_ (.inr (by simp; done)) _) | (refine Ext.setCell ?_ (.inr (by simp; omega)) _))
    · by_cases h6 : m = 6
      · subst h6
        go_enter Try.func21, Try.ntmps21
        go_wp2
        refine bodyPost_ret (v := .agg (memN n).cells.toArray) ?_ rfl ⟨rfl, ?_⟩
        · rw [hA.out]
          simp [results, Try.results21, go_sem, noPrt, Prt.cells, sizeN]
        · repeat (first | exact Ext.refl _ _ | apply Ext.drew | apply Ext.alloc | (refine Ext.setCell ?_ (.inr (by simp; done)) _) | (refine Ext.setCell ?_ (.inr (by simp; omega)) _))
      · have hb3 : ((m : Int) == 3) = false := by rw [beq_eq_false_iff_ne]; omega
        have hb6 : ((m : Int) == 6) = false := by rw [beq_eq_false_iff_ne]; omega
        go_enter Try.func21, Try.ntmps21
        go_wp2
        refine bodyPost_ret (v := .agg (memN n).cells.toArray) ?_ rfl ⟨rfl, ?_⟩
        · rw [hA.out, if_neg h3, if_neg (by omega)]
          simp [results, Try.results21, go_sem, noPrt, Prt.cells]
        · repeat (first | exact Ext.refl _ _ | apply Ext.drew | apply Ext.alloc | (refine Ext.setCell ?_ (.inr (by simp; done)) _) | (refine Ext.setCell ?_ (.inr (by simp; omega)) _))
end Go.Proofs.Ytooifaakflphpaa
