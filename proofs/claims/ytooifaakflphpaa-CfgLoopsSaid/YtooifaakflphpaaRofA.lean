/- The reference's Of: operations on registers. -/
import Derived.Test.YtooifaakflphpaaOfP
namespace Go.Proofs.Ytooifaakflphpaa
open Go.RowKit
set_option maxRecDepth 100000

set_option maxHeartbeats 4000000 in
set_option maxRecDepth 100000 in
theorem rof_alu (n : Nat) (hn : n < 256) (w : World) (hl : n % 8 = 4 ∨ n % 8 = 7) :
    Calls Try.prog 21 #[.int .u8 (n : Int)] w fun e w' => e = .returned (.agg (aluN n).cells.toArray) ∧ Ext [] w w' := by
  have h16 : (n : Int) / 16 = ((n / 16 : Nat) : Int) := by omega
  have hr : n / 8 % 2 = 0 ∨ n / 8 % 2 = 1 := by omega
  have hA := Lib.hid (show aluN n = if 12 < n / 16 ∨ n / 16 = 8 ∧ n / 8 % 2 = 1 then noPrt else ⟨1, n / 16, 0, decide (n % 8 = 7), decide (n / 8 % 2 = 1)⟩ from rfl)
  have hh : n / 16 < 16 := by omega
  have hc7 : ((n : Int) % 8) = ((n % 8 : Nat) : Int) := by omega
  have hc8 : ((n : Int) / 8 % 2) = ((n / 8 % 2 : Nat) : Int) := by omega
  generalize n / 16 = h at *
  rcases hl with hl | hl <;> rcases hr with hr | hr
  all_goals
    rw [hl] at hA hc7
    rw [hr] at hA hc8
    clear hl hr
    by_cases h12 : 12 < h
    · go_enter Try.func21, Try.ntmps21
      go_wp2
      refine bodyPost_ret (v := .agg (aluN n).cells.toArray) ?_ rfl ⟨rfl, ?_⟩
      · rw [hA.out, if_pos (.inl h12)]
        simp [results, Try.results21, go_sem, noPrt, Prt.cells]
      · repeat (first | exact Ext.refl _ _ | apply Ext.drew | apply Ext.alloc | (refine Ext.setCell ?_ (.inr (by simp; done)) _) | (refine Ext.setCell ?_ (.inr (by simp; omega)) _))
    · by_cases h88 : h = 8
      · subst h88
        go_enter Try.func21, Try.ntmps21
        go_wp2
        refine bodyPost_ret (v := .agg (aluN n).cells.toArray) ?_ rfl ⟨rfl, ?_⟩
        · rw [hA.out]
          simp [results, Try.results21, go_sem, noPrt, Prt.cells]
        · repeat (first | exact Ext.refl _ _ | apply Ext.drew | apply Ext.alloc | (refine Ext.setCell ?_ (.inr (by simp; done)) _) | (refine Ext.setCell ?_ (.inr (by simp; omega)) _))
      · have hb8 : ((h : Int) == 8) = false := by rw [beq_eq_false_iff_ne]; omega
        go_enter Try.func21, Try.ntmps21
        go_wp2
        refine bodyPost_ret (v := .agg (aluN n).cells.toArray) ?_ rfl ⟨rfl, ?_⟩
        · rw [hA.out, if_neg (by omega)]
          simp [results, Try.results21, go_sem, Prt.cells]
        · repeat (first | exact Ext.refl _ _ | apply Ext.drew | apply Ext.alloc | (refine Ext.setCell ?_ (.inr (by simp; done)) _) | (refine Ext.setCell ?_ (.inr (by simp; omega)) _))
end Go.Proofs.Ytooifaakflphpaa
