/- Package insn: alu. -/
import Derived.Test.YtbjkfgfiifnjoaaDoorOfP
namespace Go.Proofs.YtbjkfgfiifnjoaaDoor
open Go.RowKit
set_option maxRecDepth 100000

set_option maxHeartbeats 4000000 in
set_option maxRecDepth 100000 in
theorem alu_any (n : Nat) (hn : n < 256) (w : World) (hl : n % 8 = 4 ∨ n % 8 = 7) :
    Calls Tryd.prog 117 #[.int .u8 (n : Int)] w fun e w' => e = .returned (.agg (aluN n).cells.toArray) ∧ Ext [] w w' := by
  have h7 := and7 n hn
  have h8 := and8 n hn
  have h16 : (n : Int) / 16 = ((n / 16 : Nat) : Int) := by omega
  have hr : n / 8 % 2 = 0 ∨ n / 8 % 2 = 1 := by omega
  have hA := Lib.hid (show aluN n = if 12 < n / 16 ∨ n / 16 = 8 ∧ n / 8 % 2 = 1 then noPrt else ⟨1, n / 16, 0, decide (n % 8 = 7), decide (n / 8 % 2 = 1)⟩ from rfl)
  have hh : n / 16 < 16 := by omega
  generalize n / 16 = h at *
  rcases hl with hl | hl <;> rcases hr with hr | hr
  all_goals
    rw [hl] at h7 hA
    rw [hr] at h8 hA
    push_cast at h7 h8
    clear hl hr
    by_cases h12 : 12 < h
    · go_enter Tryd.func117, Tryd.ntmps117
      go_wp2
      refine bodyPost_ret (v := .agg (aluN n).cells.toArray) ?_ rfl ⟨rfl, ?_⟩
      · rw [hA.out, if_pos (.inl h12)]
        simp [results, Tryd.results117, go_sem, noPrt, Prt.cells]
      · repeat (first | exact Ext.refl _ _ | apply Ext.drew | apply Ext.alloc | (refine Ext.setCell ?_ (.inr (by simp; done)) _) | (refine Ext.setCell ?_ (.inr (by simp; omega)) _))
    · by_cases h88 : h = 8
      · subst h88
        go_enter Tryd.func117, Tryd.ntmps117
        go_wp2
        refine bodyPost_ret (v := .agg (aluN n).cells.toArray) ?_ rfl ⟨rfl, ?_⟩
        · rw [hA.out]
          simp [results, Tryd.results117, go_sem, noPrt, Prt.cells]
        · repeat (first | exact Ext.refl _ _ | apply Ext.drew | apply Ext.alloc | (refine Ext.setCell ?_ (.inr (by simp; done)) _) | (refine Ext.setCell ?_ (.inr (by simp; omega)) _))
      · have hb8 : ((h : Int) == 8) = false := by rw [beq_eq_false_iff_ne]; omega
        go_enter Tryd.func117, Tryd.ntmps117
        go_wp2
        refine bodyPost_ret (v := .agg (aluN n).cells.toArray) ?_ rfl ⟨rfl, ?_⟩
        · rw [hA.out, if_neg (by omega)]
          simp [results, Tryd.results117, go_sem, Prt.cells]
        · repeat (first | exact Ext.refl _ _ | apply Ext.drew | apply Ext.alloc | (refine Ext.setCell ?_ (.inr (by simp; done)) _) | (refine Ext.setCell ?_ (.inr (by simp; omega)) _))

end Go.Proofs.YtbjkfgfiifnjoaaDoor
