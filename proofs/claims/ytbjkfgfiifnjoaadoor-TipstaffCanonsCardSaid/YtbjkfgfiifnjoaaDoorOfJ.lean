/- Package insn: jump. -/
import Derived.Test.YtbjkfgfiifnjoaaDoorOfP
namespace Go.Proofs.YtbjkfgfiifnjoaaDoor
open Go.RowKit
set_option maxRecDepth 100000

set_option maxHeartbeats 8000000 in
set_option maxRecDepth 100000 in
theorem jump_any (n : Nat) (hn : n < 256) (w : World) (hl : n % 8 = 5 ∨ n % 8 = 6) :
    Calls Tryd.prog 118 #[.int .u8 (n : Int)] w fun e w' => e = .returned (.agg (jumpN n).cells.toArray) ∧ Ext [] w w' := by
  have h7 := and7 n hn
  have h8 := and8 n hn
  have h16 : (n : Int) / 16 = ((n / 16 : Nat) : Int) := by omega
  have hr : n / 8 % 2 = 0 ∨ n / 8 % 2 = 1 := by omega
  have hA := Lib.hid (show jumpN n = if n % 8 = 5 ∧ n / 8 % 2 = 0 ∧ (n / 16 = 0 ∨ n / 16 = 8 ∨ n / 16 = 9) then ⟨if n / 16 = 0 then 3 else n / 16 - 4, 0, 0, false, false⟩ else if n / 16 = 0 ∨ n / 16 = 8 ∨ n / 16 = 9 ∨ 13 < n / 16 then noPrt else ⟨2, n / 16, 0, decide (n % 8 = 5), decide (n / 8 % 2 = 1)⟩ from rfl)
  have hh : n / 16 < 16 := by omega
  generalize n / 16 = h at *
  rcases hl with hl | hl <;> rcases hr with hr | hr
  all_goals
    rw [hl] at h7 hA
    rw [hr] at h8 hA
    push_cast at h7 h8
    clear hl hr
    by_cases h0 : h = 0
    · subst h0
      go_enter Tryd.func118, Tryd.ntmps118
      go_wp2
      refine bodyPost_ret (v := .agg (jumpN n).cells.toArray) ?_ rfl ⟨rfl, ?_⟩
      · rw [hA.out]
        simp [results, Tryd.results118, go_sem, noPrt, Prt.cells]
      · repeat (first | exact Ext.refl _ _ | apply Ext.drew | apply Ext.alloc | (refine Ext.setCell ?_ (.inr (by simp; done)) _) | (refine Ext.setCell ?_ (.inr (by simp; omega)) _))
    · by_cases h88 : h = 8
      · subst h88
        go_enter Tryd.func118, Tryd.ntmps118
        go_wp2
        refine bodyPost_ret (v := .agg (jumpN n).cells.toArray) ?_ rfl ⟨rfl, ?_⟩
        · rw [hA.out]
          simp [results, Tryd.results118, go_sem, noPrt, Prt.cells]
        · repeat (first | exact Ext.refl _ _ | apply Ext.drew | apply Ext.alloc | (refine Ext.setCell ?_ (.inr (by simp; done)) _) | (refine Ext.setCell ?_ (.inr (by simp; omega)) _))
      · by_cases h99 : h = 9
        · subst h99
          go_enter Tryd.func118, Tryd.ntmps118
          go_wp2
          refine bodyPost_ret (v := .agg (jumpN n).cells.toArray) ?_ rfl ⟨rfl, ?_⟩
          · rw [hA.out]
            simp [results, Tryd.results118, go_sem, noPrt, Prt.cells]
          · repeat (first | exact Ext.refl _ _ | apply Ext.drew | apply Ext.alloc | (refine Ext.setCell ?_ (.inr (by simp; done)) _) | (refine Ext.setCell ?_ (.inr (by simp; omega)) _))
        · have hb0 : ((h : Int) == 0) = false := by rw [beq_eq_false_iff_ne]; omega
          have hb8 : ((h : Int) == 8) = false := by rw [beq_eq_false_iff_ne]; omega
          have hb9 : ((h : Int) == 9) = false := by rw [beq_eq_false_iff_ne]; omega
          by_cases h13 : 13 < h
          · go_enter Tryd.func118, Tryd.ntmps118
            go_wp2
            refine bodyPost_ret (v := .agg (jumpN n).cells.toArray) ?_ rfl ⟨rfl, ?_⟩
            · rw [hA.out, if_neg (by omega), if_pos (by omega)]
              simp [results, Tryd.results118, go_sem, noPrt, Prt.cells]
            · repeat (first | exact Ext.refl _ _ | apply Ext.drew | apply Ext.alloc | (refine Ext.setCell ?_ (.inr (by simp; done)) _) | (refine Ext.setCell ?_ (.inr (by simp; omega)) _))
          · go_enter Tryd.func118, Tryd.ntmps118
            go_wp2
            refine bodyPost_ret (v := .agg (jumpN n).cells.toArray) ?_ rfl ⟨rfl, ?_⟩
            · rw [hA.out, if_neg (by omega), if_neg (by omega)]
              simp [results, Tryd.results118, go_sem, Prt.cells]
            · repeat (first | exact Ext.refl _ _ | apply Ext.drew | apply Ext.alloc | (refine Ext.setCell ?_ (.inr (by simp; done)) _) | (refine Ext.setCell ?_ (.inr (by simp; omega)) _))

end Go.Proofs.YtbjkfgfiifnjoaaDoor
