/- Package insn: memory. -/
import Derived.Test.YtbjkfgfiifnjoaaDoorOfP
namespace Go.Proofs.YtbjkfgfiifnjoaaDoor
open Go.RowKit
set_option maxRecDepth 100000

set_option maxHeartbeats 16000000 in
set_option maxRecDepth 100000 in
theorem mem_any (n : Nat) (hn : n < 256) (w : World) (hl : n % 8 = 1 ∨ n % 8 = 2 ∨ n % 8 = 3) :
    Calls Tryd.prog 119 #[.int .u8 (n : Int)] w fun e w' => e = .returned (.agg (memN n).cells.toArray) ∧ Ext [] w w' := by
  have h7 := and7 n hn
  have h8 := and3 (n / 8) (by omega)
  have h16 : (n : Int) / 8 = ((n / 8 : Nat) : Int) := by omega
  have h32 : (n : Int) / 32 = ((n / 32 : Nat) : Int) := by omega
  have hr : n / 8 % 4 = 0 ∨ n / 8 % 4 = 1 ∨ n / 8 % 4 = 2 ∨ n / 8 % 4 = 3 := by omega
  have hA := Lib.hid (show memN n = if n / 32 = 3 then ⟨if n % 8 = 1 then 6 else 7, 0, sizeN (n / 8 % 4), false, decide (n % 8 = 3)⟩ else if n / 32 = 6 ∧ n % 8 = 3 ∧ 4 ≤ sizeN (n / 8 % 4) then ⟨8, 0, sizeN (n / 8 % 4), false, true⟩ else noPrt from rfl)
  obtain ⟨m, hm⟩ : ∃ m, m = n / 32 := ⟨_, rfl⟩
  rw [← hm] at h32 hA
  obtain ⟨h, hh⟩ : ∃ h, h = n / 8 := ⟨_, rfl⟩
  rw [← hh] at h16 h8 hA hr
  clear hm hh
  rcases hl with hl | hl | hl <;> rcases hr with hr | hr | hr | hr
  all_goals
    rw [hl] at h7 hA
    rw [hr] at h8 hA
    push_cast at h7 h8
    clear hl hr
    by_cases h3 : m = 3
    · subst h3
      go_enter Tryd.func119, Tryd.ntmps119
      go_wp2
      refine bodyPost_ret (v := .agg (memN n).cells.toArray) ?_ rfl ⟨rfl, ?_⟩
      · rw [hA.out]
        simp [results, Tryd.results119, go_sem, Prt.cells, sizeN]
      · repeat (first | exact Ext.refl _ _ | apply Ext.drew | apply Ext.alloc | (refine Ext.setCell ?_ (.inr (by simp; done)) _) | (refine Ext.setCell ?_ (.inr (by simp; omega)) _))
    · by_cases h6 : m = 6
      · subst h6
        go_enter Tryd.func119, Tryd.ntmps119
        go_wp2
        refine bodyPost_ret (v := .agg (memN n).cells.toArray) ?_ rfl ⟨rfl, ?_⟩
        · rw [hA.out]
          simp [results, Tryd.results119, go_sem, noPrt, Prt.cells, sizeN]
        · repeat (first | exact Ext.refl _ _ | apply Ext.drew | apply Ext.alloc | (refine Ext.setCell ?_ (.inr (by simp; done)) _) | (refine Ext.setCell ?_ (.inr (by simp; omega)) _))
      · have hb3 : ((m : Int) == 3) = false := by rw [beq_eq_false_iff_ne]; omega
        have hb6 : ((m : Int) == 6) = false := by rw [beq_eq_false_iff_ne]; omega
        go_enter Tryd.func119, Tryd.ntmps119
        go_wp2
        refine bodyPost_ret (v := .agg (memN n).cells.toArray) ?_ rfl ⟨rfl, ?_⟩
        · rw [hA.out, if_neg h3, if_neg (by omega)]
          simp [results, Tryd.results119, go_sem, noPrt, Prt.cells]
        · repeat (first | exact Ext.refl _ _ | apply Ext.drew | apply Ext.alloc | (refine Ext.setCell ?_ (.inr (by simp; done)) _) | (refine Ext.setCell ?_ (.inr (by simp; omega)) _))

end Go.Proofs.YtbjkfgfiifnjoaaDoor
