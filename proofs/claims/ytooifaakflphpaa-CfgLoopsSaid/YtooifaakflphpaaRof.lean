/- The reference's Of: an operation's parts. -/
import Derived.Test.YtooifaakflphpaaRofA
import Derived.Test.YtooifaakflphpaaRofJ
import Derived.Test.YtooifaakflphpaaRofM1
import Derived.Test.YtooifaakflphpaaRofM2
import Derived.Test.YtooifaakflphpaaRofM3
namespace Go.Proofs.Ytooifaakflphpaa
open Go.RowKit
set_option maxRecDepth 100000

set_option maxHeartbeats 4000000 in
set_option maxRecDepth 100000 in
theorem rof_zero (n : Nat) (hn : n < 256) (w : World) (hl : n % 8 = 0) :
    Calls Try.prog 21 #[.int .u8 (n : Int)] w fun e w' => e = .returned (.agg (partsN n).cells.toArray) ∧ Ext [] w w' := by
  have hA := Lib.hid (show partsN n = (if n = 24 then ⟨9, 0, 8, false, false⟩ else if n = 0 then ⟨10, 0, 0, false, false⟩ else noPrt) by unfold partsN; rw [if_neg (by omega), if_neg (by omega), if_pos hl])
  have hc7 : ((n : Int) % 8) = 0 := by omega
  by_cases h24 : n = 24
  · subst h24
    go_enter Try.func21, Try.ntmps21
    go_wp2
    refine bodyPost_ret (v := .agg (partsN 24).cells.toArray) ?_ rfl ⟨rfl, ?_⟩
    · rw [hA.out]
      simp [results, Try.results21, go_sem, Prt.cells]
    · repeat (first | exact Ext.refl _ _ | apply Ext.drew | apply Ext.alloc | (refine Ext.setCell ?_ (.inr (by simp; done)) _) | (refine Ext.setCell ?_ (.inr (by simp; omega)) _))
  · by_cases h0 : n = 0
    · subst h0
      go_enter Try.func21, Try.ntmps21
      go_wp2
      refine bodyPost_ret (v := .agg (partsN 0).cells.toArray) ?_ rfl ⟨rfl, ?_⟩
      · rw [hA.out]
        simp [results, Try.results21, go_sem, Prt.cells]
      · repeat (first | exact Ext.refl _ _ | apply Ext.drew | apply Ext.alloc | (refine Ext.setCell ?_ (.inr (by simp; done)) _) | (refine Ext.setCell ?_ (.inr (by simp; omega)) _))
    · have hb0 : ((n : Int) == 0) = false := by rw [beq_eq_false_iff_ne]; omega
      have hb24 : ((n : Int) == 24) = false := by rw [beq_eq_false_iff_ne]; omega
      go_enter Try.func21, Try.ntmps21
      go_wp2
      refine bodyPost_ret (v := .agg (partsN n).cells.toArray) ?_ rfl ⟨rfl, ?_⟩
      · rw [hA.out, if_neg h24, if_neg h0]
        simp [results, Try.results21, go_sem, noPrt, Prt.cells]
      · repeat (first | exact Ext.refl _ _ | apply Ext.drew | apply Ext.alloc | (refine Ext.setCell ?_ (.inr (by simp; done)) _) | (refine Ext.setCell ?_ (.inr (by simp; omega)) _))

theorem rof_any (n : Nat) (hn : n < 256) (w : World) :
    Calls Try.prog 21 #[.int .u8 (n : Int)] w fun e w' => e = .returned (.agg (partsN n).cells.toArray) ∧ Ext [] w w' := by
  have hr : n % 8 = 0 ∨ n % 8 = 1 ∨ n % 8 = 2 ∨ n % 8 = 3 ∨ n % 8 = 4 ∨ n % 8 = 5 ∨ n % 8 = 6 ∨ n % 8 = 7 := by omega
  have h0 := rof_zero n hn w
  unfold partsN at h0 ⊢
  rcases hr with hr | hr | hr | hr | hr | hr | hr | hr
  · exact h0 hr
  · rw [if_neg (by omega), if_neg (by omega), if_neg (by omega)]; exact rof_mem1 n hn w hr
  · rw [if_neg (by omega), if_neg (by omega), if_neg (by omega)]; exact rof_mem2 n hn w hr
  · rw [if_neg (by omega), if_neg (by omega), if_neg (by omega)]; exact rof_mem3 n hn w hr
  · rw [if_pos (by omega)]; exact rof_alu n hn w (by omega)
  · rw [if_neg (by omega), if_pos (by omega)]; exact rof_jump n hn w (by omega)
  · rw [if_neg (by omega), if_pos (by omega)]; exact rof_jump n hn w (by omega)
  · rw [if_pos (by omega)]; exact rof_alu n hn w (by omega)
end Go.Proofs.Ytooifaakflphpaa
