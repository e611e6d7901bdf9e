/- Package shape: fields, helpers, jumps. -/
import Derived.Test.YtbjkfgfiifnjoaaDoorShA
namespace Go.Proofs.YtbjkfgfiifnjoaaDoor
open Go.RowKit
set_option maxRecDepth 100000

def plainM (x : Ins) (f : Fld) : Bool :=
  decide (x.dst.toNat < 11) && decide (x.src.toNat < 11) && (f.dst || decide (x.dst.toNat = 0)) && (f.src || decide (x.src.toNat = 0)) && (f.off || decide (x.off.toInt = 0)) && (f.imm || decide (x.imm.toInt = 0))

set_option maxHeartbeats 8000000 in
set_option maxRecDepth 100000 in
theorem plain_any (x : Ins) (f : Fld) (w : World) :
    Calls Tryd.prog 83 #[.agg x.cells.toArray, .agg f.cells.toArray] w fun e w' => e = .returned (.bool (plainM x f)) ∧ Ext [] w w' := by
  have HM := Lib.hid (show plainM x f = (decide (x.dst.toNat < 11) && decide (x.src.toNat < 11) && (f.dst || decide (x.dst.toNat = 0)) && (f.src || decide (x.src.toNat = 0)) && (f.off || decide (x.off.toInt = 0)) && (f.imm || decide (x.imm.toInt = 0))) from rfl)
  obtain ⟨fd, fs, fo, fi⟩ := f
  simp only [Ins.cells, Fld.cells] at HM ⊢
  generalize plainM x ⟨fd, fs, fo, fi⟩ = res at *
  have hd0 := Int.natCast_nonneg x.dst.toNat
  have hs0 := Int.natCast_nonneg x.src.toNat
  obtain ⟨d, hd⟩ : ∃ d, d = x.dst.toNat := ⟨_, rfl⟩
  obtain ⟨s, hs⟩ : ∃ s, s = x.src.toNat := ⟨_, rfl⟩
  rw [← hd] at HM ⊢
  rw [← hs] at HM ⊢
  generalize x.off.toInt = o at *
  generalize x.imm.toInt = i at *
  clear hd hs hd0 hs0
  by_cases h1 : 11 ≤ d
  · rw [decide_eq_false (p := d < 11) (by omega)] at HM
    go_enter Tryd.func83, Tryd.ntmps83
    go_wp2
    go_ret
    exact ⟨by rw [HM.out]; rfl, by repeat (first | exact Ext.refl _ _ | apply Ext.drew | apply Ext.alloc)⟩
  by_cases h2 : 11 ≤ s
  · rw [decide_eq_false (p := s < 11) (by omega), Bool.and_false] at HM
    go_enter Tryd.func83, Tryd.ntmps83
    go_wp2
    go_ret
    exact ⟨by rw [HM.out]; rfl, by repeat (first | exact Ext.refl _ _ | apply Ext.drew | apply Ext.alloc)⟩
  rw [decide_eq_true (p := d < 11) (by omega), decide_eq_true (p := s < 11) (by omega), Bool.true_and, Bool.true_and] at HM
  by_cases h3 : fd = false ∧ d ≠ 0
  · obtain ⟨rfl, h3⟩ := h3
    rw [decide_eq_false h3] at HM
    have q3 : ((d : Int) == 0) = false := by rw [beq_eq_false_iff_ne]; omega
    go_enter Tryd.func83, Tryd.ntmps83
    go_wp2
    go_ret
    exact ⟨by rw [HM.out]; rfl, by repeat (first | exact Ext.refl _ _ | apply Ext.drew | apply Ext.alloc)⟩
  have g3 : (fd || decide (d = 0)) = true := by cases fd <;> simp at h3 ⊢; exact h3
  have k3 : fd = true ∨ fd = false ∧ d = 0 := by cases fd <;> simp at h3 ⊢; exact h3
  rw [g3, Bool.true_and] at HM
  clear h3 g3
  by_cases h4 : fs = false ∧ s ≠ 0
  · obtain ⟨rfl, h4⟩ := h4
    rw [decide_eq_false h4] at HM
    have q4 : ((s : Int) == 0) = false := by rw [beq_eq_false_iff_ne]; omega
    rcases k3 with rfl | ⟨rfl, rfl⟩
    all_goals
      go_enter Tryd.func83, Tryd.ntmps83
      go_wp2
      go_ret
      exact ⟨by rw [HM.out]; rfl, by repeat (first | exact Ext.refl _ _ | apply Ext.drew | apply Ext.alloc)⟩
  have g4 : (fs || decide (s = 0)) = true := by cases fs <;> simp at h4 ⊢; exact h4
  have k4 : fs = true ∨ fs = false ∧ s = 0 := by cases fs <;> simp at h4 ⊢; exact h4
  rw [g4, Bool.true_and] at HM
  clear h4 g4
  by_cases h5 : fo = false ∧ o ≠ 0
  · obtain ⟨rfl, h5⟩ := h5
    rw [decide_eq_false h5] at HM
    have q5 : (o == 0) = false := by rw [beq_eq_false_iff_ne]; omega
    rcases k3 with rfl | ⟨rfl, rfl⟩ <;> rcases k4 with rfl | ⟨rfl, rfl⟩
    all_goals
      go_enter Tryd.func83, Tryd.ntmps83
      go_wp2
      go_ret
      exact ⟨by rw [HM.out]; rfl, by repeat (first | exact Ext.refl _ _ | apply Ext.drew | apply Ext.alloc)⟩
  have g5 : (fo || decide (o = 0)) = true := by cases fo <;> simp at h5 ⊢; exact h5
  have k5 : fo = true ∨ fo = false ∧ o = 0 := by cases fo <;> simp at h5 ⊢; exact h5
  rw [g5, Bool.true_and] at HM
  clear h5 g5
  by_cases h6 : fi = false ∧ i ≠ 0
  · obtain ⟨rfl, h6⟩ := h6
    rw [decide_eq_false h6] at HM
    have q6 : (i == 0) = false := by rw [beq_eq_false_iff_ne]; omega
    rcases k3 with rfl | ⟨rfl, rfl⟩ <;> rcases k4 with rfl | ⟨rfl, rfl⟩ <;> rcases k5 with rfl | ⟨rfl, rfl⟩
    all_goals
      go_enter Tryd.func83, Tryd.ntmps83
      go_wp2
      go_ret
      exact ⟨by rw [HM.out]; rfl, by repeat (first | exact Ext.refl _ _ | apply Ext.drew | apply Ext.alloc)⟩
  have g6 : (fi || decide (i = 0)) = true := by cases fi <;> simp at h6 ⊢; exact h6
  have k6 : fi = true ∨ fi = false ∧ i = 0 := by cases fi <;> simp at h6 ⊢; exact h6
  rw [g6] at HM
  clear h6 g6
  rcases k3 with rfl | ⟨rfl, rfl⟩ <;> rcases k4 with rfl | ⟨rfl, rfl⟩ <;> rcases k5 with rfl | ⟨rfl, rfl⟩ <;> rcases k6 with rfl | ⟨rfl, rfl⟩
  all_goals
    go_enter Tryd.func83, Tryd.ntmps83
    go_wp2
    go_ret
    exact ⟨by rw [HM.out]; rfl, by repeat (first | exact Ext.refl _ _ | apply Ext.drew | apply Ext.alloc)⟩
end Go.Proofs.YtbjkfgfiifnjoaaDoor
