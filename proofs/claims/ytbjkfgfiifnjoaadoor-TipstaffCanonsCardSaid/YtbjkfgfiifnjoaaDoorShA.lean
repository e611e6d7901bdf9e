/- Package shape: the small questions. -/
import Derived.Test.YtbjkfgfiifnjoaaDoorShare
import Derived.Test.YtbjkfgfiifnjoaaDoorOf
namespace Go.Proofs.YtbjkfgfiifnjoaaDoor
open Go.RowKit
set_option maxRecDepth 100000

/-- The fields that an instruction may have. -/
structure Fld where
  dst : Bool
  src : Bool
  off : Bool
  imm : Bool
  deriving DecidableEq
def Fld.cells (f : Fld) : List Value := [.bool f.dst, .bool f.src, .bool f.off, .bool f.imm]

def namedM (p : Prt) : Fld :=
  if p.kind = 1 then ⟨true, p.reg, false, !p.reg && decide (p.op ≠ 8)⟩
  else if p.kind = 2 ∨ p.kind = 7 then ⟨true, p.reg, true, !p.reg⟩
  else if p.kind = 3 then ⟨false, false, true, false⟩
  else if p.kind = 4 ∨ p.kind = 10 then ⟨false, false, false, true⟩
  else if p.kind = 6 then ⟨true, true, true, false⟩
  else if p.kind = 8 then ⟨true, true, true, true⟩
  else if p.kind = 9 then ⟨true, true, false, true⟩
  else ⟨false, false, false, false⟩

set_option maxHeartbeats 4000000 in
set_option maxRecDepth 100000 in
theorem named_any (p : Prt) (w : World) :
    Calls Tryd.prog 84 #[.agg p.cells.toArray] w fun e w' => e = .returned (.agg (namedM p).cells.toArray) ∧ Ext [] w w' := by
  have HM := Lib.hid (show namedM p = if p.kind = 1 then ⟨true, p.reg, false, !p.reg && decide (p.op ≠ 8)⟩ else if p.kind = 2 ∨ p.kind = 7 then ⟨true, p.reg, true, !p.reg⟩ else if p.kind = 3 then ⟨false, false, true, false⟩ else if p.kind = 4 ∨ p.kind = 10 then ⟨false, false, false, true⟩ else if p.kind = 6 then ⟨true, true, true, false⟩ else if p.kind = 8 then ⟨true, true, true, true⟩ else if p.kind = 9 then ⟨true, true, false, true⟩ else ⟨false, false, false, false⟩ from rfl)
  obtain ⟨kind, op, size, long, reg⟩ := p
  simp only [Prt.cells] at HM ⊢
  have hk : kind = 1 ∨ kind = 2 ∨ kind = 3 ∨ kind = 4 ∨ kind = 6 ∨ kind = 7 ∨ kind = 8 ∨ kind = 9 ∨ kind = 10 ∨ (kind ≠ 1 ∧ kind ≠ 2 ∧ kind ≠ 3 ∧ kind ≠ 4 ∧ kind ≠ 6 ∧ kind ≠ 7 ∧ kind ≠ 8 ∧ kind ≠ 9 ∧ kind ≠ 10) := by omega
  rcases hk with rfl | rfl | rfl | rfl | rfl | rfl | rfl | rfl | rfl | ⟨k1, k2, k3, k4, k6, k7, k8, k9, k10⟩
  · by_cases h8 : op = 8
    · subst h8
      cases reg
      all_goals
        go_enter Tryd.func84, Tryd.ntmps84
        go_wp2
        refine bodyPost_ret (v := .agg (namedM _).cells.toArray) ?_ rfl ⟨rfl, ?_⟩
        · rw [HM.out]
          simp [results, Tryd.results84, go_sem, Fld.cells]
        · repeat (first | exact Ext.refl _ _ | apply Ext.drew | apply Ext.alloc | (refine Ext.setCell ?_ (.inr (by simp; done)) _) | (refine Ext.setCell ?_ (.inr (by simp; omega)) _))
    · have hb8 : ((op : Int) == 8) = false := by rw [beq_eq_false_iff_ne]; omega
      cases reg
      all_goals
        go_enter Tryd.func84, Tryd.ntmps84
        go_wp2
        refine bodyPost_ret (v := .agg (namedM _).cells.toArray) ?_ rfl ⟨rfl, ?_⟩
        · rw [HM.out]
          simp [results, Tryd.results84, go_sem, Fld.cells, h8] <;> omega
        · repeat (first | exact Ext.refl _ _ | apply Ext.drew | apply Ext.alloc | (refine Ext.setCell ?_ (.inr (by simp; done)) _) | (refine Ext.setCell ?_ (.inr (by simp; omega)) _))
  all_goals
    try (have e1 : ((kind : Int) == 1) = false := by rw [beq_eq_false_iff_ne]; omega)
    try (have e2 : ((kind : Int) == 2) = false := by rw [beq_eq_false_iff_ne]; omega)
    try (have e3 : ((kind : Int) == 3) = false := by rw [beq_eq_false_iff_ne]; omega)
    try (have e4 : ((kind : Int) == 4) = false := by rw [beq_eq_false_iff_ne]; omega)
    try (have e6 : ((kind : Int) == 6) = false := by rw [beq_eq_false_iff_ne]; omega)
    try (have e7 : ((kind : Int) == 7) = false := by rw [beq_eq_false_iff_ne]; omega)
    try (have e8 : ((kind : Int) == 8) = false := by rw [beq_eq_false_iff_ne]; omega)
    try (have e9 : ((kind : Int) == 9) = false := by rw [beq_eq_false_iff_ne]; omega)
    try (have e10 : ((kind : Int) == 10) = false := by rw [beq_eq_false_iff_ne]; omega)
    go_enter Tryd.func84, Tryd.ntmps84
    go_wp2
    refine bodyPost_ret (v := .agg (namedM _).cells.toArray) ?_ rfl ⟨rfl, ?_⟩
    · rw [HM.out]
      simp [results, Tryd.results84, go_sem, Fld.cells, *]
    · repeat (first | exact Ext.refl _ _ | apply Ext.drew | apply Ext.alloc | (refine Ext.setCell ?_ (.inr (by simp; done)) _) | (refine Ext.setCell ?_ (.inr (by simp; omega)) _))
end Go.Proofs.YtbjkfgfiifnjoaaDoor
