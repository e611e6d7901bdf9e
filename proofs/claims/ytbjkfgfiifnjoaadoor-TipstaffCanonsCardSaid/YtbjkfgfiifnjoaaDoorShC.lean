/- Package shape: writes, constant, atomic, Args, Target, kind. -/
import Derived.Test.YtbjkfgfiifnjoaaDoorShA
namespace Go.Proofs.YtbjkfgfiifnjoaaDoor
open Go.RowKit
set_option maxRecDepth 100000

def writesM (k : Nat) : Bool := decide (k = 1) || decide (k = 6) || decide (k = 9)
theorem writes_any (k : Nat) (w : World) :
    Calls Tryd.prog 85 #[.int .i64 (k : Int)] w fun e w' => e = .returned (.bool (writesM k)) ∧ w' = w := by
  have HM := Lib.hid (show writesM k = (decide (k = 1) || decide (k = 6) || decide (k = 9)) from rfl)
  generalize writesM k = res at *
  have hk : k = 1 ∨ k = 6 ∨ k = 9 ∨ (k ≠ 1 ∧ k ≠ 6 ∧ k ≠ 9) := by omega
  rcases hk with rfl | rfl | rfl | ⟨k1, k6, k9⟩
  · go_enter Tryd.func85, Tryd.ntmps85
    go_wp2
    go_ret
    exact ⟨by rw [HM.out]; rfl, rfl⟩
  · go_enter Tryd.func85, Tryd.ntmps85
    go_wp2
    go_ret
    exact ⟨by rw [HM.out]; rfl, rfl⟩
  · go_enter Tryd.func85, Tryd.ntmps85
    go_wp2
    go_ret
    exact ⟨by rw [HM.out]; rfl, rfl⟩
  · have e1 : ((k : Int) == 1) = false := by rw [beq_eq_false_iff_ne]; omega
    have e6 : ((k : Int) == 6) = false := by rw [beq_eq_false_iff_ne]; omega
    have e9 : ((k : Int) == 9) = false := by rw [beq_eq_false_iff_ne]; omega
    rw [decide_eq_false k1, decide_eq_false k6, decide_eq_false k9] at HM
    clear k1 k6 k9
    go_enter Tryd.func85, Tryd.ntmps85
    go_wp2
    go_ret
    exact ⟨by rw [HM.out]; rfl, rfl⟩

def constM (p : Prt) (imm : Int) : Bool :=
  if p.reg then true
  else if p.op = 3 ∨ p.op = 9 then decide (imm ≠ 0)
  else if p.op = 6 ∨ p.op = 7 ∨ p.op = 12 then decide (0 ≤ imm) && decide (imm ≤ if p.long then 63 else 31)
  else true

set_option maxHeartbeats 4000000 in
theorem constant_any (p : Prt) (imm : Int) (w : World) :
    Calls Tryd.prog 86 #[.agg p.cells.toArray, .int .i32 imm] w fun e w' => e = .returned (.bool (constM p imm)) ∧ Ext [] w w' := by
  have HM := Lib.hid (show constM p imm = if p.reg then true else if p.op = 3 ∨ p.op = 9 then decide (imm ≠ 0) else if p.op = 6 ∨ p.op = 7 ∨ p.op = 12 then decide (0 ≤ imm) && decide (imm ≤ if p.long then 63 else 31) else true from rfl)
  generalize constM p imm = res at *
  obtain ⟨kind, op, size, long, reg⟩ := p
  simp only [Prt.cells] at HM ⊢
  cases reg
  · have hop : op = 3 ∨ op = 9 ∨ (op = 6 ∨ op = 7 ∨ op = 12) ∨ (op ≠ 3 ∧ op ≠ 9 ∧ op ≠ 6 ∧ op ≠ 7 ∧ op ≠ 12) := by omega
    have hz : imm = 0 ∨ (imm ≠ 0 ∧ imm < 0) ∨ (0 < imm ∧ imm ≤ 31) ∨ (31 < imm ∧ imm ≤ 63) ∨ 63 < imm := by omega
    rcases hop with rfl | rfl | h | ⟨k3, k9, k6, k7, k12⟩
    · rcases hz with rfl | ⟨z0, zn⟩ | ⟨z0, z1⟩ | ⟨z0, z1⟩ | z0
      all_goals
        try (have q0 : (imm == 0) = false := by rw [beq_eq_false_iff_ne]; omega)
        try (have r0 : imm ≠ 0 := by omega)
        go_enter Tryd.func86, Tryd.ntmps86
        go_wp2
        go_ret
        exact ⟨by rw [HM.out]; simp [*], by repeat (first | exact Ext.refl _ _ | apply Ext.drew | apply Ext.alloc)⟩
    · rcases hz with rfl | ⟨z0, zn⟩ | ⟨z0, z1⟩ | ⟨z0, z1⟩ | z0
      all_goals
        try (have q0 : (imm == 0) = false := by rw [beq_eq_false_iff_ne]; omega)
        try (have r0 : imm ≠ 0 := by omega)
        go_enter Tryd.func86, Tryd.ntmps86
        go_wp2
        go_ret
        exact ⟨by rw [HM.out]; simp [*], by repeat (first | exact Ext.refl _ _ | apply Ext.drew | apply Ext.alloc)⟩
    · rcases h with rfl | rfl | rfl <;> rcases hz with rfl | ⟨z0, zn⟩ | ⟨z0, z1⟩ | ⟨z0, z1⟩ | z0 <;> cases long
      all_goals
        try (have r1 : decide (0 ≤ imm) = true := decide_eq_true (by omega))
        try (have r1 : decide (0 ≤ imm) = false := decide_eq_false (by omega))
        try (have r2 : decide (imm ≤ 63) = true := decide_eq_true (by omega))
        try (have r2 : decide (imm ≤ 63) = false := decide_eq_false (by omega))
        try (have r3 : decide (imm ≤ 31) = true := decide_eq_true (by omega))
        try (have r3 : decide (imm ≤ 31) = false := decide_eq_false (by omega))
        go_enter Tryd.func86, Tryd.ntmps86
        go_wp2
        go_ret
        exact ⟨by rw [HM.out]; simp [*] <;> omega, by repeat (first | exact Ext.refl _ _ | apply Ext.drew | apply Ext.alloc)⟩
    · have e3 : ((op : Int) == 3) = false := by rw [beq_eq_false_iff_ne]; omega
      have e9 : ((op : Int) == 9) = false := by rw [beq_eq_false_iff_ne]; omega
      have e6 : ((op : Int) == 6) = false := by rw [beq_eq_false_iff_ne]; omega
      have e7 : ((op : Int) == 7) = false := by rw [beq_eq_false_iff_ne]; omega
      have e12 : ((op : Int) == 12) = false := by rw [beq_eq_false_iff_ne]; omega
      go_enter Tryd.func86, Tryd.ntmps86
      go_wp2
      go_ret
      exact ⟨by rw [HM.out]; simp [*], by repeat (first | exact Ext.refl _ _ | apply Ext.drew | apply Ext.alloc)⟩
  · go_enter Tryd.func86, Tryd.ntmps86
    go_wp2
    go_ret
    exact ⟨by rw [HM.out]; rfl, by repeat (first | exact Ext.refl _ _ | apply Ext.drew | apply Ext.alloc)⟩

def atomicM (imm : Int) : Bool := decide (imm = 0) || decide (imm = 64) || decide (imm = 80) || decide (imm = 160)
theorem atomic_any (imm : Int) (w : World) :
    Calls Tryd.prog 88 #[.int .i32 imm] w fun e w' => e = .returned (.bool (atomicM imm)) ∧ w' = w := by
  have HM := Lib.hid (show atomicM imm = (decide (imm = 0) || decide (imm = 64) || decide (imm = 80) || decide (imm = 160)) from rfl)
  generalize atomicM imm = res at *
  have hk : imm = 0 ∨ imm = 64 ∨ imm = 80 ∨ imm = 160 ∨ (imm ≠ 0 ∧ imm ≠ 64 ∧ imm ≠ 80 ∧ imm ≠ 160) := by omega
  rcases hk with rfl | rfl | rfl | rfl | ⟨k0, k1, k2, k3⟩
  all_goals
    try (have e0 : (imm == 0) = false := by rw [beq_eq_false_iff_ne]; omega)
    try (have e1 : (imm == 64) = false := by rw [beq_eq_false_iff_ne]; omega)
    try (have e2 : (imm == 80) = false := by rw [beq_eq_false_iff_ne]; omega)
    try (have e3 : (imm == 160) = false := by rw [beq_eq_false_iff_ne]; omega)
    go_enter Tryd.func88, Tryd.ntmps88
    go_wp2
    go_ret
    exact ⟨by rw [HM.out]; simp [*], rfl⟩

/-- How many arguments a helper has; -1: there is no such one. -/
def argsM (h : Int) : Int := if h = 1 ∨ h = 3 ∨ h = 88 ∨ h = 89 then 2 else if h = 2 then 4 else if h = 5 ∨ h = 7 then 0 else if h = 87 then 3 else -1
set_option maxHeartbeats 2000000 in
theorem args_any (h : Int) (w : World) :
    Calls Tryd.prog 87 #[.int .i32 h] w fun e w' => e = .returned (.tuple #[.int .i64 (if argsM h < 0 then 0 else argsM h), .bool (decide (0 ≤ argsM h))]) ∧ w' = w := by
  have hk : h = 1 ∨ h = 3 ∨ h = 88 ∨ h = 89 ∨ h = 2 ∨ h = 5 ∨ h = 7 ∨ h = 87 ∨ (h ≠ 1 ∧ h ≠ 3 ∧ h ≠ 88 ∧ h ≠ 89 ∧ h ≠ 2 ∧ h ≠ 5 ∧ h ≠ 7 ∧ h ≠ 87) := by omega
  rcases hk with rfl | rfl | rfl | rfl | rfl | rfl | rfl | rfl | ⟨k1, k2, k3, k4, k5, k6, k7, k8⟩
  all_goals
    try rw [show argsM h = -1 by unfold argsM; rw [if_neg (by omega), if_neg (by omega), if_neg (by omega), if_neg (by omega)]]
    try (have e0 : (h == 1) = false := by rw [beq_eq_false_iff_ne]; omega)
    try (have e1 : (h == 3) = false := by rw [beq_eq_false_iff_ne]; omega)
    try (have e2 : (h == 88) = false := by rw [beq_eq_false_iff_ne]; omega)
    try (have e3 : (h == 89) = false := by rw [beq_eq_false_iff_ne]; omega)
    try (have e4 : (h == 2) = false := by rw [beq_eq_false_iff_ne]; omega)
    try (have e5 : (h == 5) = false := by rw [beq_eq_false_iff_ne]; omega)
    try (have e6 : (h == 7) = false := by rw [beq_eq_false_iff_ne]; omega)
    try (have e7 : (h == 87) = false := by rw [beq_eq_false_iff_ne]; omega)
    go_enter Tryd.func87, Tryd.ntmps87
    go_wp2
    go_ret2
    exact ⟨rfl, rfl⟩

set_option maxHeartbeats 1000000 in
theorem target_any (k : Int) (x : Ins) (w : World) (hk : -4611686018427387904 ≤ k ∧ k ≤ 4611686018427387904) :
    Calls Tryd.prog 90 #[.int .i64 k, .agg x.cells.toArray] w fun e w' => e = .returned (.int .i64 (k + x.off.toInt + 1)) ∧ Ext [] w w' := by
  obtain ⟨k1, k2⟩ := hk
  have ho1 : -32768 ≤ x.off.toInt := by have := x.off.le_toInt; simpa using this
  have ho2 : x.off.toInt ≤ 32767 := by have := x.off.toInt_lt; simp at this; omega
  simp only [Ins.cells]
  go_enter Tryd.func90, Tryd.ntmps90
  go_wp2
  go_ret
  exact ⟨rfl, by repeat (first | exact Ext.refl _ _ | apply Ext.drew | apply Ext.alloc)⟩

def kindM (x : Ins) : Nat := (partsN x.op.toNat).kind
set_option maxHeartbeats 1000000 in
theorem kind_any (x : Ins) (w : World) :
    Calls Tryd.prog 49 #[.agg x.cells.toArray] w fun e w' => e = .returned (.int .i64 (kindM x : Int)) ∧ Ext [] w w' := by
  have hfk := fun (k : Int) (b c d e : Value) (w : World) => (show (Instr.field 169 (.agg #[.int .i64 k, b, c, d, e]) 0).run Tryd.prog w = .ok (.int .i64 k) w from by kernel_rfl)
  have hof := Lib.hid (fun w' => of_any x.op.toNat x.op.toNat_lt w')
  have HM := Lib.hid (show kindM x = (partsN x.op.toNat).kind from rfl)
  generalize partsN x.op.toNat = p at *
  obtain ⟨kind, op, size, long, reg⟩ := p
  simp only [Prt.cells] at hof HM
  go_enter Tryd.func49, Tryd.ntmps49
  go_upto_region 1 with (fail)
  have B := Blk.new w 25 x.cells.toArray
  have x1 : Ext [] w (w.alloc (.cells x.cells.toArray 25)) := (Ext.refl _ _).alloc _
  show Code.wp _ _ _ _ (w.alloc (.cells x.cells.toArray 25))
  generalize w.alloc (.cells x.cells.toArray 25) = w1 at *
  have c0 := B.cell 0
  simp only [Ins.cells, List.getElem?_cons_zero] at c0
  go_wp2_with fail
  refine (hof.out w1).mono ?_
  rintro e w2 ⟨rfl, x2⟩
  go_wp2_with fail
  go_ret
  exact ⟨by rw [HM.out]; rfl, x1.trans x2⟩
end Go.Proofs.YtbjkfgfiifnjoaaDoor
