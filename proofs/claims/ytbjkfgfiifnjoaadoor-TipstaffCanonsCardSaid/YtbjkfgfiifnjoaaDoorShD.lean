/- Package shape: wide. -/
import Derived.Test.YtbjkfgfiifnjoaaDoorShC
namespace Go.Proofs.YtbjkfgfiifnjoaaDoor
open Go.RowKit
set_option maxRecDepth 100000

def wideM (x : Ins) : Option Ins → Bool
  | none => false
  | some y => decide (kindM y = 10) && decide (x.src.toNat ≤ 1) && (decide (x.src.toNat = 0) || (decide (0 ≤ x.imm.toInt) && decide (x.imm.toInt < 4) && decide (y.imm.toInt = 0)))

set_option maxHeartbeats 4000000 in
set_option maxRecDepth 100000 in
theorem wide_any (v : Value) (l : List Ins) (k : Nat) (w : World) (hr : Reads w v 5 l.length (insV l)) (hk : k < l.length) (hl : l.length ≤ 100000) :
    Calls Tryd.prog 89 #[v, .int .i64 (k : Int)] w fun e w' => e = .returned (.bool (wideM l[k] l[k + 1]?)) ∧ Ext [] w w' := by
  have HR := Lib.hid (fun (h0 : 0 < l.length) ao c (he : v = .slice ao l.length c) => ins_lit (he ▸ hr) h0)
  obtain ⟨ao, c, rfl, -, -, -⟩ := hr
  obtain ⟨bb, oo, rfl, hbb, hcells⟩ := HR.out (by omega) ao c rfl
  clear HR
  have hc := fun j (hj : j < 5) => hcells k hk j hj
  by_cases hn : k + 1 < l.length
  · have hd := fun j (hj : j < 5) => hcells (k + 1) hn j hj
    rw [List.getElem?_eq_getElem hn]
    have hk2 := kind_any l[k + 1]
    clear hcells
    generalize l[k] = x at *
    generalize l[k + 1] = y at *
    obtain ⟨R, hR⟩ : ∃ R, R = wideM x (some y) := ⟨_, rfl⟩
    have hcs : (kindM y ≠ 10 ∧ R = false) ∨ (kindM y = 10 ∧ 1 < x.src.toNat ∧ R = false) ∨ (kindM y = 10 ∧ x.src.toNat = 0 ∧ R = true) ∨ (kindM y = 10 ∧ x.src.toNat = 1 ∧ x.imm.toInt < 0 ∧ R = false) ∨ (kindM y = 10 ∧ x.src.toNat = 1 ∧ 0 ≤ x.imm.toInt ∧ 4 ≤ x.imm.toInt ∧ R = false) ∨ (kindM y = 10 ∧ x.src.toNat = 1 ∧ 0 ≤ x.imm.toInt ∧ x.imm.toInt < 4 ∧ y.imm.toInt = 0 ∧ R = true) ∨ (kindM y = 10 ∧ x.src.toNat = 1 ∧ 0 ≤ x.imm.toInt ∧ x.imm.toInt < 4 ∧ y.imm.toInt ≠ 0 ∧ R = false) := by
      rw [hR]
      unfold wideM
      by_cases a1 : kindM y = 10 <;> by_cases a2 : x.src.toNat ≤ 1 <;> by_cases a3 : x.src.toNat = 0 <;> by_cases a4 : 0 ≤ x.imm.toInt <;> by_cases a5 : x.imm.toInt < 4 <;> by_cases a6 : y.imm.toInt = 0 <;> simp [a1, a2, a3, a4, a5, a6] <;> omega
    rw [← hR]
    have HRR := Lib.hid hR
    clear hR HRR
    have HK := Lib.hid hk2
    clear hk2
    generalize kindM y = ky at *
    have hk2 := x.src.toNat_lt
    generalize hxs : x.src.toNat = xs at *
    generalize hxi : x.imm.toInt = xi at *
    generalize hyi : y.imm.toInt = yi at *
    have c0 := hc 0 (by omega)
    have c1 := hc 1 (by omega)
    have c2 := hc 2 (by omega)
    have c3 := hc 3 (by omega)
    have c4 := hc 4 (by omega)
    have d0 := hd 0 (by omega)
    have d1 := hd 1 (by omega)
    have d2 := hd 2 (by omega)
    have d3 := hd 3 (by omega)
    have d4 := hd 4 (by omega)
    simp only [Ins.cells, List.getElem?_cons_zero, List.getElem?_cons_succ, Nat.add_zero, hxs, hxi, hyi] at c0 c1 c2 c3 c4 d0 d1 d2 d3 d4
    have n1 : (k : Int) + 1 < (l.length : Int) := by omega
    have n2 : ¬ ((l.length : Int) ≤ (k : Int) + 1) := by omega
    have n3 : ((k : Int) + 1).toNat = k + 1 := by omega
    have HK2 := Lib.hid (fun w' => (show Calls Tryd.prog 49 #[.agg #[.int .u8 (y.op.toNat : Int), .int .u8 (y.dst.toNat : Int), .int .u8 (y.src.toNat : Int), .int .i16 y.off.toInt, .int .i32 yi]] w' (fun e w'' => e = .returned (.int .i64 (ky : Int)) ∧ Ext [] w' w'') from hyi ▸ HK.out w'))
    have HD4 := Lib.hid (fun w' (h : Ext [] w w') => (h.cell (p := ⟨bb, oo + (k + 1) * 5 + 4, none⟩) hbb (by simp)).trans d4)
    have HBX := Lib.hid (fun (cs : Array Value) (w2 : World) (h : Ext [] (w.alloc (.cells cs 25)) w2) => (Blk.new w 25 cs).ext h (by simp))
    clear hc hd HK hxs hxi hyi
    rcases hcs with ⟨k10, rfl⟩ | ⟨rfl, s1, rfl⟩ | ⟨rfl, rfl, rfl⟩ | ⟨rfl, rfl, i0, rfl⟩ | ⟨rfl, rfl, i0, i4, rfl⟩ | ⟨rfl, rfl, i0, i4, rfl, rfl⟩ | ⟨rfl, rfl, i0, i4, y0, rfl⟩
    all_goals
      try (have q10 : ((ky : Int) == 10) = false := by rw [beq_eq_false_iff_ne]; omega)
      try (have qy : (yi == 0) = false := by rw [beq_eq_false_iff_ne]; omega)
      try (have q0 : ((xs : Int) == 0) = false := by rw [beq_eq_false_iff_ne]; omega)
      go_enter Tryd.func89, Tryd.ntmps89
      go_wp2_with fail
      refine (HK2.out _).mono ?_
      rintro e w2 ⟨rfl, x2⟩
      have B2 := HBX.out _ _ x2
      have x3 := ((Ext.refl [] w).alloc _).trans x2
      have e2 := B2.cell 2
      have e4 := B2.cell 4
      have f4 := HD4.out w2 x3
      simp only [List.getElem?_cons_zero, List.getElem?_cons_succ] at e2 e4
      go_wp2_with fail
      go_ret
      exact ⟨rfl, x3⟩
  · rw [List.getElem?_eq_none (by omega)]
    clear hcells
    generalize l[k] = x at *
    have c0 := hc 0 (by omega)
    have c1 := hc 1 (by omega)
    have c2 := hc 2 (by omega)
    have c3 := hc 3 (by omega)
    have c4 := hc 4 (by omega)
    simp only [Ins.cells, List.getElem?_cons_zero, List.getElem?_cons_succ, Nat.add_zero] at c0 c1 c2 c3 c4
    have n2 : (l.length : Int) ≤ (k : Int) + 1 := by omega
    clear hc
    go_enter Tryd.func89, Tryd.ntmps89
    go_wp2_with fail
    go_ret
    exact ⟨rfl, by repeat (first | exact Ext.refl _ _ | apply Ext.drew | apply Ext.alloc)⟩
end Go.Proofs.YtbjkfgfiifnjoaaDoor
