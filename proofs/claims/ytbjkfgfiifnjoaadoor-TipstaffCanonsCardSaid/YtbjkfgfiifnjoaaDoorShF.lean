/- Package shape: lands, Check. -/
import Derived.Test.YtbjkfgfiifnjoaaDoorShE
namespace Go.Proofs.YtbjkfgfiifnjoaaDoor
open Go.RowKit
set_option maxRecDepth 100000

def landX (l : List Ins) (t : Int) : Bool := decide (0 ≤ t) && (match l[t.toNat]? with | none => false | some z => decide (kindM z ≠ 10))
def landsM (l : List Ins) (k : Nat) : Bool := match l[k]? with
  | none => false
  | some x => if kindM x ≠ 2 ∧ kindM x ≠ 3 then true else landX l ((k : Int) + x.off.toInt + 1)

set_option maxHeartbeats 4000000 in
set_option maxRecDepth 100000 in
theorem lands_any (v : Value) (l : List Ins) (k : Nat) (w : World) (hr : Reads w v 5 l.length (insV l)) (hk : k < l.length) (hl : l.length ≤ 100000) :
    Calls Tryd.prog 48 #[v, .int .i64 (k : Int)] w fun e w' => e = .returned (.bool (landsM l k)) ∧ Ext [] w w' := by
  have hRM : landsM l k = if kindM l[k] ≠ 2 ∧ kindM l[k] ≠ 3 then true else landX l ((k : Int) + l[k].off.toInt + 1) := by unfold landsM; rw [List.getElem?_eq_getElem hk]
  rw [hRM]
  have HR := Lib.hid (fun (h0 : 0 < l.length) ao c (he : v = .slice ao l.length c) => ins_lit (he ▸ hr) h0)
  obtain ⟨ao, c, rfl, -, -, -⟩ := hr
  obtain ⟨bb, oo, rfl, hbb, hcells⟩ := HR.out (by omega) ao c rfl
  have HCA := Lib.hid hcells
  have HCX := Lib.hid (fun w' (x' : Ext [] w w') j (hj : j < 5) => (x'.cell (p := ⟨bb, oo + k * 5 + j, none⟩) hbb (by simp)).trans (hcells k hk j hj))
  clear hcells HR hRM
  generalize l[k] = x at *
  have HKX := Lib.hid (fun w' => kind_any x w')
  have ho1 : -32768 ≤ x.off.toInt := by have := x.off.le_toInt; simpa using this
  have ho2 : x.off.toInt ≤ 32767 := by have := x.off.toInt_lt; simp at this; omega
  have HTG := Lib.hid (fun w' => target_any (k : Int) x w' (by omega))
  obtain ⟨R, hR⟩ : ∃ R, R = if kindM x ≠ 2 ∧ kindM x ≠ 3 then true else landX l ((k : Int) + x.off.toInt + 1) := ⟨_, rfl⟩
  rw [← hR]
  have HRR := Lib.hid hR
  clear hR
  have hc := HCX.out w (Ext.refl _ _)
  have c0 := hc 0 (by omega)
  have c1 := hc 1 (by omega)
  have c2 := hc 2 (by omega)
  have c3 := hc 3 (by omega)
  have c4 := hc 4 (by omega)
  simp only [Ins.cells, List.getElem?_cons_zero, List.getElem?_cons_succ, Nat.add_zero] at c0 c1 c2 c3 c4
  clear hc
  go_enter Tryd.func48, Tryd.ntmps48
  go_wp2_with fail
  refine (HKX.out w).mono ?_
  rintro e w1 ⟨rfl, x1⟩
  clear c0 c1 c2 c3 c4
  generalize kindM x = kx at *
  by_cases hkx : kx ≠ 2 ∧ kx ≠ 3
  · have HRT := Lib.hid (show R = true by rw [HRR.out, if_pos hkx])
    obtain ⟨k2, k3⟩ := hkx
    have e2 : ((kx : Int) != 2) = true := by rw [bne_iff_ne]; omega
    have e3 : ((kx : Int) != 3) = true := by rw [bne_iff_ne]; omega
    clear k2 k3
    go_wp2_with fail
    go_ret
    exact ⟨by rw [HRT.out]; rfl, x1⟩
  · have HRT := Lib.hid (show R = landX l ((k : Int) + x.off.toInt + 1) by rw [HRR.out, if_neg hkx])
    have hk23 : kx = 2 ∨ kx = 3 := by omega
    have hc := HCX.out w1 x1
    have c0 := hc 0 (by omega)
    have c1 := hc 1 (by omega)
    have c2 := hc 2 (by omega)
    have c3 := hc 3 (by omega)
    have c4 := hc 4 (by omega)
    simp only [Ins.cells, List.getElem?_cons_zero, List.getElem?_cons_succ, Nat.add_zero] at c0 c1 c2 c3 c4
    clear hc hkx
    rcases hk23 with rfl | rfl
    all_goals
      go_wp2_with fail
      refine (HTG.out w1).mono ?_
      rintro e w2 ⟨rfl, x2⟩
      have x12 := x1.trans x2
      generalize (k : Int) + x.off.toInt + 1 = t at *
      by_cases t0 : 0 ≤ t
      · obtain ⟨tn, rfl⟩ : ∃ tn : Nat, t = (tn : Int) := ⟨t.toNat, by omega⟩
        by_cases tl : tn < l.length
        · have hz := fun j (hj : j < 5) => (x12.cell (p := ⟨bb, oo + tn * 5 + j, none⟩) hbb (by simp)).trans (HCA.out tn tl j hj)
          have HRT2 := Lib.hid (show R = decide (kindM l[tn] ≠ 10) by rw [HRT.out]; unfold landX; rw [decide_eq_true t0, Int.toNat_natCast, List.getElem?_eq_getElem tl]; rfl)
          have HKZ := Lib.hid (fun w' => kind_any l[tn] w')
          generalize l[tn] = z at *
          have z0 := hz 0 (by omega)
          have z1 := hz 1 (by omega)
          have z2 := hz 2 (by omega)
          have z3 := hz 3 (by omega)
          have z4 := hz 4 (by omega)
          simp only [Ins.cells, List.getElem?_cons_zero, List.getElem?_cons_succ, Nat.add_zero] at z0 z1 z2 z3 z4
          clear hz c0 c1 c2 c3 c4
          go_wp2_with fail
          refine (HKZ.out w2).mono ?_
          rintro e wA ⟨rfl, xA⟩
          generalize kindM z = kz at *
          by_cases h10 : kz = 10
          · have HRF := Lib.hid (show R = false by rw [HRT2.out, decide_eq_false (by omega)])
            subst h10
            go_wp2_with fail
            go_ret
            exact ⟨by rw [HRF.out]; rfl, x12.trans xA⟩
          · have HRF := Lib.hid (show R = true by rw [HRT2.out, decide_eq_true h10])
            have q9 : ((kz : Int) != 10) = true := by rw [bne_iff_ne]; omega
            clear h10
            go_wp2_with fail
            go_ret
            exact ⟨by rw [HRF.out]; rfl, x12.trans xA⟩
        · have HRF := Lib.hid (show R = false by rw [HRT.out]; unfold landX; rw [decide_eq_true t0, Int.toNat_natCast, List.getElem?_eq_none (by omega)]; rfl)
          have tl' : ¬ ((tn : Int) < (l.length : Int)) := by omega
          clear c0 c1 c2 c3 c4
          go_wp2_with fail
          go_ret
          exact ⟨by rw [HRF.out]; rfl, x12⟩
      · have HRF := Lib.hid (show R = false by rw [HRT.out]; unfold landX; rw [decide_eq_false t0, Bool.false_and])
        clear c0 c1 c2 c3 c4
        go_wp2_with fail
        go_ret
        exact ⟨by rw [HRF.out]; rfl, x12⟩

/-- The first place that a question isn't answered with yes. -/
def firstBad (f : Nat → Bool) (n : Nat) : Option Nat := (List.range n).find? fun k => !f k
theorem firstBad_some (f : Nat → Bool) (n k : Nat) (hk : k < n) (hb : f k = false) (hp : ∀ j, j < k → f j = true) : firstBad f n = some k := by
  unfold firstBad
  rw [List.find?_range_eq_some]
  exact ⟨by simp [hb], by simp [hk], fun j hj => by simp [hp j hj]⟩
theorem firstBad_none (f : Nat → Bool) (n : Nat) (hp : ∀ j, j < n → f j = true) : firstBad f n = none := by
  unfold firstBad
  rw [List.find?_eq_none]
  intro j hj
  simp [hp j (by simpa using hj)]

def lastM (l : List Ins) : Bool := match l[l.length - 1]? with | none => false | some x => decide (kindM x = 5) || decide (kindM x = 3)
/-- What Check tells. -/
def checkM (l : List Ins) : Nat × Nat :=
  if 256 < l.length then (0, 7) else if l.length = 0 then (0, 22) else
  match firstBad (oneM l) l.length with
  | some k => (k, 22)
  | none => match firstBad (landsM l) l.length with
    | some k => (k, 22)
    | none => if lastM l then (0, 0) else (l.length - 1, 22)
end Go.Proofs.YtbjkfgfiifnjoaaDoor
