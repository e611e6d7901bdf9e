/- The reference of layer 5: Check. -/
import Derived.Test.YtooifaakflphpaaShN
namespace Go.Proofs.Ytooifaakflphpaa
open Go.RowKit
set_option maxRecDepth 100000

set_option maxHeartbeats 8000000 in
set_option maxRecDepth 100000 in
theorem rcheck_any (v : Value) (l : List Ins) (w : World) (hr : Reads w v 5 l.length (insV l)) (hl : l.length ≤ 100000) :
    Calls Try.prog 27 #[v] w fun e w' => e = .returned (.tuple #[.int .i64 ((checkM l).1 : Int), .int .i64 ((checkM l).2 : Int)]) ∧ Ext [] w w' := by
  have HM := Lib.hid (show checkM l = (if 256 < l.length then (0, 7) else if l.length = 0 then (0, 22) else match firstBad (oneM l) l.length with | some k => (k, 22) | none => match firstBad (landsM l) l.length with | some k => (k, 22) | none => if lastM l then (0, 0) else (l.length - 1, 22)) from rfl)
  obtain ⟨R, hR⟩ : ∃ R, R = checkM l := ⟨_, rfl⟩
  rw [← hR] at HM ⊢
  clear hR
  have HONE := Lib.hid (fun k (hk : k < l.length) w' (x : Ext [] w w') => rone_any v l k w' (hr.ext x) hk hl)
  have HR := Lib.hid (fun (h0 : 0 < l.length) ao c (he : v = .slice ao l.length c) => ins_lit (he ▸ hr) h0)
  obtain ⟨ao, c, rfl, -, -, -⟩ := hr
  by_cases h256 : 256 < l.length
  · have HRT := Lib.hid (show R = (0, 7) by rw [HM.out, if_pos h256])
    clear HM
    go_enter Try.func27, Try.ntmps27
    go_wp2_with fail
    go_ret2
    exact ⟨by rw [HRT.out]; rfl, Ext.refl _ _⟩
  by_cases h0 : l.length = 0
  · have HRT := Lib.hid (show R = (0, 22) by rw [HM.out, if_neg h256, if_pos h0])
    have hb0 : ((l.length : Int) == 0) = true := by rw [beq_iff_eq]; omega
    clear HM
    go_enter Try.func27, Try.ntmps27
    go_wp2_with fail
    go_ret2
    exact ⟨by rw [HRT.out]; rfl, Ext.refl _ _⟩
  have hb0 : ((l.length : Int) == 0) = false := by rw [beq_eq_false_iff_ne]; omega
  have HM2 := Lib.hid (show R = (match firstBad (oneM l) l.length with | some k => (k, 22) | none => match firstBad (landsM l) l.length with | some k => (k, 22) | none => if lastM l then (0, 0) else (l.length - 1, 22)) by rw [HM.out, if_neg h256, if_neg h0])
  clear HM
  have hpos : 0 < l.length := by omega
  obtain ⟨bb, oo, rfl, hbb, hcells⟩ := HR.out hpos ao c rfl
  have HCA := Lib.hid (fun (w' : World) (x : Ext [] w w') (m : Nat) (hm : m < l.length) j (hj : j < 5) => (x.cell (p := ⟨bb, oo + m * 5 + j, none⟩) hbb (by simp)).trans (hcells m hm j hj))
  have hfk := fun (k : Int) (b c d e : Value) (w : World) => (show (Instr.field 45 (.agg #[.int .i64 k, b, c, d, e]) 0).run Try.prog w = .ok (.int .i64 k) w from by kernel_rfl)
  clear HR hcells
  go_enter Try.func27, Try.ntmps27
  go_wp2_with fail
  go_loopw [4] (fun i wr => ∃ k : Nat, k ≤ l.length ∧ i = .int .i64 (k : Int) ∧ Hid (∀ j, j < k → oneM l j = true) ∧ Ext [] w wr) (fun i _ => l.length - (intOf i).toNat)
  case atStart => exact ⟨0, by omega, rfl, Lib.hid (fun j h => by omega), Ext.refl _ _⟩
  case round =>
    obtain ⟨k, hk, rfl, HP, x⟩ := hrel
    by_cases hlt : k < l.length
    · have H1 := Lib.hid (HONE.out k hlt wr x)
      have HS := Lib.hid (fun (h : oneM l k = true) (j : Nat) (hj : j < k + 1) => (show oneM l j = true from by
        rcases Nat.lt_or_ge j k with h' | h'
        · exact HP.out j h'
        · obtain rfl : j = k := by omega
          exact h))
      have HB := Lib.hid (fun (h : oneM l k = false) => (show R = (k, 22) by rw [HM2.out, firstBad_some (oneM l) l.length k hlt h HP.out]))
      generalize oneM l k = q at *
      cases q
      · go_wp2_with fail
        refine H1.out.mono ?_
        rintro e w2 ⟨rfl, x2⟩
        go_wp2_with fail
        go_ret2
        exact ⟨by rw [HB.out (by first | rfl | trivial)]; rfl, x.trans x2⟩
      · go_wp2_with fail
        refine H1.out.mono ?_
        rintro e w2 ⟨rfl, x2⟩
        go_wp2_with fail
        go_roundw
        case rel => exact ⟨k + 1, by omega, by go_num, Lib.hid (HS.out (by first | rfl | trivial)), x.trans x2⟩
        case measure => simp [intOf]; omega
    · have HN1 := Lib.hid (firstBad_none (oneM l) l.length (fun j hj => HP.out j (by omega)))
      have HM3 := Lib.hid (show R = (match firstBad (landsM l) l.length with | some k => (k, 22) | none => if lastM l then (0, 0) else (l.length - 1, 22)) by rw [HM2.out, HN1.out])
      clear HP
      go_wp2_with fail
      go_loopw [5] (fun i wr => ∃ k : Nat, k ≤ l.length ∧ i = .int .i64 (k : Int) ∧ Hid (∀ j, j < k → landsM l j = true) ∧ Ext [] w wr) (fun i _ => l.length - (intOf i).toNat)
      case atStart => exact ⟨0, by omega, rfl, Lib.hid (fun j h => by omega), x⟩
      case round =>
        clear x hk hlt
        obtain ⟨k, hk, rfl, HP, x⟩ := hrel
        by_cases hlt : k < l.length
        · have HS := Lib.hid (fun (h : landsM l k = true) (j : Nat) (hj : j < k + 1) => (show landsM l j = true from by
            rcases Nat.lt_or_ge j k with h' | h'
            · exact HP.out j h'
            · obtain rfl : j = k := by omega
              exact h))
          have HB := Lib.hid (fun (h : landsM l k = false) => (show R = (k, 22) by rw [HM3.out, firstBad_some (landsM l) l.length k hlt h HP.out]))
          have hRM : landsM l k = if kindM l[k] ≠ 2 ∧ kindM l[k] ≠ 3 then true else landX l ((k : Int) + l[k].off.toInt + 1) := by unfold landsM; rw [List.getElem?_eq_getElem hlt]
          obtain ⟨q, hq⟩ : ∃ q, q = landsM l k := ⟨_, rfl⟩
          rw [← hq] at HS HB hRM
          have HRM := Lib.hid hRM
          have hc := HCA.out wr x k hlt
          have HCK := Lib.hid (fun w' (x' : Ext [] w w') => HCA.out w' x' k hlt)
          clear hRM hq HP HONE
          generalize l[k] = xk at *
          have HKX := Lib.hid (fun w' => rof_any xk.op.toNat xk.op.toNat_lt w')
          have ho1 : -32768 ≤ xk.off.toInt := by have := xk.off.le_toInt; simpa using this
          have ho2 : xk.off.toInt ≤ 32767 := by have := xk.off.toInt_lt; simp at this; omega
          have c0 := hc 0 (by omega)
          simp only [Ins.cells, List.getElem?_cons_zero, Nat.add_zero] at c0
          have HRM := Lib.hid (show q = if (partsN xk.op.toNat).kind ≠ 2 ∧ (partsN xk.op.toNat).kind ≠ 3 then true else landX l ((k : Int) + xk.off.toInt + 1) from HRM.out)
          clear hc
          generalize partsN xk.op.toNat = px at *
          obtain ⟨kx, opx, szx, lgx, rgx⟩ := px
          simp only [Prt.cells] at HKX
          simp only at HRM
          go_wp2_with fail
          refine (HKX.out wr).mono ?_
          rintro e w1 ⟨rfl, x1⟩
          have xw1 := x.trans x1
          clear c0
          by_cases hkx : kx ≠ 2 ∧ kx ≠ 3
          · have hq : q = true := by rw [HRM.out, if_pos hkx]
            have HS2 := Lib.hid (HS.out hq)
            obtain ⟨k2, k3⟩ := hkx
            have e2 : ((kx : Int) != 2) = true := by rw [bne_iff_ne]; omega
            have e3 : ((kx : Int) != 3) = true := by rw [bne_iff_ne]; omega
            clear k2 k3 hq
            go_wp2_with fail
            go_roundw
            case rel => exact ⟨k + 1, by omega, by go_num, Lib.hid HS2.out, xw1⟩
            case measure => simp [intOf]; omega
          · have HRT := Lib.hid (show q = landX l ((k : Int) + xk.off.toInt + 1) by rw [HRM.out, if_neg hkx])
            have hk23 : kx = 2 ∨ kx = 3 := by omega
            have c3 := HCK.out w1 xw1 3 (by omega)
            simp only [Ins.cells, List.getElem?_cons_zero, List.getElem?_cons_succ] at c3
            have hov1 : -9223372036854775808 ≤ (k : Int) + xk.off.toInt := by omega
            clear hkx HRM
            obtain ⟨o, ho⟩ : ∃ o, o = xk.off.toInt := ⟨_, rfl⟩
            rw [← ho] at c3 HRT hov1 ho1 ho2
            clear ho
            by_cases t0 : 0 ≤ (k : Int) + o + 1
            · obtain ⟨tn, htn⟩ : ∃ tn : Nat, (k : Int) + o + 1 = (tn : Int) := ⟨((k : Int) + o + 1).toNat, by omega⟩
              rw [htn] at HRT
              by_cases tl : tn < l.length
              · have z0 := HCA.out w1 xw1 tn tl 0 (by omega)
                have HRT2 := Lib.hid (show q = decide (kindM l[tn] ≠ 10) by rw [HRT.out]; unfold landX; rw [decide_eq_true (by omega), Int.toNat_natCast, List.getElem?_eq_getElem tl]; rfl)
                generalize l[tn] = z at *
                have HKZ := Lib.hid (fun w' => rof_any z.op.toNat z.op.toNat_lt w')
                have HRT3 := Lib.hid (show q = decide ((partsN z.op.toNat).kind ≠ 10) from HRT2.out)
                simp only [Ins.cells, List.getElem?_cons_zero, Nat.add_zero] at z0
                clear HRT2
                generalize partsN z.op.toNat = pz at *
                obtain ⟨kz, opz, szz, lgz, rgz⟩ := pz
                simp only [Prt.cells] at HKZ
                simp only at HRT3
                have n1 : ¬ ((tn : Int) < 0) := by omega
                have n2 : ¬ ((l.length : Int) ≤ (tn : Int)) := by omega
                have n3 : (tn : Int) < (l.length : Int) := by omega
                have HTN := Lib.hid htn
                by_cases h10 : kz = 10
                · have HRF := Lib.hid (HB.out (by rw [HRT3.out, decide_eq_false (by omega)]))
                  subst h10
                  rcases hk23 with rfl | rfl
                  all_goals
                    go_upto_region 16 with (fail)
                    (try rw [htn])
                    clear htn
                    go_wp2_with fail
                    refine (HKZ.out w1).mono ?_
                    rintro e wA ⟨rfl, xA⟩
                    go_wp2_with fail
                    go_ret2
                    exact ⟨by rw [HRF.out]; rfl, xw1.trans xA⟩
                · have HS2 := Lib.hid (HS.out (by rw [HRT3.out, decide_eq_true h10]))
                  have q10 : ((kz : Int) == 10) = false := by rw [beq_eq_false_iff_ne]; omega
                  clear h10
                  rcases hk23 with rfl | rfl
                  all_goals
                    go_upto_region 16 with (fail)
                    (try rw [htn])
                    clear htn
                    go_wp2_with fail
                    refine (HKZ.out w1).mono ?_
                    rintro e wA ⟨rfl, xA⟩
                    go_wp2_with fail
                    go_roundw
                    case rel => exact ⟨k + 1, by omega, by go_num, Lib.hid HS2.out, xw1.trans xA⟩
                    case measure => simp [intOf]; omega
              · have HRF := Lib.hid (HB.out (by rw [HRT.out]; unfold landX; rw [decide_eq_true (by omega), Int.toNat_natCast, List.getElem?_eq_none (by omega)]; rfl))
                have n1 : ¬ ((tn : Int) < 0) := by omega
                have n2 : (l.length : Int) ≤ (tn : Int) := by omega
                rcases hk23 with rfl | rfl
                all_goals
                  go_upto_region 16 with (fail)
                  (try rw [htn])
                  clear htn
                  go_wp2_with fail
                  go_ret2
                  exact ⟨by rw [HRF.out]; rfl, xw1⟩
            · have HRF := Lib.hid (HB.out (by rw [HRT.out]; unfold landX; rw [decide_eq_false t0, Bool.false_and]))
              have t1 : (k : Int) + o + 1 < 0 := by omega
              rcases hk23 with rfl | rfl
              all_goals
                go_wp2_with fail
                go_ret2
                exact ⟨by rw [HRF.out]; rfl, xw1⟩
        · have HN2 := Lib.hid (firstBad_none (landsM l) l.length (fun j hj => HP.out j (by omega)))
          have HM4 := Lib.hid (show R = (if lastM l then (0, 0) else (l.length - 1, 22)) by rw [HM3.out, HN2.out])
          have hll : l.length - 1 < l.length := by omega
          have HLA := Lib.hid (show lastM l = (decide ((partsN l[l.length - 1].op.toNat).kind = 5) || decide ((partsN l[l.length - 1].op.toNat).kind = 3)) by unfold lastM; rw [List.getElem?_eq_getElem hll]; rfl)
          have z0 := HCA.out wr x (l.length - 1) hll 0 (by omega)
          generalize l[l.length - 1] = z at *
          have HKZ := Lib.hid (fun w' => rof_any z.op.toNat z.op.toNat_lt w')
          simp only [Ins.cells, List.getElem?_cons_zero, Nat.add_zero] at z0
          generalize partsN z.op.toNat = pz at *
          obtain ⟨kz, opz, szz, lgz, rgz⟩ := pz
          simp only [Prt.cells] at HKZ
          simp only at HLA
          have n2 : ((l.length : Int) - 1).toNat = l.length - 1 := by omega
          have n3 : (0 : Int) ≤ (l.length : Int) - 1 := by omega
          have n4 : (l.length : Int) - 1 < (l.length : Int) := by omega
          have n5 : (((l.length - 1 : Nat)) : Int) = (l.length : Int) - 1 := by omega
          have HN5 := Lib.hid n5
          clear HP n5
          go_wp2_with fail
          refine (HKZ.out wr).mono ?_
          rintro e wA ⟨rfl, xA⟩
          have hkz : kz = 5 ∨ kz = 3 ∨ (kz ≠ 5 ∧ kz ≠ 3) := by omega
          rcases hkz with rfl | rfl | ⟨k5, k3⟩
          · have HRT := Lib.hid (show R = (0, 0) by rw [HM4.out, HLA.out]; rfl)
            go_wp2_with fail
            go_ret2
            exact ⟨by rw [HRT.out]; rfl, x.trans xA⟩
          · have HRT := Lib.hid (show R = (0, 0) by rw [HM4.out, HLA.out]; rfl)
            go_wp2_with fail
            go_ret2
            exact ⟨by rw [HRT.out]; rfl, x.trans xA⟩
          · have HRT := Lib.hid (show R = (l.length - 1, 22) by rw [HM4.out, HLA.out, decide_eq_false k5, decide_eq_false k3]; rfl)
            have e2 : ((kz : Int) != 5) = true := by rw [bne_iff_ne]; omega
            have e3 : ((kz : Int) != 3) = true := by rw [bne_iff_ne]; omega
            clear k5 k3
            go_wp2_with fail
            go_ret2
            exact ⟨by rw [HRT.out]; simp only [HN5.out]; rfl, x.trans xA⟩
end Go.Proofs.Ytooifaakflphpaa
