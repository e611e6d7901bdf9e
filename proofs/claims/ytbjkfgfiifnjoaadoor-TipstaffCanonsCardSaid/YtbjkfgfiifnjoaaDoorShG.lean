/- Package shape: Check. -/
import Derived.Test.YtbjkfgfiifnjoaaDoorShF
namespace Go.Proofs.YtbjkfgfiifnjoaaDoor
open Go.RowKit
set_option maxRecDepth 100000

set_option maxHeartbeats 4000000 in
set_option maxRecDepth 100000 in
theorem check_any (v : Value) (l : List Ins) (w : World) (hr : Reads w v 5 l.length (insV l)) (hl : l.length ≤ 100000) :
    Calls Tryd.prog 11 #[v] w fun e w' => e = .returned (.tuple #[.int .i64 ((checkM l).1 : Int), .int .i64 ((checkM l).2 : Int)]) ∧ Ext [] w w' := by
  have HM := Lib.hid (show checkM l = (if 256 < l.length then (0, 7) else if l.length = 0 then (0, 22) else match firstBad (oneM l) l.length with | some k => (k, 22) | none => match firstBad (landsM l) l.length with | some k => (k, 22) | none => if lastM l then (0, 0) else (l.length - 1, 22)) from rfl)
  obtain ⟨R, hR⟩ : ∃ R, R = checkM l := ⟨_, rfl⟩
  rw [← hR] at HM ⊢
  clear hR
  have HONE := Lib.hid (fun k (hk : k < l.length) w' (x : Ext [] w w') => sone_any v l k w' (hr.ext x) hk hl)
  have HLAN := Lib.hid (fun k (hk : k < l.length) w' (x : Ext [] w w') => lands_any v l k w' (hr.ext x) hk hl)
  have HR := Lib.hid (fun (h0 : 0 < l.length) ao c (he : v = .slice ao l.length c) => ins_lit (he ▸ hr) h0)
  obtain ⟨ao, c, rfl, -, -, -⟩ := hr
  by_cases h256 : 256 < l.length
  · have HRT := Lib.hid (show R = (0, 7) by rw [HM.out, if_pos h256])
    clear HM
    go_enter Tryd.func11, Tryd.ntmps11
    go_wp2_with fail
    go_ret2
    exact ⟨by rw [HRT.out]; rfl, Ext.refl _ _⟩
  by_cases h0 : l.length = 0
  · have HRT := Lib.hid (show R = (0, 22) by rw [HM.out, if_neg h256, if_pos h0])
    have hb0 : ((l.length : Int) == 0) = true := by rw [beq_iff_eq]; omega
    clear HM
    go_enter Tryd.func11, Tryd.ntmps11
    go_wp2_with fail
    go_ret2
    exact ⟨by rw [HRT.out]; rfl, Ext.refl _ _⟩
  have hb0 : ((l.length : Int) == 0) = false := by rw [beq_eq_false_iff_ne]; omega
  have HM2 := Lib.hid (show R = (match firstBad (oneM l) l.length with | some k => (k, 22) | none => match firstBad (landsM l) l.length with | some k => (k, 22) | none => if lastM l then (0, 0) else (l.length - 1, 22)) by rw [HM.out, if_neg h256, if_neg h0])
  clear HM
  have hpos : 0 < l.length := by omega
  go_enter Tryd.func11, Tryd.ntmps11
  go_wp2_with fail
  go_loopw [4, 18] (fun _ i wr => ∃ k : Nat, k ≤ l.length ∧ i = .int .i64 (k : Int) ∧ Hid (∀ j, j < k → oneM l j = true) ∧ Ext [] w wr) (fun _ i _ => l.length - (intOf i).toNat)
  case atStart => exact ⟨0, by omega, rfl, Lib.hid (fun j h => by omega), Ext.refl _ _⟩
  case round =>
    obtain ⟨k, hk, rfl, HP, x⟩ := hrel
    by_cases hlt : k < l.length
    · have H1 := Lib.hid (HONE.out k hlt wr x)
      have HS := Lib.hid (fun (h : oneM l k = true) (j : Nat) (hj : j < k + 1) => (show oneM l j = true from by
        rcases Nat.lt_or_ge j k with h' | h'
        · exact HP.out j h'
        · obtain rfl : j = k := by omega
          exact h))
      have HB := Lib.hid (fun (h : oneM l k = false) => (show R = (k, 22) by rw [HM2.out, firstBad_some (oneM l) l.length k hlt h HP.out]))
      generalize oneM l k = q at *
      cases q
      · go_wp2_with fail
        refine H1.out.mono ?_
        rintro e w2 ⟨rfl, x2⟩
        go_wp2_with fail
        go_ret2
        exact ⟨by rw [HB.out (by first | rfl | trivial)]; rfl, x.trans x2⟩
      · go_wp2_with fail
        refine H1.out.mono ?_
        rintro e w2 ⟨rfl, x2⟩
        go_wp2_with fail
        go_roundw
        case rel => exact ⟨k + 1, by omega, by go_num, Lib.hid (HS.out (by first | rfl | trivial)), x.trans x2⟩
        case measure => simp [intOf]; omega
    · have HN1 := Lib.hid (firstBad_none (oneM l) l.length (fun j hj => HP.out j (by omega)))
      have HM3 := Lib.hid (show R = (match firstBad (landsM l) l.length with | some k => (k, 22) | none => if lastM l then (0, 0) else (l.length - 1, 22)) by rw [HM2.out, HN1.out])
      clear HP
      go_wp2_with fail
      go_loopw [5, 29] (fun _ i wr => ∃ k : Nat, k ≤ l.length ∧ i = .int .i64 (k : Int) ∧ Hid (∀ j, j < k → landsM l j = true) ∧ Ext [] w wr) (fun _ i _ => l.length - (intOf i).toNat)
      case atStart => exact ⟨0, by omega, rfl, Lib.hid (fun j h => by omega), x⟩
      case round =>
        clear x hk hlt
        obtain ⟨k, hk, rfl, HP, x⟩ := hrel
        by_cases hlt : k < l.length
        · have H1 := Lib.hid (HLAN.out k hlt wr x)
          have HS := Lib.hid (fun (h : landsM l k = true) (j : Nat) (hj : j < k + 1) => (show landsM l j = true from by
            rcases Nat.lt_or_ge j k with h' | h'
            · exact HP.out j h'
            · obtain rfl : j = k := by omega
              exact h))
          have HB := Lib.hid (fun (h : landsM l k = false) => (show R = (k, 22) by rw [HM3.out, firstBad_some (landsM l) l.length k hlt h HP.out]))
          generalize landsM l k = q at *
          cases q
          · go_wp2_with fail
            refine H1.out.mono ?_
            rintro e w2 ⟨rfl, x2⟩
            go_wp2_with fail
            go_ret2
            exact ⟨by rw [HB.out (by first | rfl | trivial)]; rfl, x.trans x2⟩
          · go_wp2_with fail
            refine H1.out.mono ?_
            rintro e w2 ⟨rfl, x2⟩
            go_wp2_with fail
            go_roundw
            case rel => exact ⟨k + 1, by omega, by go_num, Lib.hid (HS.out (by first | rfl | trivial)), x.trans x2⟩
            case measure => simp [intOf]; omega
        · have HN2 := Lib.hid (firstBad_none (landsM l) l.length (fun j hj => HP.out j (by omega)))
          have HM4 := Lib.hid (show R = (if lastM l then (0, 0) else (l.length - 1, 22)) by rw [HM3.out, HN2.out])
          have hll : l.length - 1 < l.length := by omega
          have HLA := Lib.hid (show lastM l = (decide (kindM l[l.length - 1] = 5) || decide (kindM l[l.length - 1] = 3)) by unfold lastM; rw [List.getElem?_eq_getElem hll])
          obtain ⟨bb, oo, rfl, hbb, hcells⟩ := HR.out hpos ao c rfl
          have hz := fun j (hj : j < 5) => (x.cell (p := ⟨bb, oo + (l.length - 1) * 5 + j, none⟩) hbb (by simp)).trans (hcells (l.length - 1) hll j hj)
          have HKZ := Lib.hid (fun w' => kind_any l[l.length - 1] w')
          generalize l[l.length - 1] = z at *
          have z0 := hz 0 (by omega)
          have z1 := hz 1 (by omega)
          have z2 := hz 2 (by omega)
          have z3 := hz 3 (by omega)
          have z4 := hz 4 (by omega)
          simp only [Ins.cells, List.getElem?_cons_zero, List.getElem?_cons_succ, Nat.add_zero] at z0 z1 z2 z3 z4
          have n2 : ((l.length : Int) - 1).toNat = l.length - 1 := by omega
          have n3 : (0 : Int) ≤ (l.length : Int) - 1 := by omega
          have n4 : (l.length : Int) - 1 < (l.length : Int) := by omega
          have n5 : (((l.length - 1 : Nat)) : Int) = (l.length : Int) - 1 := by omega
          have HN5 := Lib.hid n5
          clear hz HP hcells n5
          go_wp2_with fail
          refine (HKZ.out wr).mono ?_
          rintro e wA ⟨rfl, xA⟩
          generalize kindM z = kz at *
          have hkz : kz = 5 ∨ kz = 3 ∨ (kz ≠ 5 ∧ kz ≠ 3) := by omega
          rcases hkz with rfl | rfl | ⟨k5, k3⟩
          · have HRT := Lib.hid (show R = (0, 0) by rw [HM4.out, HLA.out]; rfl)
            go_wp2_with fail
            go_ret2
            exact ⟨by rw [HRT.out]; rfl, x.trans xA⟩
          · have HRT := Lib.hid (show R = (0, 0) by rw [HM4.out, HLA.out]; rfl)
            go_wp2_with fail
            go_ret2
            exact ⟨by rw [HRT.out]; rfl, x.trans xA⟩
          · have HRT := Lib.hid (show R = (l.length - 1, 22) by rw [HM4.out, HLA.out, decide_eq_false k5, decide_eq_false k3]; rfl)
            have e2 : ((kz : Int) != 5) = true := by rw [bne_iff_ne]; omega
            have e3 : ((kz : Int) != 3) = true := by rw [bne_iff_ne]; omega
            clear k5 k3
            go_wp2_with fail
            go_ret2
            exact ⟨by rw [HRT.out]; simp only [HN5.out]; rfl, x.trans xA⟩
end Go.Proofs.YtbjkfgfiifnjoaaDoor
