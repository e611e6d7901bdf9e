/- The laws of layer 7: holds, ObjtabMost: the walks. -/
import Derived.Test.YtknghmogfbpclaaObjI
import Derived.Test.YtknghmogfbpclaaObjS
import Derived.Outline
import Derived.Deep.CutBlock
namespace Go.Proofs.Ytknghmogfbpclaa
open Go.RowKit
set_option maxRecDepth 100000

set_option maxHeartbeats 1000000 in
theorem holds_any (w : World) :
    Calls Try.prog 9 #[] w fun e w' => e = .returned (.bool true) ∧ Ext [] w w' := by
  go_enter Try.func9, Try.ntmps9
  go_wp2_with fail
  refine (S.obj_new 2 w (by omega) (by omega)).mono ?_
  rintro e w1 ⟨rfl, H1, x1, -⟩
  go_wp2_with fail
  refine (S.obj_make H1 _ (by simp) (by omega)).mono ?_
  rintro e w2 ⟨b, rfl, hb, H2, x2⟩
  have y2 := x1.trans' x2 (by simp)
  have hb2 := x1.size
  simp only [List.nil_append, Nat.zero_add] at H2
  go_wp2_with fail
  refine (S.obj_hold' H2 0 (by simp) _ (by simp) (by simp)).mono ?_
  rintro e w3 ⟨rfl, H3, x3, -⟩
  have y3 := y2.trans' x3 (by simp; omega)
  simp only [List.set_cons_zero, List.getElem_cons_zero] at H3
  go_wp2_with fail
  refine (S.obj_drop' H3 0 (by simp) _ (by simp) (by simp)).mono ?_
  rintro e w4 ⟨rfl, H4, x4, -⟩
  have y4 := y3.trans' x4 (by simp; omega)
  simp only [List.set_cons_zero, List.getElem_cons_zero] at H4
  go_wp2_with fail
  refine (S.obj_drop_last' H4 0 (by simp) _ (by simp) (by simp)).mono ?_
  rintro e w5 ⟨rfl, H5, x5, -⟩
  have y5 := y4.trans' x5 (by simp; omega)
  simp only [List.eraseIdx_cons_zero] at H5
  go_wp2_with fail
  refine (S.obj_get_no _ _ 2 _ (by omega) (S.obj_find_no H5 _ (by simp))).mono ?_
  rintro e w6 ⟨rfl, rfl⟩
  go_wp2_with fail
  go_ret
  exact ⟨rfl, y5⟩

set_option maxHeartbeats 2000000 in
set_option maxRecDepth 100000 in
theorem most_walk (a0 : Int) (w : World) :
    Calls Try.prog 3 #[.int .i64 a0] w fun e w' => e = .returned (.bool true) ∧ Below w.heap.size w w' := by
  obtain ⟨q, hq, hq10⟩ := mod_nat a0 10 (by omega) (by omega)
  have HK := Lib.hid hq
  clear hq
  go_enter Try.func3, Try.ntmps3
  go_wp2_with fail
  refine (I.obj_new 1 w (by omega) (by omega)).mono ?_
  rintro e w1 ⟨rfl, H1, x1, hs1⟩
  go_wp2_with fail
  refine (I.obj_make H1 _ (by simp) (by omega)).mono ?_
  rintro e w2 ⟨b, rfl, hb, H2, x2⟩
  have y2 := x1.trans' x2 (by simp)
  have hbb : w.heap.size + 2 ≤ b := by omega
  simp only [List.nil_append, Nat.zero_add] at H2
  clear H1 x1 x2 hb hs1
  go_wp2_with fail
  refine (holds_any _).mono ?_
  rintro e w3 ⟨rfl, x3⟩
  have H3 := H2.ext0 x3
  have y3 := y2.trans x3
  clear H2 y2 x3
  go_wp2_with fail
  rw [show wrap64 ((IntKind.u64.wrap a0).tmod 10) = (q : Int) from HK.out, IntWalk.wrap64_in (995 + (q : Int)) (by omega), show 995 + (q : Int) = ((995 + q : Nat) : Int) by omega]
  obtain ⟨k, hk⟩ : ∃ k, k = 995 + q := ⟨_, rfl⟩
  rw [← hk]
  have hk1 : 995 ≤ k := by omega
  have hk2 : k ≤ 1004 := by omega
  clear hk HK hq10
  obtain ⟨bt, hbt⟩ : ∃ bt, bt = w.heap.size + 1 := ⟨_, rfl⟩
  have hbt1 : w.heap.size ≤ bt := by omega
  rw [← hbt] at H3 ⊢
  clear hbt
  go_loopw [8] (fun v wr => ∃ i : Nat, 1 ≤ i ∧ i ≤ k + 1 ∧ v = .int .i64 (i : Int) ∧ I.ObjAt wr bt w.heap.size 1 1 [⟨1, b, .int .i64 7, min i 1000⟩] ∧ Ext [] w wr) (fun v _ => k + 1 - (intOf v).toNat)
  case atStart => exact ⟨1, by omega, by omega, rfl, H3, y3⟩
  case round =>
    clear H3 y3
    obtain ⟨i, hi1, hi2, rfl, H, x⟩ := hrel
    by_cases hlt : i ≤ k
    · by_cases h1000 : i < 1000
      · go_wp2_with fail
        refine (I.obj_hold' H 0 (by simp) _ (by simp) (by simp; omega)).mono ?_
        rintro e w4 ⟨rfl, H4, x4, -⟩
        have y4 := x.trans' x4 (by simp; omega)
        simp only [List.set_cons_zero, List.getElem_cons_zero] at H4
        have hmin : min i 1000 + 1 = min (i + 1) 1000 := by omega
        rw [hmin] at H4
        clear H x x4 hmin
        go_wp2_with fail
        go_roundw
        case rel => exact ⟨i + 1, by omega, by omega, by go_num, H4, y4⟩
        case measure => simp [intOf]; omega
      · go_wp2_with fail
        refine (I.obj_hold_most' H 0 (by simp) _ (by simp) (by simp; omega)).mono ?_
        rintro e w4 ⟨rfl, rfl⟩
        have hmin : min i 1000 = min (i + 1) 1000 := by omega
        rw [hmin] at H
        clear hmin
        go_wp2_with fail
        go_roundw
        case rel => exact ⟨i + 1, by omega, by omega, by go_num, H, x⟩
        case measure => simp [intOf]; omega
    · have hik : min i 1000 = min (k + 1) 1000 := by omega
      rw [hik] at H
      clear hik
      have hif : (if 1000 < (k : Int) + 1 then 1000 else (k : Int) + 1) = ((min (k + 1) 1000 : Nat) : Int) := by split <;> omega
      have HIF := Lib.hid hif
      clear hif
      go_upto_block 2 with (fail)
      rw [HIF.out]
      obtain ⟨m, hm⟩ : ∃ m, m = min (k + 1) 1000 := ⟨_, rfl⟩
      rw [← hm] at H ⊢
      have hm1 : 996 ≤ m := by omega
      have hm2 : m ≤ 1000 := by omega
      clear hm HIF hlt hi1 hi2 hk1 hk2
      have H0 : I.ObjAt wr bt w.heap.size 1 1 (if 0 < m then [⟨1, b, .int .i64 7, m - 0⟩] else []) := by rw [if_pos (by omega)]; exact H
      clear H
      go_wp2_with fail
      generalize Value.bool (decide ((i : Int) ≤ (k : Int))) = q42
      go_loopw [11, 12, 13] (fun v _ _ wr => ∃ i : Nat, i ≤ m ∧ v = .int .i64 (i : Int) ∧ I.ObjAt wr bt w.heap.size 1 1 (if i < m then [⟨1, b, .int .i64 7, m - i⟩] else []) ∧ Ext [] w wr) (fun v _ _ _ => m - (intOf v).toNat)
      case atStart => exact ⟨0, by omega, rfl, H0, x⟩
      case round =>
        clear H0 x
        obtain ⟨i2, hi2, rfl, H, x⟩ := hrel
        by_cases hlt : i2 < m
        · rw [if_pos hlt] at H
          by_cases hlast : i2 + 1 = m
          · go_wp2_with fail
            refine (I.obj_held' H 0 (by simp) _ (by simp)).mono ?_
            rintro e w4 ⟨rfl, rfl⟩
            have hcast : (((m - i2 : Nat) : Int) != (m : Int) - (i2 : Int)) = false := by rw [bne_eq_false_iff_eq]; omega
            have hcast2 : ((i2 : Int) == (m : Int) - 1) = true := by rw [beq_iff_eq]; omega
            simp only [List.getElem_cons_zero]
            go_wp2_with fail
            refine (I.obj_drop_last' H 0 (by simp) _ (by simp) (by simp; omega)).mono ?_
            rintro e w5 ⟨rfl, H5, x5, -⟩
            simp only [List.eraseIdx_cons_zero] at H5
            have y5 := x.trans' x5 (by simp; omega)
            go_wp2_with fail
            go_roundw
            case rel => exact ⟨i2 + 1, by omega, by go_num, by rw [if_neg (by omega)]; exact H5, y5⟩
            case measure => simp [intOf]; omega
          · go_wp2_with fail
            refine (I.obj_held' H 0 (by simp) _ (by simp)).mono ?_
            rintro e w4 ⟨rfl, rfl⟩
            have hcast : (((m - i2 : Nat) : Int) != (m : Int) - (i2 : Int)) = false := by rw [bne_eq_false_iff_eq]; omega
            have hcast2 : ((i2 : Int) == (m : Int) - 1) = false := by rw [beq_eq_false_iff_ne]; omega
            simp only [List.getElem_cons_zero]
            go_wp2_with fail
            refine (I.obj_drop' H 0 (by simp) _ (by simp) (by simp; omega)).mono ?_
            rintro e w5 ⟨rfl, H5, x5, -⟩
            simp only [List.set_cons_zero, List.getElem_cons_zero] at H5
            have hmi : m - i2 - 1 = m - (i2 + 1) := by omega
            rw [hmi] at H5
            have y5 := x.trans' x5 (by simp; omega)
            clear hmi
            go_wp2_with fail
            go_roundw
            case rel => exact ⟨i2 + 1, by omega, by go_num, by rw [if_pos (by omega)]; exact H5, y5⟩
            case measure => simp [intOf]; omega
        · rw [if_neg hlt] at H
          go_wp2_with fail
          refine (I.obj_drop_no _ _ 2 _ (by omega) (I.obj_find_no H _ (by simp))).mono ?_
          rintro e w6 ⟨rfl, rfl⟩
          go_wp2_with fail
          go_ret
          exact ⟨rfl, x.below (Nat.le_refl _) (by simp)⟩
end Go.Proofs.Ytknghmogfbpclaa
