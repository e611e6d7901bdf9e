/- The statement TokenInside. -/
import Derived.Test.YtnjgehfnafdldaaDoorTokH
namespace Go.Proofs.YtnjgehfnafdldaaDoor
open Go.RowKit
set_option maxRecDepth 100000

theorem all_within : Rt.all.within Rt.all = true := by decide +kernel

set_option maxHeartbeats 8000000 in
theorem tinside_walk (a0 : Option Addr) (len1 cap1 : Nat) (z1 : List Int) (at_ to_ : Int) (w : World) (r1 : IsRow .i64 w a0 len1 cap1 z1) (G : HelpG w) :
    Calls Tryd.prog 6 #[.slice a0 len1 cap1, .int .i64 at_, .int .i64 to_] w fun e w' => e = .returned (.bool true) ∧ Ext [] w w' := by
  obtain ⟨hl, hm, -, b, off, hA, hB, hC⟩ := r1.at
  unfold maxLen at hm
  have HG := Lib.hid (fun w' (x' : Ext [] w w') => G.ext x' (by simp))
  have HL1 := Lib.hid all_any
  have HA := Lib.hid hA
  have HC := Lib.hid hC
  clear hA hC r1 G
  go_enter Tryd.func6, Tryd.ntmps6
  go_wp2_with fail
  refine (tree_new w).mono ?_
  rintro e w1 ⟨rfl, T1, x1, -⟩
  go_wp2_with fail
  have l1 := T1.lt1
  have l2 := T1.lt2
  go_loopw [8] (fun i wr => ∃ (k bl c : Nat) (T : Tree), k ≤ len1 ∧ k ≤ 9 ∧ i = .int .i64 k ∧ TreeAt wr (w.heap.size + 1) bl c T ∧ w.heap.size ≤ bl ∧ Ext [] w wr) (fun i _ => 9 - (intOf i).toNat)
  case atStart =>
    exact ⟨0, _, _, _, Nat.zero_le _, by omega, rfl, T1, Nat.le_refl _, x1⟩
  case round =>
    clear T1 l1 l2 x1
    obtain ⟨k, bl, c, T, hk, hk9, rfl, P, hbl, x⟩ := hrel
    by_cases hlt : k < len1 ∧ k < 9
    · obtain ⟨hlt, h9⟩ := hlt
      obtain rfl := HA.out (by omega)
      have hcell : wr.cell? ⟨b, off + k, none⟩ = some (.int .i64 (z1.getD k 0)) := by
        rw [x.cell (hB (by omega)) (by simp)]; exact HC.out k (by omega)
      have hb := hB (by omega)
      generalize z1.getD k 0 = z at *
      go_wp2_with fail
      refine (make_any _ _ _ z T wr P).mono ?_
      rintro e w3 ⟨bl', cp', rfl, T2, x3, hbl'⟩
      have l1 := P.lt1
      have l2 := P.lt2
      have hsz := x.size
      have x13 : Ext [] w w3 := x.trans' x3 (by intro i hi; simp at hi; rcases hi with rfl | rfl <;> omega)
      clear hcell
      go_wp2_with fail
      go_roundw
      case rel => exact ⟨k + 1, bl', cp', _, by omega, by omega, by go_num, T2, by omega, x13⟩
      case measure => simp [intOf]; omega
    · clear HA HC hB
      have ok := P.ok
      have hpos := ok.pos
      have hle8 := ok.le
      clear ok
      have PH := Lib.hid (fun w' (x' : Ext [] wr w') => P.ext x' (by simp) (by simp))
      have HGR := Lib.hid (fun w' (x' : Ext [] wr w') => HG.out w' (x.trans x'))
      clear P HG
      generalize hbt : w.heap.size + 1 = bt at *
      clear hbt
      have hge : (k < len1 ∧ k = 9) ∨ ¬ k < len1 := by omega
      rcases hge with ⟨hlt', rfl⟩ | hlt'
      all_goals
        clear hlt
        go_wp2_with fail
        refine (derives_any wr (HGR.out _ (Ext.refl _ _))).mono ?_
        rintro e w4 ⟨rfl, x4⟩
        go_wp2_with fail
        refine (len_ok _ _ _ T w4 (PH.out _ x4)).mono ?_
        rintro e w5 ⟨rfl, rfl⟩
        go_upto_region 8 with (fail)
        have hne0 : ((T.len : Int) == 0) = false := by rw [beq_eq_false_iff_ne]; omega
        go_quiet ((go_at_call 29; exact quiet_left (len_ok _ _ _ T _ (PH.out _ (x4.drewN _)))))
        rename_i nq
        have x4' : Ext [] wr (w4.drewN nq) := x4.drewN nq
        generalize w4.drewN nq = w5 at *
        clear x4
        obtain ⟨a, ha, hal⟩ := mod_nat at_ T.len (by omega) (by omega)
        obtain ⟨d, hd, hdl⟩ := mod_nat to_ T.len (by omega) (by omega)
        go_wp2_with fail
        rw [ha, hd]
        clear ha hd
        refine (HL1.out _).mono ?_
        rintro e w6 ⟨rfl, x6⟩
        have X6 := x4'.trans x6
        go_wp2_with fail
        have hr := root_any bt bl c T a Rt.all w6 (PH.out _ X6)
        rw [show rootE T a Rt.all = 0 from by unfold rootE inR; rw [all_within]; simp; omega] at hr
        refine hr.mono ?_
        intro e w7 h7
        obtain ⟨bx, rfl, hbx, hsx, x7⟩ := h7.ok
        clear hr h7
        have X7 := X6.trans x7
        go_wp2_with fail
        refine (HL1.out _).mono ?_
        rintro e w8 ⟨rfl, x8⟩
        have X8 := X7.trans x8
        have HTA := Lib.hid (fun w' (x' : Ext [] w7 w') => (⟨hbx.ext x' (by simp), trivial⟩ : TokAt w' [bx] [((a : Int), Rt.all)]))
        have hbx7 := hbx.lt
        clear x4' X6 x6 x7 hbx hsx
        go_wp2_with fail
        have hd := derive_any bt bl c bx [] T ((a : Int), Rt.all) [] d Rt.all w8 (PH.out _ X8) (HTA.out _ x8) (by simp)
        have hE2 : derE T ((a : Int), Rt.all) (([] : List Nat).length + 1) d Rt.all = if T.inside d a = true then 0 else 1 := by
          unfold derE inR underB
          rw [all_within]
          simp
          intro h
          omega
        rw [hE2] at hd
        clear hE2
        have hD3 : ∀ w', Ext [] w7 w' → Calls Tryd.prog 11 #[.pointer (some ⟨bt, 0, none⟩), .pointer (some ⟨bx, 0, none⟩), .int .i64 (T.len : Nat), Rt.all.val] w' fun e w'' => e = .returned (.tuple #[.pointer none, .int .i64 2]) ∧ Ext [] w' w'' := by
          intro w' x'
          have := derive_any bt bl c bx [] T ((a : Int), Rt.all) [] (T.len : Nat) Rt.all w' (PH.out _ (X7.trans x')) (HTA.out _ x') (by simp)
          have hE : derE T ((a : Int), Rt.all) (([] : List Nat).length + 1) (T.len : Nat) Rt.all = 2 := by
            unfold derE inR
            simp
          rw [hE] at this
          exact this.mono fun e w'' h => h.no (by decide)
        have HD3 := Lib.hid hD3
        have hin := fun w' (x' : Ext [] wr w') => inside_any bt bl c d a T w' (PH.out _ x')
        have HS := fun w' (b2 : Nat) (x' : Ext [] w7 w') (hb : Blk w' b2 59 (tkCells ((d : Int), Rt.all) (.pointer (some ⟨bx, 0, none⟩)))) (hlt : bx < b2) => sound_any bt bl c [b2, bx] T [((d : Int), Rt.all), ((a : Int), Rt.all)] w' (PH.out _ (X7.trans x')) ⟨hb, HTA.out _ x'⟩ (by simp [Desc]; omega)
        have hsb : soundB T [((d : Int), Rt.all), ((a : Int), Rt.all)] = T.inside d a := by
          unfold soundB soundB underB inR
          rw [all_within]
          simp
          omega
        rw [hsb] at HS
        have HIN := Lib.hid hin
        have HSS := Lib.hid HS
        clear hsb hD3 hin HS
        generalize T.inside d a = q at *
        cases q with
        | false =>
          simp only [Bool.false_eq_true, if_false] at hd
          clear HSS
          refine hd.mono ?_
          intro e w9 h9
          obtain ⟨rfl, x9⟩ := h9.no (by decide)
          clear hd h9
          go_wp2_with fail
          refine (HIN.out _ (X8.trans x9)).mono ?_
          rintro e w10 ⟨rfl, x10⟩
          have X10 := (x8.trans x9).trans x10
          go_wp2_with fail
          refine (len_ok _ _ _ T w10 (PH.out _ (X7.trans X10))).mono ?_
          rintro e w11 ⟨rfl, rfl⟩
          go_wp2_with fail
          refine (HL1.out _).mono ?_
          rintro e w12 ⟨rfl, x12⟩
          have X12 := X10.trans x12
          go_wp2_with fail
          refine (HD3.out _ X12).mono ?_
          rintro e w13 ⟨rfl, x13⟩
          go_wp2_with fail
          go_ret
          exact ⟨rfl, x.trans (X7.trans (X12.trans x13))⟩
        | true =>
          simp only [if_true] at hd
          refine hd.mono ?_
          intro e w9 h9
          obtain ⟨b2, rfl, hb2, hsb2, x9⟩ := h9.ok
          clear hd h9
          have hlt2 : bx < b2 := by have := x8.size; omega
          go_wp2_with fail
          refine (HIN.out _ (X8.trans x9)).mono ?_
          rintro e w10 ⟨rfl, x10⟩
          have X10 := (x8.trans x9).trans x10
          go_wp2_with fail
          refine (len_ok _ _ _ T w10 (PH.out _ (X7.trans X10))).mono ?_
          rintro e w11 ⟨rfl, rfl⟩
          go_wp2_with fail
          refine (HL1.out _).mono ?_
          rintro e w12 ⟨rfl, x12⟩
          have X12 := X10.trans x12
          go_wp2_with fail
          refine (HD3.out _ X12).mono ?_
          rintro e w13 ⟨rfl, x13⟩
          have X13 := X12.trans x13
          have hb13 := hb2.ext (x10.trans (x12.trans x13)) (by simp)
          have hc13 := hb13.cell 0
          have hl13 := hb13.lt
          rw [show (tkCells ((d : Int), Rt.all) (.pointer (some ⟨bx, 0, none⟩)))[0]? = some (.int .i64 (d : Nat)) from rfl] at hc13
          go_wp2_with fail
          refine (HSS.out _ _ X13 hb13 hlt2).mono ?_
          rintro e w14 ⟨rfl, x14⟩
          go_wp2_with fail
          go_ret
          exact ⟨rfl, x.trans (X7.trans (X13.trans x14))⟩
end Go.Proofs.YtnjgehfnafdldaaDoor
