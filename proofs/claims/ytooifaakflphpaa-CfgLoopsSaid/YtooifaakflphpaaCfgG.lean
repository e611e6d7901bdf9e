/- The reference of layer 16: Next. -/
import Derived.Outline
import Derived.Deep.CutRange
import Derived.Deep.CutBlock
import Derived.Test.YtooifaakflphpaaCfgC
import Derived.Test.YtooifaakflphpaaRof
namespace Go.Proofs.Ytooifaakflphpaa
open Go.RowKit
set_option maxRecDepth 100000

set_option maxHeartbeats 8000000 in
theorem rnext_any (v : Value) (l : List Ins) (k : Int) (w : World) (hr : Reads w v 5 l.length (insV l)) (hl : l.length ≤ 100000) :
    Calls Try.prog 10 #[v, .int .i64 k] w (IntsPost w (nxA l k)) := by
  have hfk := fun (k : Int) (b c d e : Value) (w : World) => (show (Instr.field 45 (.agg #[.int .i64 k, b, c, d, e]) 0).run Try.prog w = .ok (.int .i64 k) w from by kernel_rfl)
  obtain ⟨i0, hi, hz0, hz1, hz2⟩ := info_parts (show (Try.prog.info? 3).map (fun i => (i.zero, i.size, i.bytes)) = some (some (.int .i64 0), 1, 8) by kernel_rfl)
  have HR := Lib.hid (fun (h0 : 0 < l.length) ao c (he : v = .slice ao l.length c) => ins_lit (he ▸ hr) h0)
  obtain ⟨ao, c, rfl, -, -, -⟩ := hr
  obtain ⟨zs, hzs⟩ : ∃ zs, zs = nxA l k := ⟨_, rfl⟩
  have HM := Lib.hid hzs
  rw [← hzs]
  clear hzs
  by_cases hk : 0 ≤ k ∧ k < (l.length : Int)
  · obtain ⟨k, rfl⟩ : ∃ n : Nat, k = (n : Int) := ⟨k.toNat, by omega⟩
    have hkl : k < l.length := by omega
    obtain ⟨bb, oo, rfl, hbb, hcells⟩ := HR.out (by omega) ao c rfl
    have hc := fun j (hj : j < 5) => hcells k hkl j hj
    have HZ := Lib.hid (show zs = (behindM (k : Int) l[k]).filter (inL l.length) by
      rw [HM.out]; unfold nxA nxL; rw [if_pos (by omega), Int.toNat_natCast, List.getElem?_eq_getElem hkl])
    generalize l[k] = x at *
    have HLN := Lib.hid (behindM_len (k : Int) x)
    have ho1 : -32768 ≤ x.off.toInt := by have := x.off.le_toInt; simpa using this
    have ho2 : x.off.toInt ≤ 32767 := by have := x.off.toInt_lt; simp at this; omega
    have hof := Lib.hid (fun w' => rof_any x.op.toNat x.op.toNat_lt w')
    have HKM := Lib.hid (show kindM x = (partsN x.op.toNat).kind from rfl)
    have c0 := hc 0 (by omega)
    have c1 := hc 1 (by omega)
    have c2 := hc 2 (by omega)
    have c3 := hc 3 (by omega)
    have c4 := hc 4 (by omega)
    simp only [Ins.cells, List.getElem?_cons_zero, List.getElem?_cons_succ, Nat.add_zero] at c0 c1 c2 c3 c4
    clear HR hcells HM hk hc
    go_enter Try.func10, Try.ntmps10
    go_upto_region 5 with (fail)
    have B := Blk.new w 31 x.cells.toArray
    have x1 : Ext [] w (w.alloc (.cells x.cells.toArray 31)) := (Ext.refl _ _).alloc _
    show Code.wp _ _ _ _ (w.alloc (.cells x.cells.toArray 31))
    have hlt := B.lt
    generalize w.heap.size = bx at B hlt ⊢
    clear c0 c1 c2 c3 c4
    generalize w.alloc (.cells x.cells.toArray 31) = w1 at *
    have c0 := B.cell 0
    have c3 := B.cell 3
    simp only [Ins.cells, List.getElem?_cons_zero, List.getElem?_cons_succ] at c0 c3
    obtain ⟨t, ht⟩ : ∃ t, t = (k : Int) + x.off.toInt + 1 := ⟨_, rfl⟩
    have ht1 : -40000 ≤ t := by omega
    have ht2 : t ≤ 2000000 := by omega
    go_upto_region 6 with (fail)
    rw [← ht]
    obtain ⟨ys, hys⟩ : ∃ ys, ys = behindM (k : Int) x := ⟨_, rfl⟩
    have HY := Lib.hid hys
    rw [← hys] at HZ HLN
    clear hys
    unfold behindM at HY
    rw [← ht] at HY
    clear ht ho1 ho2 c3
    go_wp2_with fail
    refine (hof.out w1).mono ?_
    rintro e w2 ⟨rfl, x2⟩
    have x02 := x1.trans x2
    rw [HKM.out] at HY
    clear B c0 x1 x2 hof HKM hlt
    generalize partsN x.op.toNat = pp at *
    obtain ⟨kx, op, size, long, reg⟩ := pp
    simp only [Prt.cells] at HY ⊢
    go_upto_block 0 with (fail)
    go_cut [5] (fun v5 wx => wx.ownsRow 0 3 1 v5 ys.length (ys.map (Value.int .i64)) ∧ Ext [] w wx)
    case first =>
      rcases (show (kx = 0 ∨ kx = 5 ∨ kx = 10) ∨ kx = 3 ∨ kx = 2 ∨ kx = 9 ∨ (kx ≠ 0 ∧ kx ≠ 5 ∧ kx ≠ 10 ∧ kx ≠ 3 ∧ kx ≠ 2 ∧ kx ≠ 9) by omega) with h | rfl | rfl | rfl | h
      · have HZ := Lib.hid (show ys = [] by rw [HY.out, if_pos h])
        clear HY
        rcases h with rfl | rfl | rfl
        all_goals
          go_wp2_with fail
          go_meet
          refine ⟨?_, x02⟩
          rw [HZ.out]
          exact World.ownsRow_nil _ _ _ _
      · have HZ := Lib.hid (show ys = [t] by rw [HY.out]; rfl)
        clear HY
        go_wp2_with fail
        go_meet
        refine ⟨?_, x02.alloc _⟩
        rw [HZ.out]
        exact (Blk.new w2 3 #[.int .i64 t]).owns rfl (by unfold maxLen; omega)
      · have HZ := Lib.hid (show ys = (if t = (k : Int) + 1 then [(k : Int) + 1] else if t < (k : Int) + 1 then [t, (k : Int) + 1] else [(k : Int) + 1, t]) by rw [HY.out]; rfl)
        clear HY
        rcases Int.lt_trichotomy t ((k : Int) + 1) with h | h | h
        · have HZ2 := Lib.hid (show ys = [t, (k : Int) + 1] by rw [HZ.out, if_neg (by omega), if_pos h])
          have hq : (t == (k : Int) + 1) = false := by rw [beq_eq_false_iff_ne]; omega
          have hmin : min t ((k : Int) + 1) = t := by omega
          have hmax : max t ((k : Int) + 1) = (k : Int) + 1 := by omega
          go_wp2_with fail
          go_meet
          refine ⟨?_, x02.alloc _⟩
          rw [HZ2.out]
          exact (Blk.new w2 3 #[.int .i64 t, .int .i64 ((k : Int) + 1)]).owns rfl (by unfold maxLen; omega)
        · have HZ2 := Lib.hid (show ys = [t] by rw [HZ.out, if_pos h, h])
          have hq : (t == (k : Int) + 1) = true := by rw [beq_iff_eq]; omega
          have hmin : min t ((k : Int) + 1) = t := by omega
          have hmax : max t ((k : Int) + 1) = t := by omega
          clear h
          go_wp2_with fail
          go_meet
          refine ⟨?_, (x02.alloc _).alloc _⟩
          rw [HZ2.out]
          exact (Blk.new' (w2.alloc (.cells #[.int .i64 t, .int .i64 t] 3)) 3 #[.int .i64 t] _ (by simp)).owns rfl (by unfold maxLen; omega)
        · have HZ2 := Lib.hid (show ys = [(k : Int) + 1, t] by rw [HZ.out, if_neg (by omega), if_neg (by omega)])
          have hq : (t == (k : Int) + 1) = false := by rw [beq_eq_false_iff_ne]; omega
          have hmin : min t ((k : Int) + 1) = (k : Int) + 1 := by omega
          have hmax : max t ((k : Int) + 1) = t := by omega
          go_wp2_with fail
          go_meet
          refine ⟨?_, x02.alloc _⟩
          rw [HZ2.out]
          exact (Blk.new w2 3 #[.int .i64 ((k : Int) + 1), .int .i64 t]).owns rfl (by unfold maxLen; omega)
      · have HZ := Lib.hid (show ys = [(k : Int) + 2] by rw [HY.out]; rfl)
        clear HY
        go_wp2_with fail
        go_meet
        refine ⟨?_, x02.alloc _⟩
        rw [HZ.out]
        exact (Blk.new w2 3 #[.int .i64 ((k : Int) + 2)]).owns rfl (by unfold maxLen; omega)
      · obtain ⟨k0, k5, k10, k3, k2, k9⟩ := h
        have HZ := Lib.hid (show ys = [(k : Int) + 1] by rw [HY.out, if_neg (by omega), if_neg k3, if_neg k2, if_neg k9])
        have e0 : ((kx : Int) == 0) = false := by rw [beq_eq_false_iff_ne]; omega
        have e5 : ((kx : Int) == 5) = false := by rw [beq_eq_false_iff_ne]; omega
        have e10 : ((kx : Int) == 10) = false := by rw [beq_eq_false_iff_ne]; omega
        have e3 : ((kx : Int) == 3) = false := by rw [beq_eq_false_iff_ne]; omega
        have e2 : ((kx : Int) == 2) = false := by rw [beq_eq_false_iff_ne]; omega
        have e9 : ((kx : Int) == 9) = false := by rw [beq_eq_false_iff_ne]; omega
        clear HY k0 k5 k10 k3 k2 k9
        go_wp2_with fail
        go_meet
        refine ⟨?_, x02.alloc _⟩
        rw [HZ.out]
        exact (Blk.new w2 3 #[.int .i64 ((k : Int) + 1)]).owns rfl (by unfold maxLen; omega)
    case rest =>
      obtain ⟨hown, x3⟩ := hcut
      clear HY x02
      obtain ⟨va, vc, rfl⟩ := owns_slice hown
      have HL := Lib.hid hown
      have hlen2 := HLN.out
      have HAT := Lib.hid (fun w' (x' : Ext [] wc w') j (hj : j < ys.length) => ints_at w' (.slice va ys.length vc) ys (owns_ext hown x' (by simp)) j hj)
      have HSX := Lib.hid (fun j (hj : j < ys.length) => take_filter_succ l.length ys j hj)
      clear hown
      go_wp2_with fail
      go_loopw [8, 9] (fun v8 i wr => ∃ j : Nat, j ≤ ys.length ∧ i = .int .i64 (j : Int) ∧ wr.ownsRow 0 3 1 v8 ((ys.take j).filter (inL l.length)).length (((ys.take j).filter (inL l.length)).map (Value.int .i64)) ∧ Ext [] wc wr ∧ ∀ g, v8.ownBlock = some g → wc.heap.size ≤ g) (fun _ i _ => ys.length - (intOf i).toNat)
      case atStart => exact ⟨0, Nat.zero_le _, rfl, by simpa using World.ownsRow_nil _ _ _ _, Ext.refl _ _, fun g h => by cases h⟩
      case round =>
        obtain ⟨j, hj, rfl, hown, x, hfr⟩ := hrel
        by_cases hlt2 : j < ys.length
        · obtain ⟨g, c', cur, he, -, -, -, -, hcj⟩ := HAT.out wr x j hlt2
          cases he
          have HS := Lib.hid (HSX.out j hlt2)
          have hfl : ((ys.take j).filter (inL l.length)).length ≤ j := Nat.le_trans (List.length_filter_le _ _) (by rw [List.length_take]; omega)
          generalize (ys.take j).filter (inL l.length) = fs at *
          obtain ⟨y, hy⟩ : ∃ y, ys.getD j 0 = y := ⟨_, rfl⟩
          rw [hy] at HS hcj
          clear hy
          by_cases hin : 0 ≤ y ∧ y < (l.length : Int)
          · obtain ⟨y0, y1⟩ := hin
            have HS2 := Lib.hid (show (ys.take (j + 1)).filter (inL l.length) = fs ++ [y] by rw [HS.out]; unfold inL; rw [decide_eq_true y0, decide_eq_true y1]; rfl)
            clear HS
            obtain ⟨v8a, v8c, rfl⟩ := owns_slice hown
            go_wp2_with (at_builtin; go_must (refine wpList_app _ rfl (.tmp 85) (.tmp 90) 24 rfl 3 i0 _ 1 8 Try.underlying24 hi hz0 hz1 hz2 rfl (by decide) _ _ _ rfl (owns_ext hown ((Ext.refl [] wr).alloc _) (by simp)) _ 1 _ rfl (blk_reads (Blk.new wr _ _) 1 rfl) (by intro u hu; simp at hu; subst hu; rfl) (by unfold maxLen; omega) (by omega) ?_); intro v3 w3 hown3 hgrow3 hfr3 _)
            go_roundw
            case rel =>
              refine ⟨j + 1, by omega, by go_num, ?_, (x.alloc _).grown hgrow3 (by intro g hg; exact .inr (hfr g hg)), ?_⟩
              · rw [HS2.out, List.length_append, List.map_append]
                exact hown3
              · intro g hg
                have := x.size
                rcases hfr3 with h | ⟨g', h, hle'⟩
                · exact hfr g (h ▸ hg)
                · rw [h] at hg; obtain rfl := Option.some.inj hg; simp at hle'; omega
            case measure => simp [intOf]; omega
          · have HS2 := Lib.hid (show (ys.take (j + 1)).filter (inL l.length) = fs by
              rw [HS.out]
              unfold inL
              by_cases y0 : 0 ≤ y
              · rw [decide_eq_false (show ¬ y < (l.length : Int) by omega), Bool.and_false]; simp
              · rw [decide_eq_false y0]; simp)
            clear HS
            rcases (show y < 0 ∨ (l.length : Int) ≤ y by omega) with h | h
            all_goals
              clear hin
              go_wp2_with fail
              go_roundw
              case rel => exact ⟨j + 1, by omega, by go_num, by rw [HS2.out]; exact hown, x, hfr⟩
              case measure => simp [intOf]; omega
        · obtain rfl : j = ys.length := by omega
          rw [List.take_length, ← HZ.out] at hown
          have hws := x3.size
          have HO := Lib.hid hown
          obtain ⟨v8a, v8c, rfl⟩ := owns_slice hown
          clear hown
          go_wp2_with fail
          go_ret
          exact ⟨_, rfl, HO.out, x3.trans x, fun g h => by have := hfr g h; omega⟩
  · have HZ := Lib.hid (show zs = [] by
      rw [HM.out]; unfold nxA nxL
      split
      · rw [List.getElem?_eq_none (by omega)]
      · rfl)
    clear HM HR
    by_cases h0 : k < 0
    all_goals
      try (have h1 : (l.length : Int) ≤ k := by omega)
      clear hk
      go_enter Try.func10, Try.ntmps10
      go_wp2_with fail
      go_ret
      refine ⟨_, rfl, ?_, Ext.refl _ _, fun g h => by cases h⟩
      rw [HZ.out]
      exact World.ownsRow_nil _ _ _ _
end Go.Proofs.Ytooifaakflphpaa
