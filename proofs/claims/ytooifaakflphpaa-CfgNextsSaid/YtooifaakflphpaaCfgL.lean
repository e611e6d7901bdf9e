/- The statement CfgNexts. -/
import Derived.Test.YtooifaakflphpaaCfgK
import Derived.Test.YtooifaakflphpaaEqI
namespace Go.Proofs.Ytooifaakflphpaa
open Go.RowKit
set_option maxRecDepth 100000

set_option maxHeartbeats 8000000 in
theorem nexts_walk (v : Value) (l0 : List Ins) (at' : Int) (w : World) (h : InsArg w v l0) :
    Calls Try.prog 3 #[v, .int .i64 at'] w fun e w' => e = .returned (.bool true) ∧ Ext [] w w' := by
  obtain ⟨i1, hi, hz0, hz1, hz2⟩ := info_parts info_insnK
  have HF := Lib.hid (cfew_any v l0 w h)
  obtain ⟨ao, c, rfl, -, -, -⟩ := h
  have hl : (l0.take 40).length ≤ 40 := by rw [List.length_take]; omega
  generalize l0.take 40 = l at *
  go_enter Try.func3, Try.ntmps3
  go_wp2_with fail
  refine HF.out.mono ?_
  rintro e w1 ⟨v1, rfl, hown1, x1, -⟩
  obtain ⟨va, vc, rfl⟩ := owns_slice hown1
  clear HF
  go_upto_region 3 with (at_builtin; go_must (refine wpList_app _ rfl (.tmp 14) (.tmp 15) 22 rfl 31 i1 _ 5 12 Try.underlying22 hi hz0 hz1 hz2 rfl (by decide) (.slice (some ⟨w1.heap.size, 0, none⟩) 0 0) 0 [] rfl ((Blk.new w1 31 #[]).owns rfl (Nat.zero_le _)) (.slice va l.length vc) l.length (insV l) rfl (owns_reads (owns_ext hown1 ((Ext.refl [] w1).alloc _) (by simp))) (insV_oneCell l) (by unfold maxLen; omega) (by omega) ?_); intro v2 w2 hown2 hgrow2 hfr2 _)
  simp only [Nat.zero_add, List.nil_append] at hown2
  have x12 : Ext [] w1 w2 := ((Ext.refl [] w1).alloc _).grown hgrow2 (by intro g hg; simp [Value.ownBlock] at hg; exact .inr (by omega))
  have hown1 := owns_ext hown1 x12 (by simp)
  have x02 := x1.trans x12
  obtain ⟨va2, vc2, rfl⟩ := owns_slice hown2
  have HRD := Lib.hid (fun w' (x' : Ext [] w2 w') => (owns_reads hown1).ext x')
  have HR1 := Lib.hid (fun w' (x' : Ext [] w2 w') (h0 : 0 < l.length) => ins_lit ((owns_reads hown1).ext x') h0)
  have HR2 := Lib.hid (fun w' (x' : Ext [] w2 w') (h0 : 0 < l.length) => ins_lit ((owns_reads hown2).ext x') h0)
  clear hown1 hown2 hgrow2 hfr2 x1 x12
  go_wp2_with fail
  refine (next_any _ l at' w2 (HRD.out _ (Ext.refl _ _)) (by omega)).mono ?_
  rintro e w3 ⟨u1, rfl, ho1, x3, -⟩
  obtain ⟨ua, uc, rfl⟩ := owns_slice ho1
  go_wp2_with fail
  refine (rnext_any _ l at' w3 (HRD.out _ x3) (by omega)).mono ?_
  rintro e w4 ⟨u2, rfl, ho2, x4, -⟩
  obtain ⟨ub, ud, rfl⟩ := owns_slice ho2
  have ho1 := owns_ext ho1 x4 (by simp)
  have x24 := x3.trans x4
  go_wp2_with fail
  refine (reach_any _ l w4 (HRD.out _ x24) (by omega)).mono ?_
  have hbl : (reachL l).length = l.length := by simp [reachL]
  rintro e w5 ⟨u3, rfl, ho3, x5, -⟩
  rw [hbl] at ho3
  obtain ⟨ue, uf, rfl⟩ := owns_slice ho3
  have ho1 := owns_ext ho1 x5 (by simp)
  have ho2 := owns_ext ho2 x5 (by simp)
  have x25 := x24.trans x5
  go_wp2_with fail
  refine (rreach_any _ l w5 (HRD.out _ x25) (by omega)).mono ?_
  rintro e w6 ⟨u4, rfl, ho4, x6, -⟩
  rw [hbl] at ho4
  clear hbl
  obtain ⟨ug, uh, rfl⟩ := owns_slice ho4
  have ho1 := owns_ext ho1 x6 (by simp)
  have ho2 := owns_ext ho2 x6 (by simp)
  have ho3 := owns_ext ho3 x6 (by simp)
  have x26 := x25.trans x6
  go_wp2_with fail
  refine (goes_any w6).mono ?_
  rintro e w7 ⟨rfl, x7⟩
  have x27 := x26.trans x7
  have hzl : (nxA l at').length ≤ 2 := by unfold nxA; split; exact nxL_len _ _; simp
  have HA := Lib.hid (fun w' (x' : Ext [] w7 w') k hk => ints_at w' _ (nxA l at') (owns_ext ho1 (x7.trans x') (by simp)) k hk)
  have HB := Lib.hid (fun w' (x' : Ext [] w7 w') k hk => ints_at w' _ (nxA l at') (owns_ext ho2 (x7.trans x') (by simp)) k hk)
  have HX := Lib.hid (fun w' (x' : Ext [] w7 w') k hk => owns_get (owns_ext ho3 (x7.trans x') (by simp)) k hk)
  have HY := Lib.hid (fun w' (x' : Ext [] w7 w') k hk => owns_get (owns_ext ho4 (x7.trans x') (by simp)) k hk)
  have HRI := Lib.hid (fun k (hk : k < l.length) => (show ((reachL l).map Value.bool)[k]? = some (.bool (rchM l k)) from by
    unfold reachL
    rw [List.map_map, List.getElem?_map, List.getElem?_range hk]
    rfl))
  have HR1 := Lib.hid (fun w' (x' : Ext [] w7 w') h0 => HR1.out w' (x27.trans x') h0)
  have HR2 := Lib.hid (fun w' (x' : Ext [] w7 w') h0 => HR2.out w' (x27.trans x') h0)
  have x07 := x02.trans x27
  clear ho1 ho2 ho3 ho4 x3 x4 x24 x5 x25 x6 x26 x7 x27 x02 HRD
  generalize nxA l at' = zs at *
  generalize reachL l = bs at *
  go_wp2_with fail
  go_loopw [10] (fun i wr => ∃ k : Nat, k ≤ zs.length ∧ i = .int .i64 (k : Int) ∧ Ext [] w7 wr) (fun i _ => zs.length - (intOf i).toNat)
  case atStart => exact ⟨0, Nat.zero_le _, rfl, Ext.refl _ _⟩
  case round =>
    obtain ⟨k, hk, rfl, x⟩ := hrel
    by_cases hlt : k < zs.length
    · obtain ⟨g1, c1, cur1, e1, -, -, -, -, hc1⟩ := HA.out wr x k hlt
      obtain ⟨g2, c2, cur2, e2, -, -, -, -, hc2⟩ := HB.out wr x k hlt
      cases e1
      cases e2
      generalize zs.getD k 0 = y at *
      go_upto_region 10 with (fail)
      go_quiet (fail)
      have x9 : Ext [] w7 (wr.drewN nq) := x.drewN nq
      go_wp2_with fail
      go_roundw
      case rel => exact ⟨k + 1, by omega, by go_num, x9⟩
      case measure => simp [intOf]; omega
    · go_wp2_with fail
      have x77 := x07.trans x
      obtain ⟨wo, hwo⟩ : ∃ wo : World, wo = wr := ⟨_, rfl⟩
      have x77' : Ext [] w7 wo := by rw [hwo]; exact x
      rw [← hwo] at x77 ⊢
      clear HA HB hwo
      go_loopw [11] (fun i wx => ∃ k : Nat, k ≤ l.length ∧ i = .int .i64 (k : Int) ∧ Ext [] wo wx) (fun i _ => l.length - (intOf i).toNat)
      case atStart => exact ⟨0, Nat.zero_le _, rfl, Ext.refl _ _⟩
      case round =>
        clear x
        obtain ⟨k, hk, rfl, x⟩ := hrel
        by_cases hlt : k < l.length
        · obtain ⟨g1, rfl, hg1, hc1, -⟩ := HX.out wr (x77'.trans x) k hlt
          obtain ⟨g2, rfl, hg2, hc2, -⟩ := HY.out wr (x77'.trans x) k hlt
          rw [HRI.out k hlt] at hc1 hc2
          generalize rchM l k = bk at *
          obtain ⟨b1, o1, rfl, hb1, hi1⟩ := HR1.out wr (x77'.trans x) (by omega)
          obtain ⟨b2, o2, rfl, hb2, hi2⟩ := HR2.out wr (x77'.trans x) (by omega)
          have hq1 := fun j hj => hi1 k hlt j hj
          have hq2 := fun j hj => hi2 k hlt j hj
          obtain ⟨y1, hy1⟩ : ∃ y, y = l[k] := ⟨_, rfl⟩
          obtain ⟨y2, hy2⟩ : ∃ y, y = l[k] := ⟨_, rfl⟩
          rw [← hy1] at hq1
          rw [← hy2] at hq2
          have hn := fun w => neq_insn y1 y2 w
          rw [decide_eq_true (hy1.trans hy2.symm)] at hn
          clear hi1 hi2 hy1 hy2
          have c0 := hq1 0 (by omega)
          have c1 := hq1 1 (by omega)
          have c2 := hq1 2 (by omega)
          have c3 := hq1 3 (by omega)
          have c4 := hq1 4 (by omega)
          have d0 := hq2 0 (by omega)
          have d1 := hq2 1 (by omega)
          have d2 := hq2 2 (by omega)
          have d3 := hq2 3 (by omega)
          have d4 := hq2 4 (by omega)
          simp only [Ins.cells, List.getElem?_cons_zero, List.getElem?_cons_succ, Nat.add_zero, Bool.not_true] at c0 c1 c2 c3 c4 d0 d1 d2 d3 d4 hn
          clear hq1 hq2
          have hbb : (bk != bk) = false := by simp
          go_upto_region 15 with (fail)
          go_quiet (fail)
          have x9 := x.drewN nq
          go_wp2_with fail
          go_roundw
          case rel => exact ⟨k + 1, by omega, by go_num, x9⟩
          case measure => simp [intOf]; omega
        · go_wp2_with fail
          go_ret
          exact ⟨rfl, x77.trans x⟩
end Go.Proofs.Ytooifaakflphpaa
