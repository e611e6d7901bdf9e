/- The laws of layer 6: few; the reference's IsMap. -/
import Derived.Test.YtkpckjkjlhaglaaDoorCanonB
import Derived.Test.YtkpckjkjlhaglaaDoorRof
namespace Go.Proofs.YtkpckjkjlhaglaaDoor
open Go.RowKit

def fewL (l : List Ins) : List Ins := (l.take 60).map m16
theorem fewL_length (l : List Ins) : (fewL l).length ≤ 60 := by unfold fewL; rw [List.length_map, List.length_take]; omega
set_option maxHeartbeats 2000000 in
set_option maxRecDepth 100000 in
theorem few_any (v : Value) (l : List Ins) (w : World) (hr : Reads w v 5 l.length (insV l)) (hl : l.length ≤ maxLen) :
    Calls Tryd.prog 4 #[v] w (InsPost w (fewL l)) := by
  obtain ⟨i1, hi, hz0, hz1, hz2⟩ := info_parts info_insn
  have HR := Lib.hid (fun (h0 : 0 < l.length) ao c (he : v = .slice ao l.length c) => ins_lit (he ▸ hr) h0)
  obtain ⟨ao, c, rfl, -, -, -⟩ := hr
  unfold maxLen at hl
  go_enter Tryd.func4, Tryd.ntmps4
  go_wp2_with fail
  go_loopw [3, 4, 5] (fun v i _ wr => ∃ k : Nat, k ≤ (fewL l).length ∧ i = .int .i64 (k : Int) ∧ wr.ownsRow 0 35 5 v k (insV ((fewL l).take k)) ∧ Ext [] w wr ∧ ∀ g, v.ownBlock = some g → w.heap.size ≤ g) (fun _ i _ _ => (fewL l).length - (intOf i).toNat)
  case atStart => exact ⟨0, by omega, rfl, by simpa [insV] using World.ownsRow_nil _ _ _ _, Ext.refl _ _, fun g h => by cases h⟩
  case round =>
    obtain ⟨k, hk, rfl, hown, x, hfr⟩ := hrel
    obtain ⟨va, vc, rfl⟩ := owns_slice hown
    have hfl : (fewL l).length = min 60 l.length := by unfold fewL; rw [List.length_map, List.length_take]
    by_cases hlt : k < (fewL l).length
    · have hkl : k < l.length := by omega
      obtain ⟨bb, oo, rfl, hbb, hcells⟩ := HR.out (by omega) ao c rfl
      have hc := fun j (hj : j < 5) => (x.cell (p := ⟨bb, oo + k * 5 + j, none⟩) hbb (by simp)).trans (hcells k hkl j hj)
      clear hcells
      have hst := Lib.hid (show (fewL l).take (k + 1) = (fewL l).take k ++ [m16 l[k]] by
        rw [List.take_succ_eq_append_getElem hlt]; simp [fewL])
      have hk60 : k < 60 := by omega
      generalize l[k] = y at *
      have c0 := hc 0 (by omega)
      have c1 := hc 1 (by omega)
      have c2 := hc 2 (by omega)
      have c3 := hc 3 (by omega)
      have c4 := hc 4 (by omega)
      simp only [Ins.cells, List.getElem?_cons_zero, List.getElem?_cons_succ, Nat.add_zero] at c0 c1 c2 c3 c4
      clear hc
      go_upto_region 6 with (fail)
      show Code.wp _ _ _ _ (wr.alloc (.cells y.cells.toArray 35))
      have BY := Blk.new wr 35 y.cells.toArray
      have x1 : Ext [] wr (wr.alloc (.cells y.cells.toArray 35)) := (Ext.refl _ _).alloc _
      have hown1 := owns_ext hown x1 (by simp)
      have hob : ∀ g, (Value.slice va k vc).ownBlock = some g → g < wr.heap.size := fun g hg => owns_lt hown hg
      have y1 := x.trans x1
      have hsz := x.size
      have hbl := BY.lt
      obtain ⟨by', hby⟩ : ∃ b, b = wr.heap.size := ⟨_, rfl⟩
      rw [← hby] at BY hbl hsz hob
      rw [← hby]
      clear hown x x1 c0 c1 c2 c3 c4 hby
      generalize wr.alloc (.cells y.cells.toArray 35) = w1 at *
      have d1 := BY.cell 1
      have d2 := BY.cell 2
      have f1 := BY.frozen 1
      have f2 := BY.frozen 2
      simp only [Ins.cells, List.getElem?_cons_zero, List.getElem?_cons_succ] at d1 d2
      go_upto_region 7 with (fail)
      have BY2 := (BY.set 1 (.int .u8 ((y.dst.toNat : Int) % 16))).set 2 (.int .u8 ((y.src.toNat : Int) % 16))
      have e2 : (y.cells.set 1 (.int .u8 ((y.dst.toNat : Int) % 16))).set 2 (.int .u8 ((y.src.toNat : Int) % 16)) = (m16 y).cells := by rw [m16_cells]; rfl
      rw [e2] at BY2
      have y2 : Ext [by'] w1 ((w1.setCell ⟨by', 1, none⟩ (.int .u8 ((y.dst.toNat : Int) % 16))).setCell ⟨by', 2, none⟩ (.int .u8 ((y.src.toNat : Int) % 16))) := ((Ext.refl _ _).setCell (.inl (by simp)) _).setCell (.inl (by simp)) _
      have hown2 := owns_ext hown1 y2 (by intro g hg; have := hob g hg; simp; omega)
      have y3 : Ext [] w ((w1.setCell ⟨by', 1, none⟩ (.int .u8 ((y.dst.toNat : Int) % 16))).setCell ⟨by', 2, none⟩ (.int .u8 ((y.src.toNat : Int) % 16))) := y1.trans' y2 (by intro i hi; simp at hi; subst hi; exact .inr hsz)
      clear hown1 y1 y2 BY d1 d2 f1 f2 e2
      generalize (w1.setCell ⟨by', 1, none⟩ (.int .u8 ((y.dst.toNat : Int) % 16))).setCell ⟨by', 2, none⟩ (.int .u8 ((y.src.toNat : Int) % 16)) = w2 at *
      have hcs := m16_cells y
      generalize m16 y = z at *
      obtain ⟨zc, hzc⟩ : ∃ zc, zc = z.cells := ⟨_, rfl⟩
      have d0 := BY2.cell 0
      have d1 := BY2.cell 1
      have d2 := BY2.cell 2
      have d3 := BY2.cell 3
      have d4 := BY2.cell 4
      simp only [Ins.cells, List.getElem?_cons_zero, List.getElem?_cons_succ] at d0 d1 d2 d3 d4
      clear hcs
      go_wp2_with (at_builtin; go_must (refine wpList_app _ rfl (.tmp 28) (.tmp 30) 22 rfl 35 i1 _ 5 12 Tryd.underlying22 hi hz0 hz1 hz2 rfl (by decide) _ _ _ rfl (owns_ext hown2 ((Ext.refl [] w2).alloc _) (by simp)) _ 1 _ rfl (blk_reads (Blk.new w2 _ _) 1 rfl) (by intro u hu; simp at hu; rcases hu with rfl | rfl | rfl | rfl | rfl <;> rfl) (by unfold maxLen; omega) (by omega) ?_); intro v3 w3 hown3 hgrow3 hfr3 _)
      go_roundw
      case rel =>
        refine ⟨k + 1, by omega, by go_num, ?_, (y3.alloc _).grown hgrow3 (by intro g hg; exact .inr (hfr g hg)), ?_⟩
        · rw [hst.out, insV_append, insV_one]
          exact hown3
        · intro g hg
          have := y3.size
          rcases hfr3 with h | ⟨g', h, hle'⟩
          · exact hfr g (h ▸ hg)
          · rw [h] at hg; obtain rfl := Option.some.inj hg; simp at hle'; omega
      case measure => simp [intOf]; omega
    · have HK := Lib.hid (show k = (fewL l).length by omega)
      have e : (fewL l).take k = fewL l := by rw [HK.out, List.take_length]
      rw [e] at hown
      by_cases h60 : k < l.length
      · have h61 : ¬ k < 60 := by omega
        clear hk hlt hfl e
        go_wp2_with fail
        go_ret
        refine ⟨_, rfl, ?_, x, hfr⟩
        rw [← HK.out]
        exact hown
      · clear hk hlt hfl e
        go_wp2_with fail
        go_ret
        refine ⟨_, rfl, ?_, x, hfr⟩
        rw [← HK.out]
        exact hown

set_option maxHeartbeats 2000000 in
theorem ismap_any (x : Ins) (w : World) :
    Calls Tryd.prog 9 #[.agg x.cells.toArray] w fun e w' => e = .returned (.bool (isMapI x)) ∧ Ext [] w w' := by
  have hfk := fun (k : Int) (b c d e : Value) (w : World) => (show (Instr.field 43 (.agg #[.int .i64 k, b, c, d, e]) 0).run Tryd.prog w = .ok (.int .i64 k) w from by kernel_rfl)
  have hof := Lib.hid (fun w' => rof_any x.op.toNat x.op.toNat_lt w')
  have HM := Lib.hid (show isMapI x = (decide ((partsN x.op.toNat).kind = 9) && decide (x.src.toNat = 1)) from rfl)
  generalize partsN x.op.toNat = p at *
  obtain ⟨kind, op, size, long, reg⟩ := p
  simp only [Prt.cells] at hof HM
  obtain ⟨bk, hbk⟩ : ∃ b : Bool, b = decide (kind = 9) := ⟨_, rfl⟩
  have hkb : ((kind : Int) == 9) = bk := by rw [hbk, Bool.eq_iff_iff]; simp; omega
  rw [← hbk] at HM
  clear hbk
  obtain ⟨bs, hbs⟩ : ∃ b : Bool, b = decide (x.src.toNat = 1) := ⟨_, rfl⟩
  have hsb : ((x.src.toNat : Int) == 1) = bs := by rw [hbs, Bool.eq_iff_iff]; simp; omega
  rw [← hbs] at HM
  clear hbs
  cases bk <;> cases bs
  all_goals
    go_enter Tryd.func9, Tryd.ntmps9
    go_upto_region 1 with (fail)
    have B := Blk.new w 35 x.cells.toArray
    have x1 : Ext [] w (w.alloc (.cells x.cells.toArray 35)) := (Ext.refl _ _).alloc _
    show Code.wp _ _ _ _ (w.alloc (.cells x.cells.toArray 35))
    have hlt := B.lt
    generalize w.alloc (.cells x.cells.toArray 35) = w1 at *
    have c0 := B.cell 0
    simp only [Ins.cells, List.getElem?_cons_zero] at c0
    go_wp2_with fail
    refine (hof.out w1).mono ?_
    rintro e w2 ⟨rfl, x2⟩
    have c2 := (B.ext x2 (by simp)).cell 2
    simp only [Ins.cells, List.getElem?_cons_zero, List.getElem?_cons_succ] at c2
    go_wp2_with fail
    go_ret
    exact ⟨by rw [HM.out]; rfl, x1.trans x2⟩
end Go.Proofs.YtkpckjkjlhaglaaDoor
