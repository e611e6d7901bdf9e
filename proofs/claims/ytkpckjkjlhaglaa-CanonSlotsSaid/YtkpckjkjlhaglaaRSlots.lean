/- The reference's Slots. -/
import Derived.Test.YtkpckjkjlhaglaaFew
namespace Go.Proofs.Ytkpckjkjlhaglaa
open Go.RowKit

/-- What the reference answers. -/
def RSlotsPost (w : World) (l : List Ins) (e : Ending) (w' : World) : Prop :=
  ∃ v5 v6, e = .returned (.tuple #[v5, v6, .bool (decide ((fdsOf l).length ≤ 4))]) ∧ w'.ownsRow 0 27 5 v5 l.length (insV (outOf l)) ∧ w'.ownsRow 0 21 1 v6 (fdsOf l).length (immV (fdsOf l)) ∧ Ext [] w w' ∧
      (∀ g, v5.ownBlock = some g → w.heap.size ≤ g) ∧ (∀ g, v6.ownBlock = some g → w.heap.size ≤ g)

theorem idx_notin (l : List (BitVec 32)) (b : BitVec 32) (k : Nat) (hk : k ≤ l.length) (hn : ∀ j (hj : j < l.length), j < k → l[j] ≠ b) : k ≤ l.idxOf b := by
  rcases Nat.lt_or_ge (l.idxOf b) k with h | h
  · exact absurd (List.getElem_idxOf (by omega)) (hn (l.idxOf b) (by omega) h)
  · exact h
theorem idx_at (l : List (BitVec 32)) (b : BitVec 32) (k : Nat) (hk : k < l.length) (hn : ∀ j (hj : j < l.length), j < k → l[j] ≠ b) (he : l[k] = b) : l.idxOf b = k := by
  have h1 := idx_notin l b k (by omega) hn
  rcases Nat.lt_or_ge k (l.idxOf b) with h | h
  · unfold List.idxOf at h
    have := List.not_of_lt_findIdx h
    rw [he] at this
    simp at this
  · omega

set_option maxHeartbeats 8000000 in
set_option maxRecDepth 100000 in
theorem rslots_any (v : Value) (l : List Ins) (w : World) (hr : Reads w v 5 l.length (insV l)) (hl : l.length ≤ 10000) :
    Calls Try.prog 9 #[v] w (RSlotsPost w l) := by
  obtain ⟨i0, hi, hz0, hz1, hz2⟩ := info_parts info_i32
  obtain ⟨i1, hi', hz0', hz1', hz2'⟩ := info_parts info_insn
  have HP := Lib.hid (show ∀ e w', RSlotsPost w l e w' = (∃ v5 v6, e = .returned (.tuple #[v5, v6, .bool (decide ((fdsOf l).length ≤ 4))]) ∧ w'.ownsRow 0 27 5 v5 l.length (insV (outOf l)) ∧ w'.ownsRow 0 21 1 v6 (fdsOf l).length (immV (fdsOf l)) ∧ Ext [] w w' ∧ (∀ g, v5.ownBlock = some g → w.heap.size ≤ g) ∧ (∀ g, v6.ownBlock = some g → w.heap.size ≤ g)) from fun _ _ => rfl)
  have HR := Lib.hid (fun (h0 : 0 < l.length) ao c (he : v = .slice ao l.length c) => ins_lit (he ▸ hr) h0)
  obtain ⟨ao, c, rfl, -, -, -⟩ := hr
  go_enter Try.func9, Try.ntmps9
  go_wp2_with fail
  go_loopw [5, 6, 7, 8, 9] (fun o f i _ _ wr => ∃ k : Nat, k ≤ l.length ∧ i = .int .i64 (k : Int) ∧ wr.ownsRow 0 27 5 o k (insV (outOf (l.take k))) ∧ wr.ownsRow 0 21 1 f (fdsOf (l.take k)).length (immV (fdsOf (l.take k))) ∧ Ext [] w wr ∧ (∀ g, o.ownBlock = some g → w.heap.size ≤ g) ∧ (∀ g, f.ownBlock = some g → w.heap.size ≤ g) ∧ (∀ g, f.ownBlock = some g → o.ownBlock ≠ some g)) (fun _ _ i _ _ _ => l.length - (intOf i).toNat)
  case atStart => exact ⟨0, by omega, rfl, by simpa [outOf, outFrom, insV] using World.ownsRow_nil _ _ _ _, by simpa [fdsOf, immV] using World.ownsRow_nil _ _ _ _, Ext.refl _ _, (fun g h => by cases h), (fun g h => by cases h), (fun g h => by cases h)⟩
  case round =>
    obtain ⟨k, hk, rfl, ho, hf, x, fro, frf, hap⟩ := hrel
    obtain ⟨oa, oc, rfl⟩ := owns_slice ho
    obtain ⟨fa, fc, rfl⟩ := owns_slice hf
    by_cases hlt : k < l.length
    · obtain ⟨bb, oo, rfl, hbb, hcells⟩ := HR.out (by omega) ao c rfl
      have hc := fun j (hj : j < 5) => (x.cell (p := ⟨bb, oo + k * 5 + j, none⟩) hbb (by simp)).trans (hcells k hlt j hj)
      clear hcells
      have hfl : (fdsOf (l.take k)).length ≤ k := by have := fdsOf_length (l.take k); rw [List.length_take] at this; omega
      have hst := Lib.hid (show outOf (l.take (k + 1)) = outOf (l.take k) ++ [stepI (fdsOf (l.take k)) l[k]] by rw [List.take_succ_eq_append_getElem hlt, outOf_snoc])
      have hfs := Lib.hid (show fdsOf (l.take (k + 1)) = stepF (fdsOf (l.take k)) l[k] by rw [List.take_succ_eq_append_getElem hlt, fdsOf_snoc])
      generalize l[k] = y at *
      generalize fdsOf (l.take k) = fds at *
      generalize outOf (l.take k) = outs at *
      have c0 := hc 0 (by omega)
      have c1 := hc 1 (by omega)
      have c2 := hc 2 (by omega)
      have c3 := hc 3 (by omega)
      have c4 := hc 4 (by omega)
      simp only [Ins.cells, List.getElem?_cons_zero, List.getElem?_cons_succ, Nat.add_zero] at c0 c1 c2 c3 c4
      clear hc
      go_upto_region 7 with (fail)
      show Code.wp _ _ _ _ (wr.alloc (.cells y.cells.toArray 27))
      have BY := Blk.new wr 27 y.cells.toArray
      have xa : Ext [] wr (wr.alloc (.cells y.cells.toArray 27)) := (Ext.refl _ _).alloc _
      have ho1 := owns_ext ho xa (by simp)
      have hf1 := owns_ext hf xa (by simp)
      have xx := x.trans xa
      have hflt : ∀ b, (Value.slice fa fds.length fc).ownBlock = some b → b < wr.heap.size := fun b hb => owns_lt hf hb
      have holt : ∀ b, (Value.slice oa k oc).ownBlock = some b → b < wr.heap.size := fun b hb => owns_lt ho hb
      have hwsz := x.size
      obtain ⟨by', hby⟩ : ∃ b, b = wr.heap.size := ⟨_, rfl⟩
      rw [← hby] at BY hflt holt hwsz
      rw [← hby]
      clear ho hf x xa c0 c1 c2 c3 c4 hby
      generalize wr.alloc (.cells y.cells.toArray 27) = w2 at *
      have c0 := BY.cell 0
      have c1 := BY.cell 1
      have c2 := BY.cell 2
      have c3 := BY.cell 3
      have c4 := BY.cell 4
      simp only [Ins.cells, List.getElem?_cons_zero, List.getElem?_cons_succ] at c0 c1 c2 c3 c4
      go_wp2_with fail
      refine (ismap_any y w2).mono ?_
      rintro e w3 ⟨rfl, x3⟩
      have BY3 := BY.ext x3 (by simp)
      have ho3 := owns_ext ho1 x3 (by simp)
      have hf3 := owns_ext hf1 x3 (by simp)
      have xx3 := xx.trans x3
      clear BY ho1 hf1 xx x3 c0 c1 c2 c3 c4
      cases hm : isMapI y
      · have HI := Lib.hid (show stepI fds y = y by unfold stepI; rw [hm]; rfl)
        have HF := Lib.hid (show stepF fds y = fds by unfold stepF; rw [hm]; rfl)
        clear hm
        have c0 := BY3.cell 0
        have c1 := BY3.cell 1
        have c2 := BY3.cell 2
        have c3 := BY3.cell 3
        have c4 := BY3.cell 4
        simp only [Ins.cells, List.getElem?_cons_zero, List.getElem?_cons_succ] at c0 c1 c2 c3 c4
        go_wp2_with (at_builtin; go_must (refine wpList_app _ rfl (.tmp 49) (.tmp 51) 24 rfl 27 i1 _ 5 12 Try.underlying24 hi' hz0' hz1' hz2' rfl (by decide) _ _ _ rfl (owns_ext ho3 ((Ext.refl [] w3).alloc _) (by simp)) _ 1 _ rfl (blk_reads (Blk.new w3 _ _) 1 rfl) (by intro u hu; simp at hu; rcases hu with rfl | rfl | rfl | rfl | rfl <;> rfl) (by unfold maxLen; omega) (by omega) ?_); intro v7 w7 hown7 hgrow7 hfr7 _)
        go_roundw
        case rel =>
          have hap' : ∀ g, (Value.slice oa k oc).ownBlock = some g → (Value.slice fa fds.length fc).ownBlock ≠ some g := fun g h1 h2 => hap g h2 h1
          have hk7 := rows_keep (owns_ext hf3 ((Ext.refl [] w3).alloc (.cells y.cells.toArray 27)) (by simp)) hgrow7 hfr7 hap'
          refine ⟨k + 1, by omega, by go_num, ?_, ?_, (xx3.alloc _).grown hgrow7 (by intro b hb; exact .inr (fro b hb)), ?_, frf, ?_⟩
          · rw [hst.out, HI.out, insV_append, insV_one]; exact hown7
          · rw [hfs.out, HF.out]; exact hk7.1
          · exact rows_fresh (xx3.alloc (.cells y.cells.toArray 27)) fro hfr7
          · exact fun g h1 h2 => hk7.2 g h2 h1
        case measure => simp [intOf]; omega
      · have HI := Lib.hid (show stepI fds y = { y with imm := BitVec.ofNat 32 (fds.idxOf y.imm) } by unfold stepI; rw [hm]; rfl)
        have HF := Lib.hid (show stepF fds y = if y.imm ∈ fds then fds else fds ++ [y.imm] by unfold stepF; rw [hm]; rfl)
        clear hm
        have hw0 := hwsz
        go_wp2_with fail
        go_loopw [9] (fun s wq => ∃ q : Nat, q ≤ fds.length ∧ s = .int .i64 (q : Int) ∧ Hid (∀ j (hj : j < fds.length), j < q → fds[j] ≠ y.imm) ∧ Blk wq by' 27 y.cells ∧ wq.ownsRow 0 27 5 (.slice oa k oc) k (insV outs) ∧ wq.ownsRow 0 21 1 (.slice fa fds.length fc) fds.length (immV fds) ∧ Ext [] w wq) (fun s _ => fds.length - (intOf s).toNat)
        case atStart => exact ⟨0, by omega, rfl, Lib.hid (fun j _ h => by omega), BY3, ho3, hf3, xx3⟩
        case round =>
          clear BY3 ho3 hf3 xx3
          obtain ⟨q, hq, rfl, HNO, BYq, hoq, hfq, xxq⟩ := hrel
          have c4 := BYq.cell 4
          simp only [Ins.cells, List.getElem?_cons_zero, List.getElem?_cons_succ] at c4
          by_cases hql : q < fds.length
          · obtain ⟨gf, fc', cur, he, -, hfc, hfcm, -, -⟩ := owns_some hfq (by omega)
            cases he
            unfold maxLen at hfcm
            have cf : wr.cell? ⟨gf, q, none⟩ = some (.int .i32 (fds[q]).toInt) := by rw [hfq.cellAt q (by omega)]; exact immV_at fds q hql
            by_cases hb : fds[q] = y.imm
            · have hbe : ((fds[q]).toInt == y.imm.toInt) = true := by rw [hb, beq_iff_eq]
              have HQ := Lib.hid (idx_at fds y.imm q hql HNO.out hb)
              have HF2 := Lib.hid (HF.out.trans (if_pos (by rw [← hb]; exact List.getElem_mem hql)))
              clear hb HNO
              generalize fds[q] = fq at *
              go_upto_region 9 with (fail)
              go_quiet (fail)
              go_upto_region 13 with (fail)
              have BY0 := BYq.drewN nq
              have ho0 := owns_ext hoq ((Ext.refl [] wr).drewN nq) (by simp)
              have hf0 := owns_ext hfq ((Ext.refl [] wr).drewN nq) (by simp)
              have xx0 := xxq.drewN nq
              have hfby : ∀ g, (Value.slice (some ⟨gf, 0, none⟩) fds.length fc).ownBlock = some g → g ≠ by' := fun g hg => by have := hflt g hg; omega
              have hap9 := hap
              have frf9 := frf
              clear BYq hoq hfq xxq cf c4
              generalize wr.drewN nq = w4 at *
              have c4 := BY0.cell 4
              have f4 := BY0.frozen 4
              simp only [Ins.cells, List.getElem?_cons_zero, List.getElem?_cons_succ] at c4
              go_upto_region 14 with (fail)
              have BY9 := BY0.set 4 (.int .i32 (q : Int))
              have y9 : Ext [by'] w4 (w4.setCell ⟨by', 4, none⟩ (.int .i32 (q : Int))) := (Ext.refl _ _).setCell (.inl (by simp)) _
              have ho9 := owns_ext ho0 y9 (by intro g hg; have := holt g hg; simp; omega)
              have hf9 := owns_ext hf0 y9 (by intro g hg; simp; exact hfby g hg)
              have xx9 : Ext [] w (w4.setCell ⟨by', 4, none⟩ (.int .i32 (q : Int))) := xx0.trans' y9 (by intro i hi; simp at hi; subst hi; exact .inr hwsz)
              clear c4 f4 BY0 y9 ho0 hf0 xx0
              generalize w4.setCell ⟨by', 4, none⟩ (.int .i32 (q : Int)) = w9 at *
              have e9 : (y.cells.set 4 (.int .i32 (q : Int))) = (stepI fds y).cells := by
                rw [HI.out, HQ.out]
                unfold Ins.cells
                simp only [ofNat_toInt q (by omega)]
                rfl
              rw [e9] at BY9
              clear e9
              generalize stepI fds y = z at *
              have d0 := BY9.cell 0
              have d1 := BY9.cell 1
              have d2 := BY9.cell 2
              have d3 := BY9.cell 3
              have d4 := BY9.cell 4
              simp only [Ins.cells, List.getElem?_cons_zero, List.getElem?_cons_succ] at d0 d1 d2 d3 d4
              go_wp2_with (at_builtin; go_must (refine wpList_app _ rfl (.tmp 49) (.tmp 51) 24 rfl 27 i1 _ 5 12 Try.underlying24 hi' hz0' hz1' hz2' rfl (by decide) _ _ _ rfl (owns_ext ho9 ((Ext.refl [] w9).alloc _) (by simp)) _ 1 _ rfl (blk_reads (Blk.new w9 _ _) 1 rfl) (by intro u hu; simp at hu; rcases hu with rfl | rfl | rfl | rfl | rfl <;> rfl) (by unfold maxLen; omega) (by omega) ?_); intro v8 w8 hown8 hgrow8 hfr8 _)
              go_roundw
              case rel =>
                have hk8 := rows_keep (owns_ext hf9 ((Ext.refl [] w9).alloc (.cells z.cells.toArray 27)) (by simp)) hgrow8 hfr8 (fun g h1 h2 => hap9 g h2 h1)
                refine ⟨k + 1, by omega, by go_num, ?_, ?_, (xx9.alloc _).grown hgrow8 (by intro b hb; exact .inr (fro b hb)), ?_, ?_, ?_⟩
                · rw [hst.out, insV_append, insV_one]; exact hown8
                · rw [hfs.out, HF2.out]; exact hk8.1
                · exact rows_fresh (xx9.alloc (.cells z.cells.toArray 27)) fro hfr8
                · exact frf9
                · exact fun g h1 h2 => hk8.2 g h2 h1
              case measure => simp [intOf]; omega
            · have hbe : ((fds[q]).toInt == y.imm.toInt) = false := by rw [beq_eq_false_iff_ne]; intro h; exact hb (BitVec.eq_of_toInt_eq h)
              have HB := Lib.hid hb
              clear hb
              go_upto_region 9 with (fail)
              go_quiet (fail)
              go_wp2_with fail
              go_roundw
              case rel => exact ⟨q + 1, by omega, by go_num, Lib.hid (fun j hj hjk => by
                rcases Nat.lt_or_ge j q with h | h
                · exact HNO.out j hj h
                · obtain rfl : j = q := by omega
                  exact HB.out), BYq.drewN _, owns_ext hoq ((Ext.refl [] wr).drewN _) (by simp), owns_ext hfq ((Ext.refl [] wr).drewN _) (by simp), xxq.drewN _⟩
              case measure => simp [intOf]; omega
          · obtain rfl : q = fds.length := by omega
            have HNI := Lib.hid (show y.imm ∉ fds by
              intro hm
              obtain ⟨j, hj, e⟩ := List.mem_iff_getElem.1 hm
              exact HNO.out j hj hj e)
            have HQ := Lib.hid (show fds.idxOf y.imm = fds.length from List.idxOf_eq_length HNI.out)
            have HF2 := Lib.hid (HF.out.trans (if_neg HNI.out))
            clear HNO
            go_upto_region 9 with (fail)
            go_quiet (fail)
            have BYd := BYq.drewN nq
            have hod := owns_ext hoq ((Ext.refl [] wr).drewN nq) (by simp)
            have hfd := owns_ext hfq ((Ext.refl [] wr).drewN nq) (by simp)
            have xxd := xxq.drewN nq
            clear BYq hoq hfq xxq c4
            generalize wr.drewN nq = w5 at *
            have c4 := BYd.cell 4
            simp only [Ins.cells, List.getElem?_cons_zero, List.getElem?_cons_succ] at c4
            go_upto_region 13 with (at_builtin; go_must (refine wpList_app _ rfl (.tmp 41) (.tmp 44) 28 rfl 21 i0 (.int .i32 0) 1 4 Try.underlying28 hi hz0 hz1 hz2 rfl (by decide) (.slice fa fds.length fc) _ _ rfl (owns_ext hfd ((Ext.refl [] w5).alloc _) (by simp)) _ 1 _ rfl (blk_reads (Blk.new w5 _ _) 1 rfl) (by intro u hu; simp at hu; subst hu; rfl) (by unfold maxLen; omega) (by omega) ?_); intro v4 w4 hf0 hgrow4 hfr4 _)
            have hk4 := rows_keep (owns_ext hod ((Ext.refl [] w5).alloc (.cells #[.int .i32 y.imm.toInt] 21)) (by simp)) hgrow4 hfr4 hap
            have ho0 := hk4.1
            have hap9 := hk4.2
            have BY0 : Blk w4 by' 27 y.cells := (BYd.alloc _).grown hgrow4 (fun e => by have := hflt _ e; omega)
            have xx0 : Ext [] w w4 := (xxd.alloc _).grown hgrow4 (by intro b hb; exact .inr (frf b hb))
            have frf9 := rows_fresh (xxd.alloc (.cells #[.int .i32 y.imm.toInt] 21)) frf hfr4
            have hfby : ∀ g, v4.ownBlock = some g → g ≠ by' := by
              intro g hg
              rcases hfr4 with h | ⟨g', h, hle⟩
              · have := hflt g (h ▸ hg); omega
              · rw [h] at hg; obtain rfl := Option.some.inj hg
                have := BYd.lt
                simp at hle; omega
            clear hk4 hod hfd BYd xxd hgrow4 hfr4 c4
            obtain ⟨fa4, fc4, rfl⟩ := owns_slice hf0
            have c4 := BY0.cell 4
            have f4 := BY0.frozen 4
            simp only [Ins.cells, List.getElem?_cons_zero, List.getElem?_cons_succ] at c4
            go_upto_region 14 with (fail)
            have BY9 := BY0.set 4 (.int .i32 (fds.length : Int))
            have y9 : Ext [by'] w4 (w4.setCell ⟨by', 4, none⟩ (.int .i32 (fds.length : Int))) := (Ext.refl _ _).setCell (.inl (by simp)) _
            have ho9 := owns_ext ho0 y9 (by intro g hg; have := holt g hg; simp; omega)
            have hf9 := owns_ext hf0 y9 (by intro g hg; simp; exact hfby g hg)
            have xx9 : Ext [] w (w4.setCell ⟨by', 4, none⟩ (.int .i32 (fds.length : Int))) := xx0.trans' y9 (by intro i hi; simp at hi; subst hi; exact .inr hwsz)
            clear c4 f4 BY0 y9 ho0 hf0 xx0
            generalize w4.setCell ⟨by', 4, none⟩ (.int .i32 (fds.length : Int)) = w9 at *
            have e9 : (y.cells.set 4 (.int .i32 (fds.length : Int))) = (stepI fds y).cells := by
              rw [HI.out, HQ.out]
              unfold Ins.cells
              simp only [ofNat_toInt fds.length (by omega)]
              rfl
            rw [e9] at BY9
            clear e9
            generalize stepI fds y = z at *
            have d0 := BY9.cell 0
            have d1 := BY9.cell 1
            have d2 := BY9.cell 2
            have d3 := BY9.cell 3
            have d4 := BY9.cell 4
            simp only [Ins.cells, List.getElem?_cons_zero, List.getElem?_cons_succ] at d0 d1 d2 d3 d4
            go_wp2_with (at_builtin; go_must (refine wpList_app _ rfl (.tmp 49) (.tmp 51) 24 rfl 27 i1 _ 5 12 Try.underlying24 hi' hz0' hz1' hz2' rfl (by decide) _ _ _ rfl (owns_ext ho9 ((Ext.refl [] w9).alloc _) (by simp)) _ 1 _ rfl (blk_reads (Blk.new w9 _ _) 1 rfl) (by intro u hu; simp at hu; rcases hu with rfl | rfl | rfl | rfl | rfl <;> rfl) (by unfold maxLen; omega) (by omega) ?_); intro v8 w8 hown8 hgrow8 hfr8 _)
            go_roundw
            case rel =>
              have hk8 := rows_keep (owns_ext hf9 ((Ext.refl [] w9).alloc (.cells z.cells.toArray 27)) (by simp)) hgrow8 hfr8 (fun g h1 h2 => hap9 g h2 h1)
              refine ⟨k + 1, by omega, by go_num, ?_, ?_, (xx9.alloc _).grown hgrow8 (by intro b hb; exact .inr (fro b hb)), ?_, ?_, ?_⟩
              · rw [hst.out, insV_append, insV_one]; exact hown8
              · rw [hfs.out, HF2.out, immV_append, List.length_append]; exact hk8.1
              · exact rows_fresh (xx9.alloc (.cells z.cells.toArray 27)) fro hfr8
              · exact frf9
              · exact fun g h1 h2 => hk8.2 g h2 h1
            case measure => simp [intOf]; omega
    · have hk' : k = l.length := by omega
      have e2 : l.take k = l := by rw [hk', List.take_length]
      rw [e2] at ho hf frf hap ⊢
      have HK := Lib.hid hk'
      clear hk'
      go_wp2_with fail
      go_ret3
      rw [HP.out]
      have e4 : decide (((fdsOf l).length : Int) ≤ 4) = decide ((fdsOf l).length ≤ 4) := by rw [decide_eq_decide]; omega
      refine ⟨_, _, by rw [← e4]; rfl, ?_, hf, x, fro, frf⟩
      rw [← HK.out]
      exact ho
end Go.Proofs.Ytkpckjkjlhaglaa
