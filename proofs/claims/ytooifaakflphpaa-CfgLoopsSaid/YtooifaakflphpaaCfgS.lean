/- The statement CfgLoops. -/
import Derived.Test.YtooifaakflphpaaCfgR
namespace Go.Proofs.Ytooifaakflphpaa
open Go.RowKit
set_option maxRecDepth 100000

theorem loops_mk (k a : Nat) (o : BitVec 16) : mk (k + 1) (gO k a o) = mk k (fun j => if j = a then pN o else pA) ++ [pB] := by
  rw [mk_succ, mk_congr k (gO k a o) (fun j => if j = a then pN o else pA) (fun j hj => if_neg (by omega)), show gO k a o k = pB from if_pos rfl]
theorem loops_len (k a : Nat) (o : BitVec 16) : (mk (k + 1) (gO k a o)).length = k + 1 := mk_len _ _

set_option maxHeartbeats 8000000 in
theorem cloops_walk (a0 a1 a2 : Int) (w : World) :
    Calls Try.prog 7 #[.int .i64 a0, .int .i64 a1, .int .i64 a2] w fun e w' => e = .returned (.bool true) ∧ Ext [] w w' := by
  obtain ⟨i1, hi, hz0, hz1, hz2⟩ := info_parts info_insnK
  obtain ⟨q, hq, hq12⟩ := mod_nat a0 30 (by omega) (by omega)
  have HK := Lib.hid hq
  clear hq
  go_enter Try.func7, Try.ntmps7
  go_upto_region 2 with (fail)
  rw [show wrap64 ((IntKind.u64.wrap a0).tmod 30) = (q : Int) from HK.out, IntWalk.wrap64_in (2 + (q : Int)) (by omega), show 2 + (q : Int) = ((2 + q : Nat) : Int) by omega]
  obtain ⟨k, hk⟩ : ∃ k, k = 2 + q := ⟨_, rfl⟩
  rw [show 2 + q = k by omega]
  have hk1 : 2 ≤ k := by omega
  have hk2 : k ≤ 32 := by omega
  clear hk HK hq12
  obtain ⟨a, hr1, hak⟩ := mod_nat a1 k (by omega) (by omega)
  obtain ⟨b, hr2, hbk⟩ := mod_nat a2 k (by omega) (by omega)
  have HR1 := Lib.hid hr1
  have HR2 := Lib.hid hr2
  clear hr1 hr2
  go_quiet (fail)
  rw [HR1.out, HR2.out]
  have x0 : Ext [] w (w.drewN nq) := (Ext.refl _ _).drewN nq
  generalize w.drewN nq = w0 at *
  obtain ⟨z, hz⟩ : ∃ z, z = (b : Int) - a - 1 := ⟨_, rfl⟩
  have hzb : -40 ≤ z ∧ z ≤ 40 := by omega
  have hzo : (BitVec.ofInt 16 z).toInt = z := off_of _ (by omega)
  obtain ⟨T1, T2, T3⟩ := loops_told k a b (by omega) hak hbk (BitVec.ofInt 16 z) (by rw [hzo, hz])
  have HT1 := Lib.hid T1
  have HT2 := Lib.hid T2
  have HT3 := Lib.hid T3
  have HMK := Lib.hid (loops_mk k a (BitVec.ofInt 16 z))
  have HLL := Lib.hid (loops_len k a (BitVec.ofInt 16 z))
  have HNC := Lib.hid (cells_pN _ _ hzo)
  generalize BitVec.ofInt 16 z = o at *
  have HZ := Lib.hid hz
  clear T1 T2 T3 hzo hz HR1 HR2
  go_wp2_with fail
  go_loopw [10, 11, 12] (fun v i _ wr => ∃ j : Nat, j ≤ k ∧ i = .int .i64 (j : Int) ∧ wr.ownsRow 0 31 5 v j (insV (mk j fun i => if i = a then pN o else pA)) ∧ Ext [] w wr ∧ ∀ g, v.ownBlock = some g → w.heap.size ≤ g) (fun _ i _ _ => k - (intOf i).toNat)
  case atStart => exact ⟨0, by omega, rfl, by simpa [insV, mk] using World.ownsRow_nil _ _ _ _, x0, fun g h => by cases h⟩
  case round =>
    clear x0
    obtain ⟨j, hj, rfl, hown, x, fr⟩ := hrel
    obtain ⟨va, vc, rfl⟩ := owns_slice hown
    by_cases hlt : j < k
    · go_upto_region 8 with (fail)
      have B : Blk (wr.alloc (.cells pA.cells.toArray 31)) wr.heap.size 31 pA.cells := Blk.new wr 31 pA.cells.toArray
      have x1 : Ext [] wr (wr.alloc (.cells pA.cells.toArray 31)) := (Ext.refl _ _).alloc _
      show Code.wp _ _ _ _ (wr.alloc (.cells pA.cells.toArray 31))
      have hown1 := owns_ext hown x1 (by simp)
      have x01 := x.trans x1
      have hwr := x.size
      have hoff : ∀ g, (Value.slice va j vc).ownBlock = some g → g ≠ wr.heap.size := fun g hg => Nat.ne_of_lt (owns_lt hown hg)
      have hblt := B.lt
      generalize wr.heap.size = bx at *
      generalize wr.alloc (.cells pA.cells.toArray 31) = w1 at *
      clear hown x x1
      by_cases hja : j = a
      · subst hja
        have hsb : ((b : Int) - (j : Int) - 1) = z := HZ.out.symm
        have h1c : ∀ u ∈ [Value.int .u8 85, .int .u8 0, .int .u8 0, .int .i16 z, .int .i32 1], u.oneCell' = true := by
          intro u hu
          simp at hu
          rcases hu with rfl | rfl | rfl | rfl | rfl <;> rfl
        have hfit : 0 + [Value.int .u8 85, .int .u8 0, .int .u8 0, .int .i16 z, .int .i32 1].length ≤ pA.cells.length := by simp [Ins.cells]
        have hsz : (Try.prog.info? 31).map (·.size) = some [Value.int .u8 85, .int .u8 0, .int .u8 0, .int .i16 z, .int .i32 1].length := by kernel_rfl
        go_upto_region 10 with (with_reducible refine wpList_strow rfl 31 (.tmp 12) (.tmp 48) rfl bx 0 rfl 31 pA.cells [.int .u8 85, .int .u8 0, .int .u8 0, .int .i16 z, .int .i32 1] rfl B hfit h1c hsz ?_; intro w2 B2 x2 hs2)
        have B3 : Blk w2 bx 31 [.int .u8 85, .int .u8 0, .int .u8 0, .int .i16 z, .int .i32 1] := by simpa [Ins.cells] using B2
        have hown2 := owns_ext hown1 x2 (by intro g hg; have := hoff g hg; simp; omega)
        have x02 : Ext [] w w2 := x01.trans' x2 (by intro i hi; simp at hi; subst hi; exact .inr (by omega))
        have HC := Lib.hid (show (if j = j then pN o else pA).cells = [.int .u8 85, .int .u8 0, .int .u8 0, .int .i16 z, .int .i32 1] from by rw [if_pos rfl]; exact HNC.out)
        clear B B2 x2 hs2 hown1 x01 h1c hfit hsz hoff hblt hsb
        have c0 := B3.cell 0
        have c1 := B3.cell 1
        have c2 := B3.cell 2
        have c3 := B3.cell 3
        have c4 := B3.cell 4
        have hb2 := B3.lt
        simp only [List.getElem?_cons_zero, List.getElem?_cons_succ] at c0 c1 c2 c3 c4
        simp only [Act.put]
        go_wp2_with (at_builtin; go_must (refine wpList_app _ rfl (.tmp 49) (.tmp 51) 22 rfl 31 i1 _ 5 12 Try.underlying22 hi hz0 hz1 hz2 rfl (by decide) (.slice va j vc) _ _ rfl (owns_ext hown2 ((Ext.refl [] w2).alloc _) (by simp)) _ 1 _ rfl (blk_reads (Blk.new w2 _ _) 1 rfl) (by intro u hu; simp at hu; rcases hu with rfl | rfl | rfl | rfl | rfl <;> rfl) (by unfold maxLen; omega) (by omega) ?_); intro v3 w3 hown3 hgrow3 hfr3 _)
        go_roundw
        case rel =>
          refine ⟨j + 1, by omega, by go_num, ?_, (x02.alloc _).grown hgrow3 (by intro g hg; exact .inr (fr g hg)), ?_⟩
          · rw [mk_succ, insV_append, insV_one, HC.out]
            exact hown3
          · intro g hg
            have := x02.size
            rcases hfr3 with h | ⟨g', h, hle'⟩
            · exact fr g (h ▸ hg)
            · rw [h] at hg; obtain rfl := Option.some.inj hg; simp at hle'; omega
        case measure => simp [intOf]; omega
      · have hja' : ((j : Int) == (a : Int)) = false := by rw [beq_eq_false_iff_ne]; omega
        have hown2 := hown1
        have x02 := x01
        have HC := Lib.hid (show (if j = a then pN o else pA).cells = [.int .u8 183, .int .u8 0, .int .u8 0, .int .i16 0, .int .i32 0] from by rw [if_neg hja]; rfl)
        have c0 := B.cell 0
        have c1 := B.cell 1
        have c2 := B.cell 2
        have c3 := B.cell 3
        have c4 := B.cell 4
        obtain ⟨w2, hw2⟩ : ∃ w2, w2 = w1 := ⟨_, rfl⟩
        rw [← hw2] at c0 c1 c2 c3 c4 hown2 x02 hblt ⊢
        change w2.cell? _ = some (Value.int .u8 183) at c0
        change w2.cell? _ = some (Value.int .u8 0) at c1
        change w2.cell? _ = some (Value.int .u8 0) at c2
        change w2.cell? _ = some (Value.int .i16 0) at c3
        change w2.cell? _ = some (Value.int .i32 0) at c4
        clear hja hw2 hown1 x01 B hoff
        go_wp2_with (at_builtin; go_must (refine wpList_app _ rfl (.tmp 49) (.tmp 51) 22 rfl 31 i1 _ 5 12 Try.underlying22 hi hz0 hz1 hz2 rfl (by decide) (.slice va j vc) _ _ rfl (owns_ext hown2 ((Ext.refl [] w2).alloc _) (by simp)) _ 1 _ rfl (blk_reads (Blk.new w2 _ _) 1 rfl) (by intro u hu; simp at hu; rcases hu with rfl | rfl | rfl | rfl | rfl <;> rfl) (by unfold maxLen; omega) (by omega) ?_); intro v3 w3 hown3 hgrow3 hfr3 _)
        go_roundw
        case rel =>
          refine ⟨j + 1, by omega, by go_num, ?_, (x02.alloc _).grown hgrow3 (by intro g hg; exact .inr (fr g hg)), ?_⟩
          · rw [mk_succ, insV_append, insV_one, HC.out]
            exact hown3
          · intro g hg
            have := x02.size
            rcases hfr3 with h | ⟨g', h, hle'⟩
            · exact fr g (h ▸ hg)
            · rw [h] at hg; obtain rfl := Option.some.inj hg; simp at hle'; omega
        case measure => simp [intOf]; omega
    · obtain rfl : j = k := by omega
      go_upto_region 12 with (at_builtin; go_must (refine wpList_app _ rfl (.tmp 53) (.tmp 55) 22 rfl 31 i1 _ 5 12 Try.underlying22 hi hz0 hz1 hz2 rfl (by decide) (.slice va j vc) _ _ rfl (owns_ext hown ((Ext.refl [] wr).alloc _) (by simp)) _ 1 _ rfl (blk_reads (Blk.new wr _ _) 1 rfl) (by intro u hu; simp at hu; rcases hu with rfl | rfl | rfl | rfl | rfl <;> rfl) (by unfold maxLen; omega) (by omega) ?_); intro v3 w3 hown3 hgrow3 hfr3 _)
      have hown4 : w3.ownsRow 0 31 5 v3 (j + 1) (insV (mk (j + 1) (gO j a o))) := by rw [HMK.out, insV_append, insV_one]; exact hown3
      have x3 : Ext [] w w3 := (x.alloc _).grown hgrow3 (by intro g hg; exact .inr (fr g hg))
      obtain ⟨L, hL⟩ : ∃ L, L = mk (j + 1) (gO j a o) := ⟨_, rfl⟩
      rw [← hL] at HT1 HT2 HT3 HLL hown4
      have HRD := Lib.hid (fun w' (x' : Ext [] w3 w') => (show Reads w' v3 5 L.length (insV L) from by rw [HLL.out]; exact (owns_reads hown4).ext x'))
      clear hL hown hown3 hgrow3 hfr3 x fr hown4 HMK HNC
      by_cases hba : b ≤ a
      all_goals
        first | rw [if_pos hba] at HT3 | rw [if_neg hba] at HT3
        first | rw [decide_eq_true hba] at HT1 | rw [decide_eq_false hba] at HT1
        go_wp2_with fail
        refine (ccheck_any v3 L false w3 (HRD.out _ (Ext.refl _ _)) (by rw [HLL.out]; omega)).mono ?_
        rw [HT3.out]
        rintro e w5 ⟨rfl, x5⟩
        go_wp2_with fail
        refine (ccheck_any v3 L true w5 (HRD.out _ x5) (by rw [HLL.out]; omega)).mono ?_
        rw [HT2.out]
        rintro e w6 ⟨rfl, x6⟩
        have x36 := x5.trans x6
        go_wp2_with fail
        refine (goes_any w6).mono ?_
        rintro e w7 ⟨rfl, x7⟩
        have x37 := x36.trans x7
        go_wp2_with fail
        refine (loops_any v3 L w7 (HRD.out _ x37) (by rw [HLL.out]; omega)).mono ?_
        rw [HT1.out]
        rintro e w8 ⟨rfl, x8⟩
        go_wp2_with fail
        go_ret
        first
          | exact ⟨rfl, x3.trans (x37.trans x8)⟩
          | (refine ⟨?_, x3.trans (x37.trans x8)⟩
             show Ending.returned (.bool (!decide (a < b))) = _
             rw [decide_eq_false (by omega)]
             rfl)
end Go.Proofs.Ytooifaakflphpaa
