/- TipstaffCanons: the walk. -/
import Derived.Test.YtbjkfgfiifnjoaaDoorTopK
import Derived.Test.YtbjkfgfiifnjoaaDoorTopF
import Derived.Test.YtbjkfgfiifnjoaaDoorStands
import Derived.Test.YtbjkfgfiifnjoaaDoorHeld
import Derived.Test.YtbjkfgfiifnjoaaDoorEqI
import Derived.Deep.CutBlock
namespace Go.Proofs.YtbjkfgfiifnjoaaDoor
open Go.RowKit
set_option maxRecDepth 100000

set_option maxHeartbeats 8000000 in
theorem canons_walk (a : BitVec 32) (z1 z2 a1 : Int) (i : BitVec 32) (w : World) (G : DigG w) :
    Calls Tryd.prog 3 #[.agg #[.int .i32 a.toInt, .int .i32 z1, .int .i32 z2], .int .i64 a1, .int .i32 i.toInt] w fun e w' => e = .returned (.bool true) ∧ Ext [] w w' := by
  obtain ⟨i1, hi, hz0, hz1, hz2⟩ := info_parts info_insn
  have HG := Lib.hid (fun w' (x' : Ext [] w w') => G.ext x' (by simp) (by simp))
  clear G
  go_enter Tryd.func3, Tryd.ntmps3
  go_upto_region 1 with (fail)
  have B1 := Blk.new w 22 #[.int .i32 a.toInt, .int .i32 z1, .int .i32 z2]
  have x1 : Ext [] w (w.alloc (.cells #[.int .i32 a.toInt, .int .i32 z1, .int .i32 z2] 22)) := (Ext.refl _ _).alloc _
  have g1 : w.heap.size < (w.alloc (.cells #[.int .i32 a.toInt, .int .i32 z1, .int .i32 z2] 22)).heap.size := B1.lt
  generalize w.alloc (.cells #[.int .i32 a.toInt, .int .i32 z1, .int .i32 z2] 22) = w1 at *
  have c0 := B1.cell 0
  simp only [List.getElem?_cons_zero] at c0
  go_quiet (fail)
  have x2 := x1.drewN nq
  generalize w1.drewN nq = w2 at *
  rw [show bits .xor .i32 a.toInt 1 = (a ^^^ 1#32).toInt from bits_xor_i32 a 1#32, show bits .xor .i32 a.toInt 2 = (a ^^^ 2#32).toInt from bits_xor_i32 a 2#32]
  have hab : a ≠ a ^^^ 1#32 := xor_ne a _ (by decide)
  have hca : a ^^^ 2#32 ≠ a := (xor_ne a _ (by decide)).symm
  generalize a ^^^ 1#32 = b at *
  generalize a ^^^ 2#32 = c at *
  clear c0 B1 g1
  go_wp2_with fail
  refine (mov_any i w2).mono ?_
  rintro e w3 ⟨rfl, x23⟩
  have x3 := x2.trans x23
  clear x2 x23
  go_wp2_with fail
  refine (end_any w3).mono ?_
  rintro e w4 ⟨rfl, x34⟩
  have x4 := x3.trans x34
  clear x3 x34
  go_upto_region 3 with (fail)
  have B5 : Blk (w4.alloc (.cells #[.int .u8 24, .int .u8 6, .int .u8 1, .int .i16 0, .int .i32 a.toInt, .int .u8 0, .int .u8 0, .int .u8 0, .int .i16 0, .int .i32 0, .int .u8 24, .int .u8 7, .int .u8 1, .int .i16 0, .int .i32 b.toInt, .int .u8 0, .int .u8 0, .int .u8 0, .int .i16 0, .int .i32 0, .int .u8 24, .int .u8 8, .int .u8 1, .int .i16 0, .int .i32 a.toInt, .int .u8 0, .int .u8 0, .int .u8 0, .int .i16 0, .int .i32 0, .int .u8 183, .int .u8 0, .int .u8 0, .int .i16 0, .int .i32 i.toInt, .int .u8 149, .int .u8 0, .int .u8 0, .int .i16 0, .int .i32 0] 25)) w4.heap.size 25 (insV (prog3 a b a i)) := Blk.new w4 25 _
  have x5 := x4.alloc (.cells #[.int .u8 24, .int .u8 6, .int .u8 1, .int .i16 0, .int .i32 a.toInt, .int .u8 0, .int .u8 0, .int .u8 0, .int .i16 0, .int .i32 0, .int .u8 24, .int .u8 7, .int .u8 1, .int .i16 0, .int .i32 b.toInt, .int .u8 0, .int .u8 0, .int .u8 0, .int .i16 0, .int .i32 0, .int .u8 24, .int .u8 8, .int .u8 1, .int .i16 0, .int .i32 a.toInt, .int .u8 0, .int .u8 0, .int .u8 0, .int .i16 0, .int .i32 0, .int .u8 183, .int .u8 0, .int .u8 0, .int .i16 0, .int .i32 i.toInt, .int .u8 149, .int .u8 0, .int .u8 0, .int .i16 0, .int .i32 0] 25)
  generalize w4.alloc (.cells #[.int .u8 24, .int .u8 6, .int .u8 1, .int .i16 0, .int .i32 a.toInt, .int .u8 0, .int .u8 0, .int .u8 0, .int .i16 0, .int .i32 0, .int .u8 24, .int .u8 7, .int .u8 1, .int .i16 0, .int .i32 b.toInt, .int .u8 0, .int .u8 0, .int .u8 0, .int .i16 0, .int .i32 0, .int .u8 24, .int .u8 8, .int .u8 1, .int .i16 0, .int .i32 a.toInt, .int .u8 0, .int .u8 0, .int .u8 0, .int .i16 0, .int .i32 0, .int .u8 183, .int .u8 0, .int .u8 0, .int .i16 0, .int .i32 i.toInt, .int .u8 149, .int .u8 0, .int .u8 0, .int .i16 0, .int .i32 0] 25) = w5 at *
  generalize w4.heap.size = g5 at *
  have hg5 := B5.lt
  clear x4
  go_upto_region 4 with (at_builtin; go_must (refine wpList_app _ rfl (.tmp 45) (.tmp 46) 28 rfl 25 i1 _ 5 12 Tryd.underlying28 hi hz0 hz1 hz2 rfl (by decide) (.slice (some ⟨w5.heap.size, 0, none⟩) 0 0) 0 [] rfl ((Blk.new w5 25 #[]).owns rfl (Nat.zero_le _)) (.slice (some ⟨g5, 0, none⟩) 8 8) 8 (insV (prog3 a b a i)) rfl (blk_reads (B5.ext ((Ext.refl [] w5).alloc _) (by simp)) 8 rfl) (insV_oneCell _) (by unfold maxLen; omega) (by omega) ?_); intro v8 w8 hown8 hgrow8 hfr8 _)
  simp only [Nat.zero_add, List.nil_append] at hown8
  have x58 : Ext [] w5 w8 := ((Ext.refl [] w5).alloc _).grown hgrow8 (by intro g hg; simp [Value.ownBlock] at hg; exact .inr (by omega))
  have fr8 : ∀ g, v8.ownBlock = some g → w5.heap.size ≤ g := by
    intro g hg
    rcases hfr8 with h | ⟨g', h, hle⟩
    · rw [h] at hg; simp [Value.ownBlock] at hg; omega
    · rw [h] at hg; obtain rfl := Option.some.inj hg; simp at hle; omega
  have B8 := B5.ext x58 (by simp)
  have x8 := x5.trans x58
  obtain ⟨pa, pc, rfl⟩ := owns_slice hown8
  obtain ⟨g8, oc8, cur8, he8, -, hoc8, hocm8, -, -⟩ := owns_some hown8 (by omega)
  cases he8
  have hg8 := fr8 g8 rfl
  have hs8 := x5.size
  have c4 := hown8.cellAt 4 (by omega)
  have c14 := hown8.cellAt 14 (by omega)
  have c24 := hown8.cellAt 24 (by omega)
  have f4 := hown8.frozenAt 4
  have f14 := hown8.frozenAt 14
  have f24 := hown8.frozenAt 24
  have hg8l := owns_lt hown8 rfl
  unfold maxLen at hocm8
  rw [prog_cells] at c4 c14 c24
  simp only [List.getElem?_cons_zero, List.getElem?_cons_succ] at c4 c14 c24
  clear hgrow8 hfr8 x58 B5 x5
  go_upto_region 5 with (fail)
  have hown9 : (((w8.setCell ⟨g8, 4, none⟩ (.int .i32 c.toInt)).setCell ⟨g8, 14, none⟩ (.int .i32 a.toInt)).setCell ⟨g8, 24, none⟩ (.int .i32 c.toInt)).ownsRow 0 25 5 (.slice (some ⟨g8, 0, none⟩) 8 pc) 8 (insV (prog3 c a c i)) := by
    have h := (((hown8.stored 4 (.int .i32 c.toInt)).1.stored 14 (.int .i32 a.toInt)).1.stored 24 (.int .i32 c.toInt)).1
    rw [prog_set] at h
    exact h
  have x89 : Ext [g8] w8 (((w8.setCell ⟨g8, 4, none⟩ (.int .i32 c.toInt)).setCell ⟨g8, 14, none⟩ (.int .i32 a.toInt)).setCell ⟨g8, 24, none⟩ (.int .i32 c.toInt)) := (((Ext.refl _ _).setCell (.inl (by simp)) _).setCell (.inl (by simp)) _).setCell (.inl (by simp)) _
  have B9 := B8.ext x89 (by simp; omega)
  have x9 := x8.trans' x89 (by intro j hj; simp at hj; right; omega)
  clear hown8 c4 c14 c24 f4 f14 f24 B8 x89 x8 hg8l
  generalize ((w8.setCell ⟨g8, 4, none⟩ (.int .i32 c.toInt)).setCell ⟨g8, 14, none⟩ (.int .i32 a.toInt)).setCell ⟨g8, 24, none⟩ (.int .i32 c.toInt) = w9 at *
  go_wp2_with fail
  refine (top_slots _ a b i hab w9 (blk_reads B9 8 rfl)).mono ?_
  rintro e w10 ⟨v12, p1, p2, rfl, hown12, x910, fr12⟩
  have hown9 := owns_ext hown9 x910 (by simp)
  have x10 := x9.trans x910
  obtain ⟨a12, c12, rfl⟩ := owns_slice hown12
  clear B9 x9 x910
  go_wp2_with fail
  refine (top_slots _ c a i hca w10 (owns_reads hown9)).mono ?_
  rintro e w11 ⟨v15, p3, p4, rfl, hown15, x1011, fr15⟩
  have hown12 := owns_ext hown12 x1011 (by simp)
  have x11 := x10.trans x1011
  obtain ⟨a15, c15, rfl⟩ := owns_slice hown15
  clear hown9 x10 x1011 fr8 fr12 fr15
  go_wp2_with fail
  refine (stands_any w11 (HG.out _ x11)).mono ?_
  rintro e w12 ⟨rfl, x1112⟩
  have hown12 := owns_ext hown12 x1112 (by simp)
  have hown15 := owns_ext hown15 x1112 (by simp)
  have x12 := x11.trans x1112
  clear x11 x1112
  go_wp2_with fail
  refine (top_check _ i w12 (owns_reads hown12)).mono ?_
  rintro e w13 ⟨rfl, x1213⟩
  have hown12 := owns_ext hown12 x1213 (by simp)
  have hown15 := owns_ext hown15 x1213 (by simp)
  have x13 := x12.trans x1213
  clear x12 x1213
  go_wp2_with fail
  refine (top_sum _ (prog3 0 1 0 i) w13 (HG.out _ x13) (owns_reads hown12) (by show 8 ≤ 100; omega)).mono ?_
  rintro e w14 ⟨rfl, x1314⟩
  have hown12 := owns_ext hown12 x1314 (by simp)
  have hown15 := owns_ext hown15 x1314 (by simp)
  have x14 := x13.trans x1314
  clear x13 x1314
  have heq := fun w => eq_sums (joinB [encL (prog3 0 1 0 i)]) (joinB [encL (prog3 0 1 0 i)]) w
  simp only [decide_true] at heq
  have hol : (bytesV (sumP (prog3 0 1 0 i))).length = 32 := by rw [bytesV_length]; exact sumOf_length _
  have hob := bytesV_one (sumP (prog3 0 1 0 i))
  have HSUM := Lib.hid (show ∀ w', Ext [] w w' → Reads w' (.slice a15 8 c15) 5 8 (insV (prog3 0 1 0 i)) → Calls Tryd.prog 12 #[.slice a15 8 c15, .slice none 0 0] w' fun e w'' => e = .returned (.agg (bytesV (sumP (prog3 0 1 0 i))).toArray) ∧ Ext [] w' w'' from fun w' x hr => top_sum _ (prog3 0 1 0 i) w' (HG.out _ x) hr (by show 8 ≤ 100; omega))
  have HJOI := Lib.hid (fun w' (x : Ext [] w w') b u hb hu => top_joined b u (prog3 0 1 0 i) w' (HG.out _ x) hb hu (by show 8 ≤ 100; omega))
  change ∀ w, (Op.equalIn 10000 36 (.agg (bytesV (sumP (prog3 0 1 0 i))).toArray) (.agg (bytesV (sumP (prog3 0 1 0 i))).toArray)).run Tryd.prog w = .ok true w at heq
  generalize bytesV (sumP (prog3 0 1 0 i)) = ov at *
  go_wp2_with fail
  rename_i K1 aK1 K2 aK2
  refine upon_strow w14.heap.size 0 36 _ ov (Blk.new w14 36 (bytesV (List.replicate 32 0)).toArray) (by rw [hol]; simp [bytesV]) hob ?_
  intro w16 H16 y16 _
  have e9 : (bytesV (List.replicate 32 0)).take 0 ++ ov ++ (bytesV (List.replicate 32 0)).drop (0 + ov.length) = ov := by
    rw [hol, List.take_zero, List.nil_append, List.drop_of_length_le (by simp [bytesV]), List.append_nil]
  have B16 : Blk w16 w14.heap.size 36 ov := e9 ▸ H16
  have x1416 : Ext [] w14 w16 := ((Ext.refl [] w14).alloc _).trans' y16 (by simp)
  have hown12 := owns_ext hown12 x1416 (by simp)
  have hown15 := owns_ext hown15 x1416 (by simp)
  have x16 := x14.trans x1416
  clear H16 x14 x1416 e9 y16
  generalize w14.heap.size = g16 at *
  simp only [Act.put]
  refine aK2 _ _ ?_
  show K1 _ _
  refine aK1 _ _ ?_
  refine can_tail a12 a15 c12 c15 g16 a1 i ov w w16 HG _ (by kernel_rfl) _ _ _ _ _ _ _ _ _ _ _ _ _ _ _ _ _ _ _ _ _ _ _ _ _ _ _ _ _ _ _ _ _ _ _ _ _ _ _ _ _ _ _ _ _ _ _ _ _ _ _ _ _ _ _ _ _ _ _ _ _ _ _ _ _ _ _ _ _ _ _ _ _ _ _ _ _ _ _ _ _ _ _ _ _ _ _ _ _ _ _ _ _ _ _ _ _ _ _ _ _ _ _ _ _ _ _ _ _ _ _ _ _ _ _ _ _ _ _ _ _ _ _ _ _ _ _ _ _ _ _ _ _ _ _ _ _ _ _ _ _ _ _ _ _ _ _ _ _ _ _ hol heq x16 B16 hown12 hown15 HSUM HJOI

theorem canons_flat (cs : Array Value) (a1 : Int) (i : BitVec 32) (w : World) (h : Flat [.int .i32, .int .i32, .int .i32] cs.toList) (G : DigG w) :
    Calls Tryd.prog 3 #[.agg cs, .int .i64 a1, .int .i32 i.toInt] w fun e w' => e = .returned (.bool true) ∧ Ext [] w w' := by
  obtain ⟨_, r, e, ⟨l0, rfl, h0⟩, _, r', rfl, ⟨l1, rfl, -⟩, _, r'', rfl, ⟨l2, rfl, -⟩, rfl⟩ := h
  obtain rfl : cs = #[.int .i32 l0, .int .i32 l1, .int .i32 l2] := by
    apply Array.toList_inj.1; exact e
  have hz := wf_i32 h0
  rw [← hz]
  exact canons_walk _ l1 l2 a1 i w G
end Go.Proofs.YtbjkfgfiifnjoaaDoor
