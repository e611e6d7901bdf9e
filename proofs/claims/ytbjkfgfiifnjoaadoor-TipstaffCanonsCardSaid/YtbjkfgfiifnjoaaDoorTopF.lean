/- TipstaffCanons: from the comparison of the sums to the end. -/
import Derived.Test.YtbjkfgfiifnjoaaDoorTopE
import Derived.Test.YtbjkfgfiifnjoaaDoorEqI
import Derived.Deep.CutBlock
namespace Go.Proofs.YtbjkfgfiifnjoaaDoor
open Go.RowKit
set_option maxRecDepth 100000

set_option maxHeartbeats 16000000 in
theorem can_tail (a12 a15 : Option Addr) (c12 c15 g16 : Nat) (a1 : Int) (i : BitVec 32) (ov : List Value) (w w16 : World) (G : Hid (∀ w', Ext [] w w' → DigG w')) (C : Code) (hC : C = (tailAt 13 canBody).getD .skip)
    (u0 u3 u4 u5 u6 u7 u8 u9 u10 u11 u13 u14 u16 u17 u18 u19 u21 u22 u23 u24 u25 u26 u27 u28 u29 u30 u31 u32 u33 u34 u35 u36 u37 u38 u39 u40 u41 u42 u43 u44 u45 u46 u47 u48 u49 u50 u51 u52 u53 u54 u55 u56 u57 u58 u59 u60 u61 u62 u63 u64 u65 u66 u67 u68 u69 u70 u71 u72 u73 u74 u75 u76 u77 u78 u79 u80 u81 u82 u83 u84 u85 u86 u87 u88 u89 u90 u91 u92 u93 u94 u95 u96 u97 u98 u99 u100 u101 u102 u103 u104 u105 u106 u107 u108 u109 u110 u111 u112 u113 u114 u115 u116 u117 u118 u119 u120 u121 u122 u123 u124 u125 u126 u127 u128 u129 u130 u131 u132 u133 u134 u135 u136 u137 u138 u139 u140 u141 u142 u143 u144 u145 u146 u147 u148 u149 u150 u151 u152 u153 u154 u155 : Value)
    (hol : ov.length = 32) (heq : ∀ w, (Op.equalIn 10000 36 (.agg ov.toArray) (.agg ov.toArray)).run Tryd.prog w = .ok true w)
    (x16 : Ext [] w w16) (B16 : Blk w16 g16 36 ov)
    (hown12 : w16.ownsRow 0 25 5 (.slice a12 8 c12) 8 (insV (prog3 0 1 0 i))) (hown15 : w16.ownsRow 0 25 5 (.slice a15 8 c15) 8 (insV (prog3 0 1 0 i)))
    (HSUM : Hid (∀ w', Ext [] w w' → Reads w' (.slice a15 8 c15) 5 8 (insV (prog3 0 1 0 i)) → Calls Tryd.prog 12 #[.slice a15 8 c15, .slice none 0 0] w' fun e w'' => e = .returned (.agg ov.toArray) ∧ Ext [] w' w''))
    (HJOI : Hid (∀ w', Ext [] w w' → ∀ b u, Blk w' b 39 [u] → Reads w' u 1 (encL (prog3 0 1 0 i)).length (bytesV (encL (prog3 0 1 0 i))) → Calls Tryd.prog 13 #[.slice (some ⟨b, 0, none⟩) 1 1] w' fun e w'' => e = .returned (.agg ov.toArray) ∧ Ext [] w' w'')) :
    Code.wp Tryd.prog C (bodyPost Tryd.prog Tryd.f3 fun e w' => e = .returned (.bool true) ∧ Ext [] w w') ⟨#[u0, .int .i64 a1, .int .i32 i.toInt, u3, u4, u5, u6, u7, u8, u9, u10, u11, .slice a12 8 c12, u13, u14, .slice a15 8 c15, u16, u17, u18, u19, .pointer (some ⟨g16, 0, none⟩), u21, u22, u23, u24, u25, u26, u27, u28, u29, u30, u31, u32, u33, u34, u35, u36, u37, u38, u39, u40, u41, u42, u43, u44, u45, u46, u47, u48, u49, u50, u51, u52, u53, u54, u55, u56, u57, u58, u59, u60, u61, u62, u63, u64, u65, u66, u67, u68, u69, u70, u71, u72, u73, u74, u75, u76, u77, u78, u79, u80, u81, u82, u83, u84, u85, u86, u87, u88, u89, u90, u91, u92, u93, u94, u95, u96, u97, u98, u99, u100, u101, u102, u103, u104, u105, u106, u107, u108, u109, u110, u111, u112, u113, u114, u115, u116, u117, u118, u119, u120, u121, u122, u123, u124, u125, u126, u127, u128, u129, u130, u131, u132, u133, u134, u135, u136, u137, u138, u139, u140, u141, u142, u143, u144, u145, u146, u147, u148, u149, u150, u151, u152, u153, u154, u155], []⟩ w16 := by
  obtain ⟨i1, hi, hz0, hz1, hz2⟩ := info_parts info_insn
  subst hC
  conv =>
    arg 2
    whnf
  refine wp_seq ?_
  refine wp_seq ?_
  refine can_reg13 a12 a15 c12 c15 g16 i ov w w16 _ (by kernel_rfl) _ _ _ _ _ _ _ _ _ _ _ _ _ _ _ _ _ _ _ _ _ _ _ _ _ _ _ _ _ _ _ _ _ _ _ _ _ _ _ _ _ _ _ _ _ _ _ _ _ _ _ _ _ _ _ _ _ _ _ _ _ _ _ _ _ _ _ _ _ _ _ _ _ _ _ _ _ _ _ _ _ _ _ _ _ _ _ _ _ _ _ _ _ _ _ _ _ _ _ _ _ _ _ _ _ _ _ _ _ _ _ _ _ _ _ _ _ _ _ _ _ _ _ _ _ _ _ _ _ _ _ _ _ _ _ _ _ _ _ _ _ _ _ _ _ _ _ _ _ _ _ _ _ _ ?_ hol heq x16 B16 hown12 hown15 HSUM HJOI ?_
  · exact fun _ _ _ _ _ h => h
  intro s101 s102 s103 s104 s105 s106 s107 s108 s109 s110 s111 w17 hown12 x17
  clear x16 B16 hown15 HSUM HJOI hol heq
  change Code.wp _ _ _ _ _
  refine wp_cond_false rfl ?_
  refine wp_skip ?_
  change Code.wp _ _ _ _ _
  go_upto_region 16 with (at_builtin; go_must (refine wpList_app _ rfl (.tmp 113) (.tmp 114) 28 rfl 25 i1 _ 5 12 Tryd.underlying28 hi hz0 hz1 hz2 rfl (by decide) (.slice (some ⟨w17.heap.size, 0, none⟩) 0 0) 0 [] rfl ((Blk.new w17 25 #[]).owns rfl (Nat.zero_le _)) (.slice a12 8 c12) 8 (insV (prog3 0 1 0 i)) rfl (owns_reads (owns_ext hown12 ((Ext.refl [] w17).alloc _) (by simp))) (insV_oneCell _) (by unfold maxLen; omega) (by omega) ?_); intro v21 w21 hown21 hgrow21 hfr21 _)
  simp only [Nat.zero_add, List.nil_append] at hown21
  have x1721 : Ext [] w17 w21 := ((Ext.refl [] w17).alloc _).grown hgrow21 (by intro g hg; simp [Value.ownBlock] at hg; exact .inr (by omega))
  have x21 := x17.trans x1721
  have fr21 : ∀ g, v21.ownBlock = some g → w17.heap.size ≤ g := by
    intro g hg
    rcases hfr21 with h | ⟨g', h, hle⟩
    · rw [h] at hg; simp [Value.ownBlock] at hg; omega
    · rw [h] at hg; obtain rfl := Option.some.inj hg; simp at hle; omega
  obtain ⟨pa, pc, rfl⟩ := owns_slice hown21
  obtain ⟨g21, oc21, cur21, he21, -, hoc21, hocm21, -, -⟩ := owns_some hown21 (by omega)
  cases he21
  have hg21 := fr21 g21 rfl
  have hs17 := x17.size
  have c34 := hown21.cellAt 34 (by omega)
  have f34 := hown21.frozenAt 34
  have hg21l := owns_lt hown21 rfl
  unfold maxLen at hocm21
  rw [prog_cells] at c34
  simp only [List.getElem?_cons_zero, List.getElem?_cons_succ] at c34
  clear hgrow21 hfr21 x1721 x17 fr21
  have hn : 0 ≤ (IntKind.u64.wrap a1).tmod 31 ∧ (IntKind.u64.wrap a1).tmod 31 ≤ 32 := by
    obtain ⟨y, hy⟩ := Int.eq_ofNat_of_zero_le (wrap_u64_nonneg a1)
    rw [hy, Int.tmod_eq_emod_of_nonneg (by omega)]
    omega
  obtain ⟨hn0, hn1⟩ := hn
  go_upto_region 17 with (fail)
  rw [bits_xor_any]
  generalize i ^^^ BitVec.ofInt 32 (wrap32 (2 ^ ((IntKind.u64.wrap a1).tmod 31).toNat)) = k at *
  have hown22 : (w21.setCell ⟨g21, 34, none⟩ (.int .i32 k.toInt)).ownsRow 0 25 5 (.slice (some ⟨g21, 0, none⟩) 8 pc) 8 (insV (prog3 0 1 0 k)) := by
    have h := (hown21.stored 34 (.int .i32 k.toInt)).1
    rw [prog_set6] at h
    exact h
  have x22 : Ext [] w (w21.setCell ⟨g21, 34, none⟩ (.int .i32 k.toInt)) := x21.setCell (.inr (by show w.heap.size ≤ g21; omega)) _
  clear hown21 x21 c34 f34 hg21l hn0 hn1 hoc21 hocm21 hg21 hs17 hown12
  generalize w21.setCell ⟨g21, 34, none⟩ (.int .i32 k.toInt) = w22 at *
  go_wp2_with fail
  refine (encode_any _ (prog3 0 1 0 k) w22 (owns_reads hown22) (by show 8 ≤ 100000; omega)).mono ?_
  rintro e w23 ⟨v23, rfl, hown23, x2223, -⟩
  have hown22 := owns_ext hown22 x2223 (by simp)
  have x23 := x22.trans x2223
  clear x22 x2223
  go_wp2_with fail
  refine (top_decode v23 k w23 hown23).mono ?_
  rintro e w24 ⟨g22, c22, rfl, hown24, x2324⟩
  have hown22 := owns_ext hown22 x2324 (by simp)
  have x24 := x23.trans x2324
  clear x23 x2324 hown23
  have heq := fun w => eq_sums (joinB [encL (prog3 0 1 0 k)]) (joinB [encL (prog3 0 1 0 k)]) w
  simp only [decide_true] at heq
  have hol : (bytesV (sumP (prog3 0 1 0 k))).length = 32 := by rw [bytesV_length]; exact sumOf_length _
  go_upto_region 18 with (fail)
  rename_i KK aK
  refine can_reg18 g21 g22 pc c22 k (movI k).cells (bytesV (sumP (prog3 0 1 0 k))) w w24 _ (by kernel_rfl) _ _ _ _ _ _ _ _ _ _ _ _ _ _ _ _ _ _ _ _ _ _ _ _ _ _ _ _ _ _ _ _ _ _ _ _ _ _ _ _ _ _ _ _ _ _ _ _ _ _ _ _ _ _ _ _ _ _ _ _ _ _ _ _ _ _ _ _ _ _ _ _ _ _ _ _ _ _ _ _ _ _ _ _ _ _ _ _ _ _ _ _ _ _ _ _ _ _ _ _ _ _ _ _ _ _ _ _ _ _ _ _ _ _ _ _ _ _ _ _ _ _ _ _ _ _ _ _ _ _ _ _ _ _ _ _ _ _ _ _ _ _ _ _ _ _ _ _ _ _ _ _ _ _ ?_ hol heq rfl (eq_movI k) (Lib.hid (part_movI k)) x24 hown22 hown24
    (Lib.hid (fun w' x hr => top_sum _ (prog3 0 1 0 k) w' (G.out _ x) hr (by show 8 ≤ 100; omega))) (Lib.hid (fun w' x b u hb hu => top_joined b u (prog3 0 1 0 k) w' (G.out _ x) hb hu (by show 8 ≤ 100; omega))) ?_
  · exact fun _ _ _ _ _ h => h
  intro s131 s132 s133 s134 s135 s136 s137 s138 s139 s140 s141 s142 s143 s144 s145 s146 s147 s148 s149 s150 s151 s152 s153 s154 s155 w25 x25
  show KK _ _
  refine aK _ _ ?_
  go_wp2_with fail
  go_ret
  exact ⟨rfl, x25⟩
end Go.Proofs.YtbjkfgfiifnjoaaDoor
