/- The statements CfgSkips, CfgLoops. -/
import Derived.Test.YtooifaakflphpaaCfgQ
namespace Go.Proofs.Ytooifaakflphpaa
open Go.RowKit
set_option maxRecDepth 100000

theorem skips_mk (k : Nat) (o p : BitVec 16) : mk (k + 4) (gS k o p) = ([pA, pJ o] ++ List.replicate k pA) ++ [pE p, pB] := by
  apply List.ext_getElem?
  intro i
  by_cases hi : i < k + 4
  · rw [mk_at _ _ i hi]
    unfold gS
    by_cases h1 : i = 1
    · subst h1
      rw [if_pos rfl]; simp
    · rw [if_neg h1]
      by_cases h2 : i = k + 2
      · subst h2
        rw [if_pos rfl, List.getElem?_append_right (by simp)]
        simp
      · rw [if_neg h2]
        by_cases h3 : i = k + 3
        · subst h3
          rw [if_pos rfl, List.getElem?_append_right (by simp)]
          simp
        · rw [if_neg h3, List.getElem?_append_left (by simp; omega)]
          by_cases h0 : i = 0
          · subst h0; simp
          · rw [List.getElem?_append_right (by simp; omega)]
            simp only [List.length_cons, List.length_nil]
            rw [List.getElem?_replicate, if_pos (by omega)]
  · rw [mk_none _ _ i (by omega), List.getElem?_eq_none (by simp; omega)]
theorem skips_len (k : Nat) (o p : BitVec 16) : (mk (k + 4) (gS k o p)).length = k + 4 := mk_len _ _

theorem cells_pJ (o : BitVec 16) (z : Int) (h : o.toInt = z) : (pJ o).cells = [.int .u8 5, .int .u8 0, .int .u8 0, .int .i16 z, .int .i32 0] := by subst h; rfl
theorem cells_pE (o : BitVec 16) (z : Int) (h : o.toInt = z) : (pE o).cells = [.int .u8 21, .int .u8 0, .int .u8 0, .int .i16 z, .int .i32 0] := by subst h; rfl
theorem cells_pN (o : BitVec 16) (z : Int) (h : o.toInt = z) : (pN o).cells = [.int .u8 85, .int .u8 0, .int .u8 0, .int .i16 z, .int .i32 1] := by subst h; rfl

set_option maxHeartbeats 8000000 in
theorem skips_walk (a0 a1 : Int) (w : World) :
    Calls Try.prog 6 #[.int .i64 a0, .int .i64 a1] w fun e w' => e = .returned (.bool true) ∧ Ext [] w w' := by
  obtain ⟨i1, hi, hz0, hz1, hz2⟩ := info_parts info_insnK
  obtain ⟨q, hq, hq12⟩ := mod_nat a0 20 (by omega) (by omega)
  have HK := Lib.hid hq
  clear hq
  go_enter Try.func6, Try.ntmps6
  go_upto_region 2 with (fail)
  rw [show wrap64 ((IntKind.u64.wrap a0).tmod 20) = (q : Int) from HK.out, IntWalk.wrap64_in (1 + (q : Int)) (by omega), show 1 + (q : Int) = ((1 + q : Nat) : Int) by omega]
  obtain ⟨k, hk⟩ : ∃ k, k = 1 + q := ⟨_, rfl⟩
  rw [show 1 + q = k by omega]
  have hk1 : 1 ≤ k := by omega
  have hk2 : k ≤ 20 := by omega
  clear hk HK hq12
  obtain ⟨b, hr, hbk⟩ := mod_nat a1 k (by omega) (by omega)
  have HR := Lib.hid hr
  clear hr
  have hko : (BitVec.ofInt 16 (k : Int)).toInt = (k : Int) := off_of _ (by omega)
  have hbo : (BitVec.ofInt 16 (-((b : Int) + 2))).toInt = -((b : Int) + 2) := off_of _ (by omega)
  have HT := Lib.hid (skips_told k b hk1 (by omega) hbk _ _ hko hbo)
  have HMK := Lib.hid (skips_mk k (BitVec.ofInt 16 (k : Int)) (BitVec.ofInt 16 (-((b : Int) + 2))))
  have HLL := Lib.hid (skips_len k (BitVec.ofInt 16 (k : Int)) (BitVec.ofInt 16 (-((b : Int) + 2))))
  have HJC := Lib.hid (show (pJ (BitVec.ofInt 16 (k : Int))).cells = [.int .u8 5, .int .u8 0, .int .u8 0, .int .i16 (k : Int), .int .i32 0] from cells_pJ _ _ hko)
  have HEC := Lib.hid (show (pE (BitVec.ofInt 16 (-((b : Int) + 2)))).cells = [.int .u8 21, .int .u8 0, .int .u8 0, .int .i16 (-((b : Int) + 2)), .int .i32 0] from cells_pE _ _ hbo)
  generalize BitVec.ofInt 16 (k : Int) = o at *
  generalize BitVec.ofInt 16 (-((b : Int) + 2)) = p at *
  clear hko hbo
  go_upto_region 3 with (fail)
  have B := Blk.new w 31 #[.int .u8 183, .int .u8 0, .int .u8 0, .int .i16 0, .int .i32 0, .int .u8 5, .int .u8 0, .int .u8 0, .int .i16 (k : Int), .int .i32 0]
  have x1 : Ext [] w (w.alloc (.cells #[.int .u8 183, .int .u8 0, .int .u8 0, .int .i16 0, .int .i32 0, .int .u8 5, .int .u8 0, .int .u8 0, .int .i16 (k : Int), .int .i32 0] 31)) := (Ext.refl _ _).alloc _
  obtain ⟨bo, hbo⟩ : ∃ b, b = w.heap.size := ⟨_, rfl⟩
  have hbs : w.heap.size ≤ bo := by omega
  rw [← hbo] at B
  rw [← hbo]
  clear hbo
  generalize w.alloc (.cells #[.int .u8 183, .int .u8 0, .int .u8 0, .int .i16 0, .int .i32 0, .int .u8 5, .int .u8 0, .int .u8 0, .int .i16 (k : Int), .int .i32 0] 31) = w1 at *
  have hown0 : w1.ownsRow 0 31 5 (.slice (some ⟨bo, 0, none⟩) 2 2) (0 + 2) (insV ([pA, pJ o] ++ List.replicate 0 pA)) := by
    have e : insV ([pA, pJ o] ++ List.replicate 0 pA) = [.int .u8 183, .int .u8 0, .int .u8 0, .int .i16 0, .int .i32 0, .int .u8 5, .int .u8 0, .int .u8 0, .int .i16 (k : Int), .int .i32 0] := by
      rw [List.replicate_zero, List.append_nil, insV_cons, insV_one, HJC.out]; rfl
    rw [e]
    exact B.owns rfl (by unfold maxLen; omega)
  clear B HJC
  go_wp2_with fail
  go_loopw [6, 7] (fun v i wr => ∃ j : Nat, j ≤ k ∧ i = .int .i64 (j : Int) ∧ wr.ownsRow 0 31 5 v (j + 2) (insV ([pA, pJ o] ++ List.replicate j pA)) ∧ Ext [] w wr ∧ ∀ g, v.ownBlock = some g → w.heap.size ≤ g) (fun _ i _ => k - (intOf i).toNat)
  case atStart => exact ⟨0, by omega, rfl, hown0, x1, fun g h => by cases h; exact hbs⟩
  case round =>
    clear hown0 x1
    obtain ⟨j, hj, rfl, hown, x, fr⟩ := hrel
    obtain ⟨va, vc, rfl⟩ := owns_slice hown
    by_cases hlt : j < k
    · go_wp2_with (at_builtin; go_must (refine wpList_app _ rfl (.tmp 27) (.tmp 29) 22 rfl 31 i1 _ 5 12 Try.underlying22 hi hz0 hz1 hz2 rfl (by decide) (.slice va (j + 2) vc) _ _ rfl (owns_ext hown ((Ext.refl [] wr).alloc _) (by simp)) _ 1 _ rfl (blk_reads (Blk.new wr _ _) 1 rfl) (by intro u hu; simp at hu; rcases hu with rfl | rfl | rfl | rfl | rfl <;> rfl) (by unfold maxLen; omega) (by omega) ?_); intro v3 w3 hown3 hgrow3 hfr3 _)
      go_roundw
      case rel =>
        refine ⟨j + 1, by omega, by go_num, ?_, (x.alloc _).grown hgrow3 (by intro g hg; exact .inr (fr g hg)), ?_⟩
        · rw [List.replicate_succ', ← List.append_assoc, insV_append, insV_one, show j + 1 + 2 = j + 2 + 1 by omega]
          exact hown3
        · intro g hg
          have := x.size
          rcases hfr3 with h | ⟨g', h, hle'⟩
          · exact fr g (h ▸ hg)
          · rw [h] at hg; obtain rfl := Option.some.inj hg; simp at hle'; omega
      case measure => simp [intOf]; omega
    · obtain rfl : j = k := by omega
      go_upto_region 8 with (fail)
      rw [show wrap64 ((IntKind.u64.wrap a1).tmod (j : Int)) = (b : Int) from HR.out]
      go_upto_region 9 with (at_builtin; go_must (refine wpList_app _ rfl (.tmp 37) (.tmp 44) 22 rfl 31 i1 _ 5 12 Try.underlying22 hi hz0 hz1 hz2 rfl (by decide) (.slice va (j + 2) vc) _ _ rfl (owns_ext hown ((Ext.refl [] wr).alloc _) (by simp)) _ 2 _ rfl (blk_reads (Blk.new wr _ _) 2 rfl) (by intro u hu; simp at hu; rcases hu with rfl | rfl | rfl | rfl | rfl | rfl | rfl | rfl | rfl | rfl <;> rfl) (by unfold maxLen; omega) (by omega) ?_); intro v3 w3 hown3 hgrow3 hfr3 _)
      have hown4 : w3.ownsRow 0 31 5 v3 (j + 4) (insV (mk (j + 4) (gS j o p))) := by
        rw [HMK.out, insV_append, insV_cons (pE p), insV_one, HEC.out]
        exact hown3
      have x3 : Ext [] w w3 := (x.alloc _).grown hgrow3 (by intro g hg; exact .inr (fr g hg))
      obtain ⟨L, hL⟩ : ∃ L, L = mk (j + 4) (gS j o p) := ⟨_, rfl⟩
      rw [← hL] at HT HLL hown4
      have HRD := Lib.hid (show Reads w3 v3 5 L.length (insV L) from by rw [HLL.out]; exact owns_reads hown4)
      clear hL hown hown3 hgrow3 hfr3 x fr hown4 HMK HEC
      by_cases hjb : j ≤ b + 1
      · rw [if_pos hjb] at HT
        go_wp2_with fail
        refine (ccheck_any v3 L true w3 HRD.out (by rw [HLL.out]; omega)).mono ?_
        rw [HT.out]
        rintro e w5 ⟨rfl, x5⟩
        go_wp2_with fail
        refine (goes_any w5).mono ?_
        rintro e w7 ⟨rfl, x7⟩
        go_wp2_with fail
        go_ret
        exact ⟨rfl, x3.trans (x5.trans x7)⟩
      · rw [if_neg hjb] at HT
        have hjb' : b + 2 ≤ j := by omega
        clear hjb
        go_wp2_with fail
        refine (ccheck_any v3 L true w3 HRD.out (by rw [HLL.out]; omega)).mono ?_
        rw [HT.out]
        rintro e w5 ⟨rfl, x5⟩
        go_wp2_with fail
        refine (goes_any w5).mono ?_
        rintro e w7 ⟨rfl, x7⟩
        go_wp2_with fail
        go_ret
        exact ⟨rfl, x3.trans (x5.trans x7)⟩
end Go.Proofs.Ytooifaakflphpaa
