/- The statements CfgLines, CfgSkips, CfgLoops. -/
import Derived.Test.YtooifaakflphpaaCfgK
import Derived.Test.YtooifaakflphpaaCfgP
namespace Go.Proofs.Ytooifaakflphpaa
open Go.RowKit
set_option maxRecDepth 100000

theorem lines_len (k : Nat) : (mk (k + 1) (gL k)).length = k + 1 := mk_len _ _
theorem lines_mk (k : Nat) : mk (k + 1) (gL k) = mk k (fun _ => pA) ++ [pB] := by
  rw [mk_succ, mk_congr k (gL k) (fun _ => pA) (fun j hj => if_pos hj), show gL k k = pB from if_neg (by omega)]

set_option maxHeartbeats 8000000 in
theorem lines_walk (a0 a1 : Int) (w : World) :
    Calls Try.prog 5 #[.int .i64 a0, .int .i64 a1] w fun e w' => e = .returned (.bool true) ∧ Ext [] w w' := by
  obtain ⟨i1, hi, hz0, hz1, hz2⟩ := info_parts info_insnK
  obtain ⟨q, hq, hq12⟩ := mod_nat a0 100 (by omega) (by omega)
  have HK := Lib.hid hq
  clear hq
  go_enter Try.func5, Try.ntmps5
  go_upto_region 2 with (fail)
  rw [show wrap64 ((IntKind.u64.wrap a0).tmod 100) = (q : Int) from HK.out, IntWalk.wrap64_in (1 + (q : Int)) (by omega), show 1 + (q : Int) = ((1 + q : Nat) : Int) by omega]
  obtain ⟨k, hk⟩ : ∃ k, k = 1 + q := ⟨_, rfl⟩
  rw [show 1 + q = k by omega]
  have hk1 : 1 ≤ k := by omega
  have hk2 : k ≤ 200 := by omega
  clear hk HK hq12
  obtain ⟨r, hr, hrk⟩ := mod_nat a1 k (by omega) (by omega)
  have HR := Lib.hid hr
  clear hr
  obtain ⟨T1, T2, T3⟩ := lines_all k hk1 hk2
  have HT1 := Lib.hid T1
  have HT2 := Lib.hid T2
  have HT3 := Lib.hid T3
  clear T1 T2 T3
  go_wp2_with fail
  go_loopw [6, 7] (fun v i wr => ∃ j : Nat, j ≤ k ∧ i = .int .i64 (j : Int) ∧ wr.ownsRow 0 31 5 v j (insV (mk j fun _ => pA)) ∧ Ext [] w wr ∧ ∀ g, v.ownBlock = some g → w.heap.size ≤ g) (fun _ i _ => k - (intOf i).toNat)
  case atStart => exact ⟨0, by omega, rfl, by simpa [insV, mk] using World.ownsRow_nil _ _ _ _, Ext.refl _ _, fun g h => by cases h⟩
  case round =>
    obtain ⟨j, hj, rfl, hown, x, fr⟩ := hrel
    obtain ⟨va, vc, rfl⟩ := owns_slice hown
    by_cases hlt : j < k
    · go_wp2_with (at_builtin; go_must (refine wpList_app _ rfl (.tmp 24) (.tmp 26) 22 rfl 31 i1 _ 5 12 Try.underlying22 hi hz0 hz1 hz2 rfl (by decide) (.slice va j vc) _ _ rfl (owns_ext hown ((Ext.refl [] wr).alloc _) (by simp)) _ 1 _ rfl (blk_reads (Blk.new wr _ _) 1 rfl) (by intro u hu; simp at hu; rcases hu with rfl | rfl | rfl | rfl | rfl <;> rfl) (by unfold maxLen; omega) (by omega) ?_); intro v3 w3 hown3 hgrow3 hfr3 _)
      go_roundw
      case rel =>
        refine ⟨j + 1, by omega, by go_num, ?_, (x.alloc _).grown hgrow3 (by intro g hg; exact .inr (fr g hg)), ?_⟩
        · rw [mk_succ, insV_append, insV_one]
          exact hown3
        · intro g hg
          have := x.size
          rcases hfr3 with h | ⟨g', h, hle'⟩
          · exact fr g (h ▸ hg)
          · rw [h] at hg; obtain rfl := Option.some.inj hg; simp at hle'; omega
      case measure => simp [intOf]; omega
    · obtain rfl : j = k := by omega
      have HLL := Lib.hid (lines_len j)
      have HMK := Lib.hid (lines_mk j)
      have hnx1 : nxA (mk (j + 1) (gL j)) (r : Int) = [(r : Int) + 1] := by unfold nxA; rw [if_pos (by omega), Int.toNat_natCast]; exact lines_nx j r hrk
      have hnx2 : nxA (mk (j + 1) (gL j)) (j : Int) = [] := by unfold nxA; rw [if_pos (by omega), Int.toNat_natCast]; exact lines_end j
      have HN1 := Lib.hid hnx1
      have HN2 := Lib.hid hnx2
      clear hnx1 hnx2
      go_upto_region 8 with (at_builtin; go_must (refine wpList_app _ rfl (.tmp 28) (.tmp 30) 22 rfl 31 i1 _ 5 12 Try.underlying22 hi hz0 hz1 hz2 rfl (by decide) (.slice va j vc) _ _ rfl (owns_ext hown ((Ext.refl [] wr).alloc _) (by simp)) _ 1 _ rfl (blk_reads (Blk.new wr _ _) 1 rfl) (by intro u hu; simp at hu; rcases hu with rfl | rfl | rfl | rfl | rfl <;> rfl) (by unfold maxLen; omega) (by omega) ?_); intro v3 w3 hown3 hgrow3 hfr3 _)
      have hown4 : w3.ownsRow 0 31 5 v3 (j + 1) (insV (mk (j + 1) (gL j))) := by rw [HMK.out, insV_append, insV_one]; exact hown3
      have x3 : Ext [] w w3 := (x.alloc _).grown hgrow3 (by intro g hg; exact .inr (fr g hg))
      obtain ⟨L, hL⟩ : ∃ L, L = mk (j + 1) (gL j) := ⟨_, rfl⟩
      rw [← hL] at HT1 HT2 HT3 HLL HN1 HN2 hown4
      have HRD := Lib.hid (fun w' (x' : Ext [] w3 w') => (show Reads w' v3 5 L.length (insV L) from by rw [HLL.out]; exact (owns_reads hown4).ext x'))
      clear hL hown hown3 hgrow3 hfr3 x fr hown4 HMK
      go_upto_region 9 with (fail)
      rw [show wrap64 ((IntKind.u64.wrap a1).tmod (j : Int)) = (r : Int) from HR.out]
      go_wp2_with fail
      refine (next_any v3 L (r : Int) w3 (HRD.out _ (Ext.refl _ _)) (by rw [HLL.out]; omega)).mono ?_
      rw [HN1.out]
      rintro e w4 ⟨u1, rfl, ho1, x4, -⟩
      obtain ⟨g1, c1, cur1, rfl, -, -, -, -, hc1⟩ := ints_at w4 _ _ ho1 0 (by simp)
      have HC1 := Lib.hid (fun w' (x' : Ext [] w4 w') => (x'.cell (p := ⟨g1, 0, none⟩) (World.block_lt_of_cell? w4 _ hc1) (by simp)).trans hc1)
      clear ho1 hc1
      go_wp2_with fail
      refine (ccheck_any v3 L false w4 (HRD.out _ x4) (by rw [HLL.out]; omega)).mono ?_
      rw [HT3.out]
      rintro e w5 ⟨rfl, x5⟩
      have x45 := x4.trans x5
      go_wp2_with fail
      refine (reach_any v3 L w5 (HRD.out _ x45) (by rw [HLL.out]; omega)).mono ?_
      rintro e w6 ⟨u2, rfl, ho2, x6, -⟩
      have hbl : (reachL L).length = L.length := by simp [reachL]
      rw [hbl] at ho2
      have x46 := x45.trans x6
      obtain ⟨ua, uc, rfl⟩ := owns_slice ho2
      have HX := Lib.hid (fun k hk => (show ∃ g, ua = some ⟨g, 0, none⟩ ∧ w6.cell? ⟨g, k, none⟩ = some (.bool true) from by
        obtain ⟨g, rfl, -, hc, -⟩ := owns_get ho2 k hk
        refine ⟨g, rfl, ?_⟩
        rw [hc]
        unfold reachL
        rw [List.map_map, List.getElem?_map, List.getElem?_range hk]
        simp only [Option.map_some, Function.comp_apply]
        rw [HT1.out k hk]))
      clear ho2 hbl HT1
      have hLb : L.length ≤ 1000 := by rw [HLL.out]; omega
      go_wp2_with fail
      go_loop [13] (fun i => ∃ m : Nat, m ≤ L.length ∧ i = .int .i64 (m : Int)) (fun i => L.length - (intOf i).toNat)
      case atStart => exact ⟨0, Nat.zero_le _, rfl⟩
      case round =>
        obtain ⟨m, hm, rfl⟩ := hrel
        by_cases hlt2 : m < L.length
        · obtain ⟨g, rfl, hc⟩ := HX.out m hlt2
          go_wp2_with fail
          go_round
          case rel => exact ⟨m + 1, by omega, by go_num⟩
          case measure => simp [intOf]; omega
        · go_wp2_with fail
          refine (goes_any w6).mono ?_
          rintro e w7 ⟨rfl, x7⟩
          have hc := HC1.out w7 (x5.trans (x6.trans x7))
          simp only [List.getD_cons_zero] at hc
          have x47 := x46.trans x7
          go_wp2_with fail
          refine (loops_any v3 L w7 (HRD.out _ x47) (by rw [HLL.out]; omega)).mono ?_
          rw [HT2.out]
          rintro e w8 ⟨rfl, x8⟩
          have x48 := x47.trans x8
          go_wp2_with fail
          refine (next_any v3 L (j : Int) w8 (HRD.out _ x48) (by rw [HLL.out]; omega)).mono ?_
          rw [HN2.out]
          rintro e w9 ⟨u3, rfl, ho3, x9, -⟩
          obtain ⟨ub, ud, rfl⟩ := owns_slice ho3
          clear ho3
          go_wp2_with fail
          go_ret
          exact ⟨rfl, x3.trans (x48.trans x9)⟩
end Go.Proofs.Ytooifaakflphpaa
