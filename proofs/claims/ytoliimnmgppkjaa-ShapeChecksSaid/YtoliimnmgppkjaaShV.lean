/- The law ShapeChecks: the walk. -/
import Derived.Test.YtoliimnmgppkjaaShQ
import Derived.Test.YtoliimnmgppkjaaEqI
namespace Go.Proofs.Ytoliimnmgppkjaa
open Go.RowKit
set_option maxRecDepth 100000

set_option maxHeartbeats 8000000 in
set_option maxRecDepth 100000 in
theorem checks_walk (v : Value) (l0 : List Ins) (a1 : Int) (w : World) (h : InsArg w v l0) :
    Calls Try.prog 3 #[v, .int .i64 a1] w fun e w' => e = .returned (.bool true) ∧ Ext [] w w' := by
  obtain ⟨i1, hi, hz0, hz1, hz2⟩ := info_parts info_insn
  have HA := Lib.hid (fun w' (x : Ext [] w w') => (h.ext x).cut 60)
  obtain ⟨aa, ac, rfl, hlac, hamax, -⟩ := h
  unfold maxLen at hamax
  obtain ⟨l, hlq⟩ : ∃ l, l = l0.take 60 := ⟨_, rfl⟩
  have hll : min l0.length 60 = l.length := by rw [hlq, List.length_take, Nat.min_comm]
  rw [← hlq, show cutI 60 (.slice aa l0.length ac) = .slice aa l.length ac by rw [← hll]; rfl] at HA
  have hl60 : l.length ≤ 60 := by omega
  have IFA := Lib.hid (show (if 60 < (l0.length : Int) then 60 else (l0.length : Int)) = (l.length : Int) by rw [← hll]; split <;> omega)
  have p1 : 0 ≤ (if 60 < (l0.length : Int) then 60 else (l0.length : Int)) := by split <;> omega
  have p2 : (if 60 < (l0.length : Int) then 60 else (l0.length : Int)) ≤ (ac : Int) := by split <;> omega
  have HA2 := Lib.hid (fun w' (x : Ext [] w w') => (show Reads w' (.slice aa (if 60 < (l0.length : Int) then 60 else (l0.length : Int)).toNat ac) 5 (if 60 < (l0.length : Int) then 60 else (l0.length : Int)).toNat (insV l) by rw [IFA.out, Int.toNat_natCast]; exact HA.out w' x))
  have p3 : (if 60 < (l0.length : Int) then 60 else (l0.length : Int)).toNat ≤ 60 := by split <;> omega
  obtain ⟨n, hn, hn300⟩ := mod_nat a1 300 (by omega) (by omega)
  have HN := Lib.hid hn
  clear hlq hll HA hn
  go_enter Try.func3, Try.ntmps3
  go_upto_region 2 with (at_builtin; go_must (refine wpList_app _ rfl (.tmp 12) (.tmp 17) 22 rfl 26 i1 _ 5 12 Try.underlying22 hi hz0 hz1 hz2 rfl (by decide) (.slice (some ⟨w.heap.size, 0, none⟩) 0 0) 0 [] rfl ((Blk.new w 26 #[]).owns rfl (Nat.zero_le _)) _ _ (insV l) rfl (HA2.out _ ((Ext.refl [] w).alloc _)) (insV_oneCell l) (by unfold maxLen; omega) (by omega) ?_); intro v2 w2 hown2 hgrow2 hfr2 _)
  rw [IFA.out] at hown2 ⊢
  simp only [Nat.zero_add, List.nil_append, Int.toNat_natCast] at hown2 ⊢
  have x2 : Ext [] w w2 := ((Ext.refl [] w).alloc _).grown hgrow2 (by intro g hg; simp [Value.ownBlock] at hg; exact .inr (by omega))
  have fr2 : ∀ g, v2.ownBlock = some g → w.heap.size ≤ g := by
    intro g hg
    rcases hfr2 with h | ⟨g', h, hle⟩
    · rw [h] at hg; simp [Value.ownBlock] at hg; omega
    · rw [h] at hg; obtain rfl := Option.some.inj hg; simp at hle; omega
  clear hgrow2 hfr2 p1 p2 p3 HA2 IFA hlac hamax
  go_wp2_with fail
  go_loopw [0, 5] (fun u i wr => ∃ (k : Nat) (L : List Ins), k ≤ n ∧ i = .int .i64 (k : Int) ∧ L.length ≤ 60 + k ∧ wr.ownsRow 0 26 5 u L.length (insV L) ∧ Ext [] w wr ∧ ∀ g, u.ownBlock = some g → w.heap.size ≤ g) (fun _ i _ => n - (intOf i).toNat)
  case atStart => exact ⟨0, l, by omega, rfl, by omega, hown2, x2, fr2⟩
  case round =>
    clear hown2 x2 fr2
    obtain ⟨k, L, hk, rfl, hLk, hown, x, fr⟩ := hrel
    obtain ⟨va, vc, rfl⟩ := owns_slice hown
    by_cases hlt : k < n ∧ 0 < L.length
    · obtain ⟨hlt, hpos⟩ := hlt
      have d1 : decide ((k : Int) < (n : Int)) = true := decide_eq_true (by omega)
      have d2 : decide (0 < (L.length : Int)) = true := decide_eq_true (by omega)
      obtain ⟨g, oc', cur, he, -, hoc, hocm, -, -⟩ := owns_some hown (by omega)
      cases he
      unfold maxLen at hocm
      obtain ⟨r, hr⟩ : ∃ r, r = k % L.length := ⟨_, rfl⟩
      have hrl : r < L.length := by rw [hr]; exact Nat.mod_lt _ hpos
      have HMO := Lib.hid (show (k : Int).tmod (L.length : Int) = (r : Int) by rw [hr]; exact (Int.ofNat_tmod k L.length).symm)
      have hL0 : ((L.length : Int) == 0) = false := by rw [beq_eq_false_iff_ne]; omega
      have hcell : ∀ j, j < 5 → wr.cell? ⟨g, r * 5 + j, none⟩ = (L[r]).cells[j]? := by
        intro j hj
        rw [hown.cellAt (r * 5 + j) (by omega), insV_at _ r j hrl hj]
      generalize L[r] = y at *
      have c0 := hcell 0 (by omega)
      have c1 := hcell 1 (by omega)
      have c2 := hcell 2 (by omega)
      have c3 := hcell 3 (by omega)
      have c4 := hcell 4 (by omega)
      simp only [Ins.cells, List.getElem?_cons_zero, List.getElem?_cons_succ, Nat.add_zero] at c0 c1 c2 c3 c4
      clear hcell hr
      have hn : wrap64 ((IntKind.u64.wrap a1).tmod 300) = (n : Int) := HN.out
      have hmo := HMO.out
      go_upto_region 5 with (fail)
      go_wp2_with (at_builtin; go_must (refine wpList_app _ rfl (.tmp 32) (.tmp 40) 22 rfl 26 i1 _ 5 12 Try.underlying22 hi hz0 hz1 hz2 rfl (by decide) (.slice (some ⟨g, 0, none⟩) L.length vc) _ _ rfl (owns_ext hown ((Ext.refl [] wr).alloc _) (by simp)) _ 1 _ rfl (blk_reads (Blk.new wr _ _) 1 rfl) (by intro u hu; simp at hu; rcases hu with rfl | rfl | rfl | rfl | rfl <;> rfl) (by unfold maxLen; omega) (by omega) ?_); intro v3 w3 hown3 hgrow3 hfr3 _)
      go_roundw
      case rel =>
        refine ⟨k + 1, L ++ [y], by omega, by go_num, by simp; omega, ?_, (x.alloc _).grown hgrow3 (by intro g hg; exact .inr (fr g hg)), ?_⟩
        · rw [List.length_append, insV_append, insV_one]
          exact hown3
        · intro g hg
          have := x.size
          rcases hfr3 with h | ⟨g', h, hle'⟩
          · exact fr g (h ▸ hg)
          · rw [h] at hg; obtain rfl := Option.some.inj hg; simp at hle'; omega
      case measure => simp [intOf]; omega
    · have hn : wrap64 ((IntKind.u64.wrap a1).tmod 300) = (n : Int) := HN.out
      have hex : k = n ∨ (k < n ∧ L.length = 0) := by omega
      have hLL : L.length ≤ 360 := by omega
      have hob : ∀ g, (Value.slice va L.length vc).ownBlock = some g → g < wr.heap.size := fun g hg => owns_lt hown hg
      have hcs : (k = n ∧ ¬ ((k : Int) < (n : Int))) ∨ ((k : Int) < (n : Int) ∧ ¬ (0 < (L.length : Int))) := by
        rcases hex with h | ⟨h1, h2⟩
        · exact .inl ⟨h, by omega⟩
        · exact .inr ⟨by omega, by omega⟩
      clear hex hlt hLk
      obtain ⟨C, hC⟩ : ∃ C, C = checkM L := ⟨_, rfl⟩
      have HC := Lib.hid (fun (u : Value) (w : World) hr hl => hC ▸ check_any u L w hr hl)
      have HRC := Lib.hid (fun (u : Value) (w : World) hr hl => hC ▸ rcheck_any u L w hr hl)
      clear hC
      obtain ⟨A, B⟩ := C
      rcases hcs with ⟨-, d1⟩ | ⟨d1, d2⟩
      all_goals
        go_upto_region 7 with (at_builtin; go_must (refine wpList_app _ rfl (.tmp 42) (.tmp 43) 22 rfl 26 i1 _ 5 12 Try.underlying22 hi hz0 hz1 hz2 rfl (by decide) (.slice (some ⟨wr.heap.size, 0, none⟩) 0 0) 0 [] rfl ((Blk.new wr 26 #[]).owns rfl (Nat.zero_le _)) (.slice va L.length vc) L.length (insV L) rfl (owns_reads (owns_ext hown ((Ext.refl [] wr).alloc _) (by simp))) (insV_oneCell L) (by unfold maxLen; omega) (by omega) ?_); intro v3 w3 hown3 hgrow3 hfr3 _)
        simp only [Nat.zero_add, List.nil_append] at hown3
        have x3 : Ext [] wr w3 := ((Ext.refl [] wr).alloc _).grown hgrow3 (by intro g hg; simp [Value.ownBlock] at hg; exact .inr (by omega))
        have hown := owns_ext hown x3 (by simp)
        have x := x.trans x3
        obtain ⟨a3, c3, rfl⟩ := owns_slice hown3
        clear hgrow3 hfr3 x3 hob fr d1
        go_wp2_with fail
        refine (HC.out _ w3 (owns_reads hown) (by omega)).mono ?_
        rintro e w4 ⟨rfl, x4⟩
        have hown := owns_ext hown x4 (by simp)
        have hown3 := owns_ext hown3 x4 (by simp)
        have x := x.trans x4
        clear x4
        go_wp2_with fail
        refine (HRC.out _ w4 (owns_reads hown) (by omega)).mono ?_
        rintro e w5 ⟨rfl, x5⟩
        have hown := owns_ext hown x5 (by simp)
        have hown3 := owns_ext hown3 x5 (by simp)
        have x := x.trans x5
        clear x5
        go_wp2_with fail
        go_loopw [11] (fun i wr => ∃ k : Nat, k ≤ L.length ∧ i = .int .i64 (k : Int) ∧ Ext [] w5 wr) (fun i _ => L.length - (intOf i).toNat)
        case atStart => exact ⟨0, by omega, rfl, Ext.refl _ _⟩
        case round =>
          obtain ⟨j, hj, rfl, xr⟩ := hrel
          by_cases hlt : j < L.length
          · have ho1 := owns_ext hown xr (by simp)
            have ho2 := owns_ext hown3 xr (by simp)
            obtain ⟨g1, oc1, cur1, he1, -, hoc1, hocm1, -, -⟩ := owns_some ho1 (by omega)
            cases he1
            obtain ⟨g2, oc2, cur2, he2, -, hoc2, hocm2, -, -⟩ := owns_some ho2 (by omega)
            cases he2
            have hx : ∀ i, i < 5 → wr.cell? ⟨g1, j * 5 + i, none⟩ = (L[j]).cells[i]? := by
              intro i hi
              rw [ho1.cellAt (j * 5 + i) (by omega), insV_at _ j i hlt hi]
            have hy : ∀ i, i < 5 → wr.cell? ⟨g2, j * 5 + i, none⟩ = (L[j]).cells[i]? := by
              intro i hi
              rw [ho2.cellAt (j * 5 + i) (by omega), insV_at _ j i hlt hi]
            generalize L[j] = y at *
            have c0 := hx 0 (by omega)
            have c1 := hx 1 (by omega)
            have c2 := hx 2 (by omega)
            have c3 := hx 3 (by omega)
            have c4 := hx 4 (by omega)
            have d0 := hy 0 (by omega)
            have d1 := hy 1 (by omega)
            have d2 := hy 2 (by omega)
            have d3 := hy 3 (by omega)
            have d4 := hy 4 (by omega)
            simp only [Ins.cells, List.getElem?_cons_zero, List.getElem?_cons_succ, Nat.add_zero] at c0 c1 c2 c3 c4 d0 d1 d2 d3 d4
            have hq := fun w => neq_insn y y w
            unfold Ins.cells at hq
            rw [decide_eq_true (rfl : y = y)] at hq
            clear hx hy ho1 ho2
            go_upto_region 12 with (fail)
            go_region
            go_wp2_with fail
            go_roundw
            case rel => exact ⟨j + 1, by omega, by go_num, xr.drewN _⟩
            case measure => simp [intOf]; omega
          · go_wp2_with fail
            refine (forms_any wr).mono ?_
            rintro e w6 ⟨rfl, x6⟩
            have hA : ((A : Int) == (A : Int)) = true := beq_self_eq_true _
            have hB : ((B : Int) == (B : Int)) = true := beq_self_eq_true _
            go_wp2_with fail
            go_ret
            exact ⟨rfl, x.trans (xr.trans x6)⟩
end Go.Proofs.Ytoliimnmgppkjaa
