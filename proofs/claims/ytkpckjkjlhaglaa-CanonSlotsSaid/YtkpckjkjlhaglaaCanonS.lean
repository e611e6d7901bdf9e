/- The law CanonSlots: the walk. -/
import Derived.Test.YtkpckjkjlhaglaaCanonC
import Derived.Test.YtkpckjkjlhaglaaBack
import Derived.Test.YtkpckjkjlhaglaaRSlots
import Derived.Test.YtkpckjkjlhaglaaSame
namespace Go.Proofs.Ytkpckjkjlhaglaa
open Go.RowKit

theorem isMapI_stepI (f : List (BitVec 32)) (x : Ins) : isMapI (stepI f x) = isMapI x := by unfold stepI; split <;> rfl
theorem stepF_pre (f : List (BitVec 32)) (x : Ins) : f <+: stepF f x := by
  unfold stepF
  split
  · split
    · exact List.prefix_refl _
    · exact List.prefix_append _ _
  · exact List.prefix_refl _
theorem foldF_pre : ∀ (l : List Ins) (f : List (BitVec 32)), f <+: l.foldl stepF f
  | [], _ => List.prefix_refl _
  | x :: l, f => (stepF_pre f x).trans (foldF_pre l (stepF f x))
theorem stepF_idx (f : List (BitVec 32)) (x : Ins) (h : isMapI x = true) : (stepF f x)[f.idxOf x.imm]? = some x.imm := by
  unfold stepF
  rw [if_pos h]
  split
  · rename_i hm
    rw [List.getElem?_eq_getElem (List.idxOf_lt_length_of_mem hm), List.getElem_idxOf]
  · rename_i hm
    rw [List.idxOf_eq_length hm]
    simp
theorem back_step (F f : List (BitVec 32)) (x : Ins) (hF : F.length ≤ 1000) (hp : stepF f x <+: F) : okB F (stepI f x) = true ∧ stepB F (stepI f x) = x := by
  cases hm : isMapI x
  · have e : stepI f x = x := by unfold stepI; rw [hm]; rfl
    rw [e]
    unfold okB stepB
    rw [hm]
    exact ⟨rfl, rfl⟩
  · have hi := stepF_idx f x hm
    have hF2 : F[f.idxOf x.imm]? = some x.imm := by
      obtain ⟨r, rfl⟩ := hp
      rw [List.getElem?_append_left (List.getElem?_eq_some_iff.1 hi).1]; exact hi
    have hlt := (List.getElem?_eq_some_iff.1 hF2).1
    have e : stepI f x = { x with imm := BitVec.ofNat 32 (f.idxOf x.imm) } := by unfold stepI; rw [hm]; rfl
    have hmm := isMapI_stepI f x
    rw [hm, e] at hmm
    unfold okB stepB
    rw [e, hmm, ofNat_toInt _ (by omega)]
    refine ⟨by simp; omega, ?_⟩
    simp only [if_true, Int.toNat_natCast]
    rw [List.getD_eq_getElem?_getD, hF2]
    rfl
theorem back_from : ∀ (l : List Ins) (f : List (BitVec 32)), (l.foldl stepF f).length ≤ 1000 → (outFrom f l).all (okB (l.foldl stepF f)) = true ∧ (outFrom f l).map (stepB (l.foldl stepF f)) = l
  | [], _, _ => ⟨rfl, rfl⟩
  | x :: l, f, h => by
    have h1 := back_step (l.foldl stepF (stepF f x)) f x h (foldF_pre l _)
    have h2 := back_from l (stepF f x) h
    simp only [outFrom, List.foldl_cons, List.all_cons, List.map_cons, h1.1, h1.2, h2.1, h2.2]
    exact ⟨rfl, trivial⟩
theorem back_out (l : List Ins) (h : (fdsOf l).length ≤ 1000) : (outOf l).all (okB (fdsOf l)) = true ∧ (outOf l).map (stepB (fdsOf l)) = l := back_from l [] h

set_option maxHeartbeats 8000000 in
set_option maxRecDepth 100000 in
theorem cslots_walk (v : Value) (l0 : List Ins) (w : World) (h : InsArg w v l0) :
    Calls Try.prog 4 #[v] w fun e w' => e = .returned (.bool true) ∧ Ext [] w w' := by
  obtain ⟨i1, hi, hz0, hz1, hz2⟩ := info_parts info_insn
  obtain ⟨ao, c, rfl, hlc, hcm, hr⟩ := h
  have HFEW := Lib.hid (few_any _ l0 w hr (by omega))
  clear hr
  have hl60 := fewL_length l0
  generalize fewL l0 = l at *
  have HB := Lib.hid (back_out l)
  go_enter Try.func4, Try.ntmps4
  go_wp2_with fail
  refine HFEW.out.mono ?_
  rintro e w1 ⟨v1, rfl, hown1, x1, fr1⟩
  obtain ⟨a1, c1, rfl⟩ := owns_slice hown1
  clear HFEW hlc hcm
  go_upto_region 3 with (at_builtin; go_must (refine wpList_app _ rfl (.tmp 15) (.tmp 16) 24 rfl 27 i1 _ 5 12 Try.underlying24 hi hz0 hz1 hz2 rfl (by decide) (.slice (some ⟨w1.heap.size, 0, none⟩) 0 0) 0 [] rfl ((Blk.new w1 27 #[]).owns rfl (Nat.zero_le _)) (.slice a1 l.length c1) l.length (insV l) rfl (owns_reads (owns_ext hown1 ((Ext.refl [] w1).alloc _) (by simp))) (insV_oneCell l) (by unfold maxLen; omega) (by omega) ?_); intro v2 w2 hown2 hgrow2 hfr2 _)
  simp only [Nat.zero_add, List.nil_append] at hown2
  have x12 : Ext [] w1 w2 := ((Ext.refl [] w1).alloc _).grown hgrow2 (by intro g hg; simp [Value.ownBlock] at hg; exact .inr (by omega))
  have hown1 := owns_ext hown1 x12 (by simp)
  have x2 := x1.trans x12
  obtain ⟨a2, c2, rfl⟩ := owns_slice hown2
  clear hgrow2 hfr2 x1 x12 fr1
  go_wp2_with fail
  refine (slots_go _ l w2 (owns_reads hown1) (by omega)).mono ?_
  intro e w3 hp3
  unfold SlotsPost at hp3
  by_cases h4 : (fdsOf l).length ≤ 4
  · have hd4 := decide_eq_true h4
    rw [if_pos h4] at hp3
    obtain ⟨v5, v6, rfl, hown5, hown6, x3, fr5, fr6, -⟩ := hp3
    have hown1 := owns_ext hown1 x3 (by simp)
    have hown2 := owns_ext hown2 x3 (by simp)
    obtain ⟨a5, c5, rfl⟩ := owns_slice hown5
    obtain ⟨a6, c6, rfl⟩ := owns_slice hown6
    have x3 := x2.trans x3
    clear fr5 fr6 x2
    go_wp2_with fail
    refine (rslots_any _ l w3 (owns_reads hown1) (by omega)).mono ?_
    rintro e w4 ⟨v7, v8, rfl, hown7, hown8, x4, -, -⟩
    rw [hd4]
    have hown1 := owns_ext hown1 x4 (by simp)
    have hown2 := owns_ext hown2 x4 (by simp)
    have hown5 := owns_ext hown5 x4 (by simp)
    have hown6 := owns_ext hown6 x4 (by simp)
    obtain ⟨a7, c7, rfl⟩ := owns_slice hown7
    obtain ⟨a8, c8, rfl⟩ := owns_slice hown8
    have x4 := x3.trans x4
    clear x3
    go_wp2_with fail
    refine (slots_any w4).mono ?_
    rintro e w5 ⟨rfl, x5⟩
    have hown1 := owns_ext hown1 x5 (by simp)
    have hown2 := owns_ext hown2 x5 (by simp)
    have hown5 := owns_ext hown5 x5 (by simp)
    have hown6 := owns_ext hown6 x5 (by simp)
    have hown7 := owns_ext hown7 x5 (by simp)
    have hown8 := owns_ext hown8 x5 (by simp)
    have x5 := x4.trans x5
    clear x4
    go_wp2_with fail
    refine (same_any _ _ l l w5 (owns_reads hown1) (owns_reads hown2) (by omega)).mono ?_
    rintro e w6 ⟨rfl, x6⟩
    rw [decide_eq_true (rfl : l = l)]
    have hown1 := owns_ext hown1 x6 (by simp)
    have hown5 := owns_ext hown5 x6 (by simp)
    have hown6 := owns_ext hown6 x6 (by simp)
    have hown7 := owns_ext hown7 x6 (by simp)
    have hown8 := owns_ext hown8 x6 (by simp)
    have x6 := x5.trans x6
    clear x5 hown2
    go_wp2_with fail
    have HOL := Lib.hid (outOf_length l)
    have hfl : (fdsOf l).length ≤ 4 := h4
    generalize fdsOf l = fds at *
    generalize outOf l = outs at *
    refine (same_any (.slice a5 l.length c5) (.slice a7 l.length c7) outs outs w6 (by rw [HOL.out]; exact owns_reads hown5) (by rw [HOL.out]; exact owns_reads hown7) (by rw [HOL.out]; omega)).mono ?_
    rintro e w7 ⟨rfl, x7⟩
    rw [decide_eq_true (rfl : outs = outs)]
    have hown1 := owns_ext hown1 x7 (by simp)
    have hown5 := owns_ext hown5 x7 (by simp)
    have hown6 := owns_ext hown6 x7 (by simp)
    have hown8 := owns_ext hown8 x7 (by simp)
    have x7 := x6.trans x7
    clear x6 hown7
    go_wp2_with fail
    go_loopw [10] (fun i wr => ∃ k : Nat, k ≤ fds.length ∧ i = .int .i64 (k : Int) ∧ Ext [] w7 wr) (fun i _ => fds.length - (intOf i).toNat)
    case atStart => exact ⟨0, by omega, rfl, Ext.refl _ _⟩
    case round =>
      obtain ⟨k, hk, rfl, x8⟩ := hrel
      by_cases hlt : k < fds.length
      · have h6 := owns_ext hown6 x8 (by simp)
        have h8 := owns_ext hown8 x8 (by simp)
        obtain ⟨g6, p6, cur6, he6, -, hp6, hp6', -, -⟩ := owns_some h6 (by omega)
        cases he6
        obtain ⟨g8, p8, cur8, he8, -, hp8, hp8', -, -⟩ := owns_some h8 (by omega)
        cases he8
        unfold maxLen at hp6' hp8'
        have c6 : wr.cell? ⟨g6, k, none⟩ = some (.int .i32 (fds[k]).toInt) := by rw [h6.cellAt k (by omega)]; exact immV_at fds k hlt
        have c8 : wr.cell? ⟨g8, k, none⟩ = some (.int .i32 (fds[k]).toInt) := by rw [h8.cellAt k (by omega)]; exact immV_at fds k hlt
        generalize fds[k] = z at *
        clear h6 h8
        go_upto_region 14 with (fail)
        go_region
        go_wp2_with fail
        go_roundw
        case rel => exact ⟨k + 1, by omega, by go_num, x8.drewN _⟩
        case measure => simp [intOf]; omega
      · obtain rfl : k = fds.length := by omega
        have hown1 := owns_ext hown1 x8 (by simp)
        have hown5 := owns_ext hown5 x8 (by simp)
        have hown6 := owns_ext hown6 x8 (by simp)
        have x9 := x7.trans x8
        go_wp2_with fail
        refine (back_any (.slice a5 l.length c5) (.slice a6 fds.length c6) outs fds wr (by rw [HOL.out]; exact owns_reads hown5) (owns_reads hown6) (by rw [HOL.out]; omega)).mono ?_
        intro e w10 hp10
        unfold BackPost at hp10
        have hb := HB.out (by omega)
        rw [if_pos hb.1, hb.2] at hp10
        obtain ⟨v11, rfl, hown11, x10, -⟩ := hp10
        have hown1 := owns_ext hown1 x10 (by simp)
        rw [HOL.out] at hown11
        obtain ⟨a11, c11, rfl⟩ := owns_slice hown11
        have x10 := x9.trans x10
        clear hb
        go_wp2_with fail
        refine (same_any (.slice a11 l.length c11) (.slice a1 l.length c1) l l w10 (owns_reads hown11) (owns_reads hown1) (by omega)).mono ?_
        rintro e w12 ⟨rfl, x12⟩
        rw [decide_eq_true (rfl : l = l)]
        go_wp2_with fail
        go_ret
        exact ⟨rfl, x10.trans x12⟩
  · have hd4 := decide_eq_false h4
    rw [if_neg h4] at hp3
    obtain ⟨rfl, x3⟩ := hp3
    have hown1 := owns_ext hown1 x3 (by simp)
    have hown2 := owns_ext hown2 x3 (by simp)
    have x3 := x2.trans x3
    clear x2
    go_wp2_with fail
    refine (rslots_any _ l w3 (owns_reads hown1) (by omega)).mono ?_
    rintro e w4 ⟨v7, v8, rfl, hown7, hown8, x4, -, -⟩
    rw [hd4]
    have hown1 := owns_ext hown1 x4 (by simp)
    have hown2 := owns_ext hown2 x4 (by simp)
    have x4 := x3.trans x4
    clear x3 hown7 hown8
    go_wp2_with fail
    refine (slots_any w4).mono ?_
    rintro e w5 ⟨rfl, x5⟩
    have hown1 := owns_ext hown1 x5 (by simp)
    have hown2 := owns_ext hown2 x5 (by simp)
    have x5 := x4.trans x5
    clear x4
    go_wp2_with fail
    refine (same_any _ _ l l w5 (owns_reads hown1) (owns_reads hown2) (by omega)).mono ?_
    rintro e w6 ⟨rfl, x6⟩
    rw [decide_eq_true (rfl : l = l)]
    go_wp2_with fail
    go_ret
    exact ⟨rfl, x5.trans x6⟩
end Go.Proofs.Ytkpckjkjlhaglaa
