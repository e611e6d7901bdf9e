/- The law InsnEncodes: the walk. -/
import Derived.Test.YtipcgebaihndgaaDecA
namespace Go.Proofs.Ytipcgebaihndgaa
open Go.RowKit

set_option maxHeartbeats 8000000 in
set_option maxRecDepth 100000 in
theorem iencodes_walk (v : Value) (l0 : List Ins) (w : World) (h : InsArg w v l0) :
    Calls Try.prog 4 #[v] w fun e w' => e = .returned (.bool true) ∧ Ext [] w w' := by
  obtain ⟨i1, hi, hz0, hz1, hz2⟩ := info_parts info_insn
  have HA := Lib.hid (fun w' (x : Ext [] w w') => (h.ext x).cut 60)
  obtain ⟨aa, ac, rfl, hlac, hamax, -⟩ := h
  unfold maxLen at hamax
  obtain ⟨l, hlq⟩ : ∃ l, l = l0.take 60 := ⟨_, rfl⟩
  have hll : min l0.length 60 = l.length := by rw [hlq, List.length_take, Nat.min_comm]
  rw [← hlq, show cutI 60 (.slice aa l0.length ac) = .slice aa l.length ac by rw [← hll]; rfl] at HA
  have hl60 : l.length ≤ 60 := by omega
  have IFA := Lib.hid (show (if 60 < (l0.length : Int) then 60 else (l0.length : Int)) = (l.length : Int) by rw [← hll]; split <;> omega)
  have p1 : 0 ≤ (if 60 < (l0.length : Int) then 60 else (l0.length : Int)) := by split <;> omega
  have p2 : (if 60 < (l0.length : Int) then 60 else (l0.length : Int)) ≤ (ac : Int) := by split <;> omega
  have HA2 := Lib.hid (fun w' (x : Ext [] w w') => (show Reads w' (.slice aa (if 60 < (l0.length : Int) then 60 else (l0.length : Int)).toNat ac) 5 (if 60 < (l0.length : Int) then 60 else (l0.length : Int)).toNat (insV l) by rw [IFA.out, Int.toNat_natCast]; exact HA.out w' x))
  have p3 : (if 60 < (l0.length : Int) then 60 else (l0.length : Int)).toNat ≤ 60 := by split <;> omega
  clear hlq hll HA
  go_enter Try.func4, Try.ntmps4
  go_upto_region 2 with (at_builtin; go_must (refine wpList_app _ rfl (.tmp 8) (.tmp 13) 22 rfl 32 i1 _ 5 12 Try.underlying22 hi hz0 hz1 hz2 rfl (by decide) (.slice (some ⟨w.heap.size, 0, none⟩) 0 0) 0 [] rfl ((Blk.new w 32 #[]).owns rfl (Nat.zero_le _)) _ _ (insV l) rfl (HA2.out _ ((Ext.refl [] w).alloc _)) (insV_oneCell l) (by unfold maxLen; omega) (by omega) ?_); intro v2 w2 hown2 hgrow2 hfr2 _)
  rw [IFA.out] at hown2 ⊢
  simp only [Nat.zero_add, List.nil_append, Int.toNat_natCast] at hown2 ⊢
  have x2 : Ext [] w w2 := ((Ext.refl [] w).alloc _).grown hgrow2 (by intro g hg; simp [Value.ownBlock] at hg; exact .inr (by omega))
  have fr2 : ∀ g, v2.ownBlock = some g → w.heap.size ≤ g := by
    intro g hg
    rcases hfr2 with h | ⟨g', h, hle⟩
    · rw [h] at hg; simp [Value.ownBlock] at hg; omega
    · rw [h] at hg; obtain rfl := Option.some.inj hg; simp at hle; omega
  obtain ⟨a2, c2, rfl⟩ := owns_slice hown2
  clear hgrow2 hfr2 p1 p2 p3 HA2 IFA hlac hamax
  go_upto_region 3 with (at_builtin; go_must (refine wpList_app _ rfl (.tmp 15) (.tmp 16) 22 rfl 32 i1 _ 5 12 Try.underlying22 hi hz0 hz1 hz2 rfl (by decide) (.slice (some ⟨w2.heap.size, 0, none⟩) 0 0) 0 [] rfl ((Blk.new w2 32 #[]).owns rfl (Nat.zero_le _)) (.slice a2 l.length c2) l.length (insV l) rfl (owns_reads (owns_ext hown2 ((Ext.refl [] w2).alloc _) (by simp))) (insV_oneCell l) (by unfold maxLen; omega) (by omega) ?_); intro v3 w3 hown3 hgrow3 hfr3 _)
  simp only [Nat.zero_add, List.nil_append] at hown3
  have x23 : Ext [] w2 w3 := ((Ext.refl [] w2).alloc _).grown hgrow3 (by intro g hg; simp [Value.ownBlock] at hg; exact .inr (by omega))
  have hown2 := owns_ext hown2 x23 (by simp)
  have x3 := x2.trans x23
  obtain ⟨a3, c3, rfl⟩ := owns_slice hown3
  have hob2 : ∀ g, (Value.slice a2 l.length c2).ownBlock = some g → g < w3.heap.size := fun g hg => owns_lt hown2 hg
  clear hgrow3 hfr3 x2 x23
  go_wp2_with fail
  refine (encode_any _ l w3 (owns_reads hown2) (by omega)).mono ?_
  rintro e w4 ⟨v4, rfl, hown4, x4, -⟩
  have hown2 := owns_ext hown2 x4 (by simp)
  have hown3 := owns_ext hown3 x4 (by simp)
  have y4 := x3.trans x4
  have hel := encL_length l
  obtain ⟨a4, c4, rfl⟩ := owns_slice hown4
  have HEL := Lib.hid hel
  clear hel x3
  go_wp2_with fail
  refine (decode_own _ (encL l) w4 hown4 (by rw [HEL.out]; omega)).mono ?_
  intro e w6 hp6
  unfold DecPost at hp6
  rw [if_pos (by rw [HEL.out]; omega), show (encL l).length / 8 = l.length by rw [HEL.out]; omega, dec_enc] at hp6
  obtain ⟨v5, rfl, hown5, x6, fr5⟩ := hp6
  have hown2 := owns_ext hown2 x6 (by simp)
  have hown3 := owns_ext hown3 x6 (by simp)
  have hown4 := owns_ext hown4 x6 (by simp)
  have y6 := y4.trans x6
  have hob5 : ∀ g, v5.ownBlock = some g → (Value.slice a2 l.length c2).ownBlock ≠ some g := by
    intro g h5 h2
    have q1 := fr5 g h5
    have q2 := hob2 g h2
    have := x4.size
    omega
  obtain ⟨a5, c5, rfl⟩ := owns_slice hown5
  clear fr5 hob2 y4 x4 x6
  have CP := Lib.hid (fun w' (h : Ext [] w6 w') => (parts_any w').mono (fun e w'' ⟨he, hx'⟩ => (show e = Ending.returned (.bool true) ∧ Ext [] w6 w'' from ⟨he, h.trans hx'⟩)))
  have CE := Lib.hid (fun w' (h : Ext [] w6 w') => rencode_any (.slice a2 l.length c2) l w' (owns_reads (owns_ext hown2 h (by simp))) (by omega))
  have CS := Lib.hid (fun w' (h : Ext [] w6 w') => (same_any (.slice a2 l.length c2) (.slice a3 l.length c3) l l w' (owns_reads (owns_ext hown2 h (by simp))) (owns_reads (owns_ext hown3 h (by simp))) (by omega)).mono (fun e w'' ⟨he, hx'⟩ => (show e = Ending.returned (.bool true) ∧ Ext [] w' w'' from ⟨by rw [he, decide_eq_true (rfl : l = l)], hx'⟩)))
  have HCV := Lib.hid (fun w' (x : Ext [] w6 w') => conv_bytes (owns_ext hown4 x (by simp)))
  have hstart : Ext [] w6 w6.drew := (Ext.refl _ _).drew
  clear hown3 hown4
  go_wp2_with fail
  refine wp_region_held_drew (S := fun w' => Ext [] w6 w') (by kernel_rfl) hstart (fun _ => ?_)
  refine wpAnyH_ready (rs := [0]) (by kernel_rfl) (by simp) ?_
  refine AllReadyH.cons (o := ⟨some 25, _, _, _, _, _⟩) rfl (fun K hK => ?_) AllReadyH.nil
  go_simp
  refine (CP.out _ (by assumption)).mono ?_
  rintro e w' ⟨rfl, hk⟩
  go_simp
  refine hK.out _ _ (by assumption) (fun _ => ?_)
  clear hK K
  try simp only [Act.put, List.setIfInBounds_toArray, List.set_cons_zero, List.set_cons_succ]
  refine wpAnyH_take (i := 1) (oi := ⟨some 26, _, _, _, _, _⟩) (v := ?_) rfl (by kernel_rfl) (by kernel_rfl) (by kernel_rfl) (fun _ _ _ h => h) (Or.inl ⟨by rfl, ?_⟩) (by assumption) ?_
  rotate_left 1
  · (intro w hSw; (try dsimp only at hSw); go_split_ands; go_simp; (try with_reducible rfl))
  try simp only [Act.put, List.setIfInBounds_toArray, List.set_cons_zero, List.set_cons_succ]
  refine wpAnyH_take (i := 2) (oi := ⟨some 27, _, _, _, _, _⟩) (v := ?_) rfl (by kernel_rfl) (by kernel_rfl) (by kernel_rfl) (fun _ _ _ h => h) (Or.inl ⟨by rfl, ?_⟩) (by assumption) ?_
  rotate_left 1
  · (intro w hSw; (try dsimp only at hSw); go_split_ands; go_simp; (try with_reducible rfl))
  try simp only [Act.put, List.setIfInBounds_toArray, List.set_cons_zero, List.set_cons_succ]
  refine wpAnyH_take (i := 3) (oi := ⟨some 28, _, _, _, _, _⟩) (v := ?_) rfl (by kernel_rfl) (by kernel_rfl) (by kernel_rfl) (fun _ _ _ h => h) (Or.inl ⟨by rfl, ?_⟩) (by assumption) ?_
  rotate_left 1
  · (intro w hSw; (try dsimp only at hSw); go_split_ands; go_simp; (try with_reducible rfl))
  try simp only [Act.put, List.setIfInBounds_toArray, List.set_cons_zero, List.set_cons_succ]
  refine wpAnyH_take (i := 4) (oi := ⟨some 29, _, _, _, _, _⟩) (v := ?_) rfl (by kernel_rfl) (by kernel_rfl) (by kernel_rfl) (fun _ _ _ h => h) (Or.inl ⟨by rfl, ?_⟩) (by assumption) ?_
  rotate_left 1
  · (intro w hSw; (try dsimp only at hSw); go_split_ands; have hcv2 := HCV.out w (by assumption); go_simp; (try with_reducible rfl))
  try simp only [Act.put, List.setIfInBounds_toArray, List.set_cons_zero, List.set_cons_succ]
  refine wpAnyH_take (i := 5) (oi := ⟨some 30, _, _, _, _, _⟩) (v := ?_) rfl (by kernel_rfl) (by kernel_rfl) (by kernel_rfl) (fun _ _ _ h => h) (Or.inl ⟨by rfl, ?_⟩) (by assumption) ?_
  rotate_left 1
  · (intro w hSw; (try dsimp only at hSw); go_split_ands; go_simp; (try with_reducible rfl))
  try simp only [Act.put, List.setIfInBounds_toArray, List.set_cons_zero, List.set_cons_succ]
  refine wpAnyH_ready (rs := [6]) (by kernel_rfl) (by simp) ?_
  refine AllReadyH.cons (o := ⟨some 31, _, _, _, _, _⟩) rfl (fun K hK => ?_) AllReadyH.nil
  go_simp
  refine (CE.out _ (by assumption)).mono ?_
  rintro e w9 ⟨v9, rfl, hown9, x9, -⟩
  have hk9 : Ext [] w6 w9 := Ext.trans (by assumption) x9
  go_simp
  refine hK.out _ _ (by assumption) (fun _ => ?_)
  clear hK K
  try simp only [Act.put, List.setIfInBounds_toArray, List.set_cons_zero, List.set_cons_succ]
  have HCV9 := Lib.hid (fun w' (x : Ext [] w9 w') => conv_bytes (owns_ext hown9 x (by simp)))
  have hr9 := Ext.refl [] w9
  refine wpAnyH_imp (S' := fun w' => Ext [] w9 w') (fun _ h => hk9.trans h) _ _ _ _ ?_
  refine wpAnyH_take (i := 7) (oi := ⟨some 32, _, _, _, _, _⟩) (v := ?_) rfl (by kernel_rfl) (by kernel_rfl) (by kernel_rfl) (fun _ _ _ h => h) (Or.inl ⟨by rfl, ?_⟩) (by assumption) ?_
  rotate_left 1
  · (intro w hSw; (try dsimp only at hSw); go_split_ands; have hcv2 := HCV9.out w (by assumption); go_simp; (try with_reducible rfl))
  try simp only [Act.put, List.setIfInBounds_toArray, List.set_cons_zero, List.set_cons_succ]
  refine wpAnyH_take (i := 8) (oi := ⟨some 33, _, _, _, _, _⟩) (v := ?_) rfl (by kernel_rfl) (by kernel_rfl) (by kernel_rfl) (fun _ _ _ h => h) (Or.inl ⟨by rfl, ?_⟩) (by assumption) ?_
  rotate_left 1
  · (intro w hSw; (try dsimp only at hSw); go_split_ands; go_simp; (try with_reducible rfl))
  try simp only [Act.put, List.setIfInBounds_toArray, List.set_cons_zero, List.set_cons_succ]
  refine wpAnyH_take (i := 9) (oi := ⟨some 34, _, _, _, _, _⟩) (v := ?_) rfl (by kernel_rfl) (by kernel_rfl) (by kernel_rfl) (fun _ _ _ h => h) (Or.inl ⟨by rfl, ?_⟩) (by assumption) ?_
  rotate_left 1
  · (intro w hSw; (try dsimp only at hSw); go_split_ands; go_simp; (try with_reducible rfl))
  try simp only [Act.put, List.setIfInBounds_toArray, List.set_cons_zero, List.set_cons_succ]
  refine wpAnyH_take (i := 10) (oi := ⟨some 35, _, _, _, _, _⟩) (v := ?_) rfl (by kernel_rfl) (by kernel_rfl) (by kernel_rfl) (fun _ _ _ h => h) (Or.inl ⟨by rfl, ?_⟩) (by assumption) ?_
  rotate_left 1
  · (intro w hSw; (try dsimp only at hSw); go_split_ands; go_simp; (try with_reducible rfl))
  try simp only [Act.put, List.setIfInBounds_toArray, List.set_cons_zero, List.set_cons_succ]
  refine wpAnyH_take (i := 11) (oi := ⟨some 36, _, _, _, _, _⟩) (v := ?_) rfl (by kernel_rfl) (by kernel_rfl) (by kernel_rfl) (fun _ _ _ h => h) (Or.inl ⟨by rfl, ?_⟩) (by assumption) ?_
  rotate_left 1
  · (intro w hSw; (try dsimp only at hSw); go_split_ands; go_simp; (try with_reducible rfl))
  try simp only [Act.put, List.setIfInBounds_toArray, List.set_cons_zero, List.set_cons_succ]
  refine wpAnyH_take (i := 12) (oi := ⟨some 37, _, _, _, _, _⟩) (v := ?_) rfl (by kernel_rfl) (by kernel_rfl) (by kernel_rfl) (fun _ _ _ h => h) (Or.inl ⟨by rfl, ?_⟩) (by assumption) ?_
  rotate_left 1
  · (intro w hSw; (try dsimp only at hSw); go_split_ands; go_simp; (try with_reducible rfl))
  try simp only [Act.put, List.setIfInBounds_toArray, List.set_cons_zero, List.set_cons_succ]
  refine wpAnyH_ready (rs := [13]) (by kernel_rfl) (by simp) ?_
  refine AllReadyH.cons (o := ⟨some 38, _, _, _, _, _⟩) rfl (fun K hK => ?_) AllReadyH.nil
  go_simp
  refine (CS.out _ (hk9.trans (by assumption))).mono ?_
  rintro e w10 ⟨rfl, hk10⟩
  go_simp
  refine hK.out _ _ (by assumption) (fun _ => ?_)
  clear hK K
  try simp only [Act.put, List.setIfInBounds_toArray, List.set_cons_zero, List.set_cons_succ]
  refine wpAnyH_take (i := 14) (oi := ⟨some 39, _, _, _, _, _⟩) (v := ?_) rfl (by kernel_rfl) (by kernel_rfl) (by kernel_rfl) (fun _ _ _ h => h) (Or.inl ⟨by rfl, ?_⟩) (by assumption) ?_
  rotate_left 1
  · (intro w hSw; (try dsimp only at hSw); go_split_ands; go_simp; (try with_reducible rfl))
  try simp only [Act.put, List.setIfInBounds_toArray, List.set_cons_zero, List.set_cons_succ]
  refine wpAnyH_take (i := 15) (oi := ⟨some 40, _, _, _, _, _⟩) (v := ?_) rfl (by kernel_rfl) (by kernel_rfl) (by kernel_rfl) (fun _ _ _ h => h) (Or.inl ⟨by rfl, ?_⟩) (by assumption) ?_
  rotate_left 1
  · (intro w hSw; (try dsimp only at hSw); go_split_ands; go_simp; (try with_reducible rfl))
  try simp only [Act.put, List.setIfInBounds_toArray, List.set_cons_zero, List.set_cons_succ]
  refine wpAnyH_take (i := 16) (oi := ⟨some 41, _, _, _, _, _⟩) (v := ?_) rfl (by kernel_rfl) (by kernel_rfl) (by kernel_rfl) (fun _ _ _ h => h) (Or.inl ⟨by rfl, ?_⟩) (by assumption) ?_
  rotate_left 1
  · (intro w hSw; (try dsimp only at hSw); go_split_ands; go_simp; (try with_reducible rfl))
  try simp only [Act.put, List.setIfInBounds_toArray, List.set_cons_zero, List.set_cons_succ]
  refine wpAnyH_take (i := 17) (oi := ⟨some 42, _, _, _, _, _⟩) (v := ?_) rfl (by kernel_rfl) (by kernel_rfl) (by kernel_rfl) (fun _ _ _ h => h) (Or.inl ⟨by rfl, ?_⟩) (by assumption) ?_
  rotate_left 1
  · (intro w hSw; (try dsimp only at hSw); go_split_ands; go_simp; (try with_reducible rfl))
  try simp only [Act.put, List.setIfInBounds_toArray, List.set_cons_zero, List.set_cons_succ]
  refine wpAnyH_take (i := 18) (oi := ⟨some 43, _, _, _, _, _⟩) (v := ?_) rfl (by kernel_rfl) (by kernel_rfl) (by kernel_rfl) (fun _ _ _ h => h) (Or.inl ⟨by rfl, ?_⟩) (by assumption) ?_
  rotate_left 1
  · (intro w hSw; (try dsimp only at hSw); go_split_ands; go_simp; (try with_reducible rfl))
  try simp only [Act.put, List.setIfInBounds_toArray, List.set_cons_zero, List.set_cons_succ]
  refine wpAnyH_take (i := 19) (oi := ⟨some 44, _, _, _, _, _⟩) (v := ?_) rfl (by kernel_rfl) (by kernel_rfl) (by kernel_rfl) (fun _ _ _ h => h) (Or.inl ⟨by rfl, ?_⟩) (by assumption) ?_
  rotate_left 1
  · (intro w hSw; (try dsimp only at hSw); go_split_ands; go_simp; (try with_reducible rfl))
  try simp only [Act.put, List.setIfInBounds_toArray, List.set_cons_zero, List.set_cons_succ]
  refine wpAnyH_take (i := 20) (oi := ⟨some 45, _, _, _, _, _⟩) (v := ?_) rfl (by kernel_rfl) (by kernel_rfl) (by kernel_rfl) (fun _ _ _ h => h) (Or.inl ⟨by rfl, ?_⟩) (by assumption) ?_
  rotate_left 1
  · (intro w hSw; (try dsimp only at hSw); go_split_ands; go_simp; (try with_reducible rfl))
  try simp only [Act.put, List.setIfInBounds_toArray, List.set_cons_zero, List.set_cons_succ]
  refine wpAnyH_take (i := 21) (oi := ⟨some 46, _, _, _, _, _⟩) (v := ?_) rfl (by kernel_rfl) (by kernel_rfl) (by kernel_rfl) (fun _ _ _ h => h) (Or.inl ⟨by rfl, ?_⟩) (by assumption) ?_
  rotate_left 1
  · (intro w hSw; (try dsimp only at hSw); go_split_ands; go_simp; (try with_reducible rfl))
  try simp only [Act.put, List.setIfInBounds_toArray, List.set_cons_zero, List.set_cons_succ]
  refine wpAnyH_take (i := 22) (oi := ⟨some 47, _, _, _, _, _⟩) (v := ?_) rfl (by kernel_rfl) (by kernel_rfl) (by kernel_rfl) (fun _ _ _ h => h) (Or.inl ⟨by rfl, ?_⟩) (by assumption) ?_
  rotate_left 1
  · (intro w hSw; (try dsimp only at hSw); go_split_ands; go_simp; (try with_reducible rfl))
  try simp only [Act.put, List.setIfInBounds_toArray, List.set_cons_zero, List.set_cons_succ]
  refine wpAnyH_take (i := 23) (oi := ⟨some 48, _, _, _, _, _⟩) (v := ?_) rfl (by kernel_rfl) (by kernel_rfl) (by kernel_rfl) (fun _ _ _ h => h) (Or.inl ⟨by rfl, ?_⟩) (by assumption) ?_
  rotate_left 1
  · (intro w hSw; (try dsimp only at hSw); go_split_ands; go_simp; (try with_reducible rfl))
  try simp only [Act.put, List.setIfInBounds_toArray, List.set_cons_zero, List.set_cons_succ]
  refine wpAnyH_take (i := 24) (oi := ⟨some 49, _, _, _, _, _⟩) (v := ?_) rfl (by kernel_rfl) (by kernel_rfl) (by kernel_rfl) (fun _ _ _ h => h) (Or.inl ⟨by rfl, ?_⟩) (by assumption) ?_
  rotate_left 1
  · (intro w hSw; (try dsimp only at hSw); go_split_ands; go_simp; (try with_reducible rfl))
  try simp only [Act.put, List.setIfInBounds_toArray, List.set_cons_zero, List.set_cons_succ]
  refine wpAnyH_take (i := 25) (oi := ⟨some 50, _, _, _, _, _⟩) (v := ?_) rfl (by kernel_rfl) (by kernel_rfl) (by kernel_rfl) (fun _ _ _ h => h) (Or.inl ⟨by rfl, ?_⟩) (by assumption) ?_
  rotate_left 1
  · (intro w hSw; (try dsimp only at hSw); go_split_ands; go_simp; (try with_reducible rfl))
  try simp only [Act.put, List.setIfInBounds_toArray, List.set_cons_zero, List.set_cons_succ]
  refine wpAnyH_take (i := 26) (oi := ⟨some 51, _, _, _, _, _⟩) (v := ?_) rfl (by kernel_rfl) (by kernel_rfl) (by kernel_rfl) (fun _ _ _ h => h) (Or.inl ⟨by rfl, ?_⟩) (by assumption) ?_
  rotate_left 1
  · (intro w hSw; (try dsimp only at hSw); go_split_ands; go_simp; (try with_reducible rfl))
  try simp only [Act.put, List.setIfInBounds_toArray, List.set_cons_zero, List.set_cons_succ]
  refine wpAnyH_done (by kernel_rfl) ?_ _
  have y10 := y6.trans (hk9.trans hk10)
  have hown2 := owns_ext hown2 (hk9.trans hk10) (by simp)
  have hown5 := owns_ext hown5 (hk9.trans hk10) (by simp)
  clear hown9 hk9 hk10 hk CP CE CS HCV HCV9 hr9 hstart HEL y6 x9
  go_wp2_with fail
  go_loopw [7] (fun i wr => ∃ k : Nat, k ≤ l.length ∧ i = .int .i64 (k : Int) ∧ wr.ownsRow 0 32 5 (.slice a2 l.length c2) l.length (insV (midM m16 l k)) ∧ Ext (Value.slice a2 l.length c2).ownBlock.toList w10 wr) (fun i _ => l.length - (intOf i).toNat)
  case atStart => exact ⟨0, by omega, rfl, by simpa [midM] using hown2, Ext.refl _ _⟩
  case round =>
    clear hown2
    obtain ⟨k, hk, rfl, ho, x⟩ := hrel
    by_cases hlt : k < l.length
    · obtain ⟨g, oc', cur, he, -, hoc, hocm, -, -⟩ := owns_some ho (by omega)
      cases he
      unfold maxLen at hocm
      have hcell : ∀ j, j < 5 → wr.cell? ⟨g, k * 5 + j, none⟩ = (l[k]).cells[j]? := by
        intro j hj
        rw [ho.cellAt (k * 5 + j) (by omega), insV_at _ k j (by rw [midM_length _ l k hk]; exact hlt) hj, midM_at _ l k hlt]
      have hml := midM_length m16 l k hk
      have hmk := midM_at m16 l k hlt
      have hst := Lib.hid (show ((insV (midM m16 l k)).set (k * 5 + 1) (.int .u8 ((l[k].dst.toNat : Int) % 16))).set (k * 5 + 2) (.int .u8 ((l[k].src.toNat : Int) % 16)) = insV (midM m16 l (k + 1)) by
        rw [midM_succ m16 l k hlt]
        have h := insV_set12 (midM m16 l k) k (by rw [hml]; exact hlt)
        rw [hmk] at h
        exact h)
      clear hml hmk
      generalize l[k] = y at *
      have c1 := hcell 1 (by omega)
      have c2 := hcell 2 (by omega)
      simp only [Ins.cells, List.getElem?_cons_zero, List.getElem?_cons_succ] at c1 c2
      clear hcell
      have f1 := ho.frozenAt (k * 5 + 1)
      have f2 := ho.frozenAt (k * 5 + 2)
      go_upto_region 10 with (fail)
      go_region
      have ho3 := ((ho.stored (k * 5 + 1) (.int .u8 ((y.dst.toNat : Int) % 16))).1.stored (k * 5 + 2) (.int .u8 ((y.src.toNat : Int) % 16))).1
      rw [hst.out] at ho3
      have ho4 := owns_ext ho3 ((Ext.refl [] _).drew) (by simp)
      have x4 := ((x.setCell (p := ⟨g, k * 5 + 1, none⟩) (.inl (by simp [Value.ownBlock])) (.int .u8 ((y.dst.toNat : Int) % 16))).setCell (p := ⟨g, k * 5 + 2, none⟩) (.inl (by simp [Value.ownBlock])) (.int .u8 ((y.src.toNat : Int) % 16))).drew
      clear ho ho3 x c1 c2 f1 f2
      generalize ((wr.setCell ⟨g, k * 5 + 1, none⟩ (.int .u8 ((y.dst.toNat : Int) % 16))).setCell ⟨g, k * 5 + 2, none⟩ (.int .u8 ((y.src.toNat : Int) % 16))).drew = w11 at *
      go_wp2_with fail
      go_roundw
      case rel => exact ⟨k + 1, by omega, by go_num, ho4, x4⟩
      case measure => simp [intOf]; omega
    · have hk' : k = l.length := by omega
      have e1 : midM m16 l k = l.map m16 := by rw [hk']; simp [midM]
      rw [e1] at ho
      have hown5 := owns_ext hown5 x (by intro g hg hm; exact hob5 g hg (by simpa using hm))
      have xx : Ext [] w wr := y10.trans' x (by intro i hi; exact .inr (fr2 i (by simpa using hi)))
      have HL := Lib.hid (show (l.map m16).length = l.length by simp)
      generalize l.map m16 = l5 at *
      clear hk' e1 hk
      go_wp2_with fail
      refine (same_any (.slice a5 l.length c5) (.slice a2 l.length c2) l5 l5 wr (by rw [HL.out]; exact owns_reads hown5) (by rw [HL.out]; exact owns_reads ho) (by rw [HL.out]; omega)).mono ?_
      rintro e w12 ⟨rfl, x12⟩
      rw [decide_eq_true (rfl : l5 = l5)]
      go_wp2_with fail
      go_ret
      exact ⟨rfl, xx.trans x12⟩
end Go.Proofs.Ytipcgebaihndgaa
