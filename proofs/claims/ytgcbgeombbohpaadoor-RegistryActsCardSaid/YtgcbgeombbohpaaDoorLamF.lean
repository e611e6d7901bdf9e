/- The document's answer of layer 2: Fits. -/
import Derived.Test.YtgcbgeombbohpaaDoorLamE
import Derived.Test.YtgcbgeombbohpaaDoorLamC
namespace Go.Proofs.YtgcbgeombbohpaaDoor
open Go.RowKit
set_option maxRecDepth 100000

theorem part_reads2 (bb o cap k : Nat) (s : List UInt8) (w W : World) (hbb : bb < w.heap.size) (hs : s.length = 2048) (hc : ∀ j, j < 2048 → w.cell? ⟨bb, o + j, none⟩ = some (.int .u8 ((s.getD j 0).toNat : Int))) (x : Ext [] w W) (hk : k + 32 ≤ 2048) :
    Reads W (.slice (some ⟨bb, o + k, none⟩) 32 cap) 1 32 (bytesV ((s.drop k).take 32)) :=
  part_reads bb o cap k s W hs (fun j hj => (x.cell (p := ⟨bb, o + j, none⟩) hbb (by simp)).trans (hc j hj)) hk

set_option maxHeartbeats 8000000 in
theorem r2fits (key sum s : List UInt8) (bb o cap : Nat) (w : World) (hkl : key.length = 32) (hsum : sum.length = 32) (hs : s.length = 2048) (hcap : 2048 ≤ cap) (hcm : cap ≤ 9223372036854775807) (hbb : bb < w.heap.size)
    (hc : ∀ j, j < 2048 → w.cell? ⟨bb, o + j, none⟩ = some (.int .u8 ((s.getD j 0).toNat : Int))) :
    Calls Tryd.prog 30 #[.agg (V32 (Ks ++ begin0.list)).toArray, .agg (bytesV key).toArray, .agg (bytesV sum).toArray, .slice (some ⟨bb, o, none⟩) 2048 cap] w fun e w' => e = .returned (.bool (decide (sumOf (fitL sum s 32) = key))) ∧ Ext [] w w' := by
  obtain ⟨i0, hi, hz0, hz1, hz2⟩ := info_parts info_byte
  have HLEAF := Lib.hid (fun v b w' hr hl => r2leaf v b w' hr hl)
  have HBIT := Lib.hid (fun i w' hi => r2bit sum i w' hsum hi)
  have HSUM := Lib.hid (fun v b w' hr hl => roots_sum v b w' hr hl)
  have HP := Lib.hid (fun cap k W x hk => part_reads2 bb o cap k s w W hbb hs hc x hk)
  have HFL := Lib.hid (fun k (hk : k ≤ 32) => fitL_length sum s k (by omega))
  have HL := Lib.hid (fun k (hk : k + 32 ≤ 2048) => (show ((s.drop k).take 32).length = 32 by rw [List.length_take, List.length_drop, hs]; omega))
  have HRES := Lib.hid (show ∀ b, sumOf (fitL sum s 32) = b → Ending.returned (.bool (decide (b = key))) = Ending.returned (.bool (decide (sumOf (fitL sum s 32) = key))) from fun b h => by rw [h])
  have HEQ := Lib.hid (fun w' => run_equal_bytes (P := Tryd.prog) 9998 Tryd.underlying22 Tryd.underlying5 (by kernel_rfl) (by kernel_rfl) (sumOf (fitL sum s 32)) key (sumOf_length _) hkl w')
  have hRl : (V32 (Ks ++ begin0.list)).length = 72 := rfl
  generalize V32 (Ks ++ begin0.list) = rt at *
  have hsl : (bytesV sum).length = 32 := by rw [bytesV_length, hsum]
  obtain ⟨sv, hsv⟩ : ∃ sv, sv = bytesV sum := ⟨_, rfl⟩
  rw [← hsv] at HBIT hsl ⊢
  clear hsv
  have hkvl : (bytesV key).length = 32 := by rw [bytesV_length, hkl]
  obtain ⟨kv, hkv⟩ : ∃ kv, kv = bytesV key := ⟨_, rfl⟩
  rw [← hkv] at HEQ hkvl ⊢
  generalize decide (sumOf (fitL sum s 32) = key) = bq at *
  clear hkv hc hs hkl hsum HRES
  have hu := Tryd.underlying47
  have hsz : (Tryd.prog.info? 47).map (·.size) = some rt.length := by rw [hRl]; kernel_rfl
  have hsz3 : (Tryd.prog.info? 22).map (·.size) = some sv.length := by rw [hsl]; kernel_rfl
  have hsz4 : (Tryd.prog.info? 22).map (·.size) = some kv.length := by rw [hkvl]; kernel_rfl
  have hu3 := Tryd.underlying22
  go_enter Tryd.func30, Tryd.ntmps30
  go_upto_region 1 with (fail)
  show Code.wp _ _ _ _ (((w.alloc (.cells rt.toArray 47)).alloc (.cells kv.toArray 22)).alloc (.cells sv.toArray 22))
  have BR : Blk (((w.alloc (.cells rt.toArray 47)).alloc (.cells kv.toArray 22)).alloc (.cells sv.toArray 22)) w.heap.size 47 rt := ((Blk.new w _ rt.toArray).alloc _).alloc _
  have BK : Blk (((w.alloc (.cells rt.toArray 47)).alloc (.cells kv.toArray 22)).alloc (.cells sv.toArray 22)) (w.heap.size + 1) 22 kv := (Blk.new' (w.alloc _) _ kv.toArray _ (by simp)).alloc _
  have BM : Blk (((w.alloc (.cells rt.toArray 47)).alloc (.cells kv.toArray 22)).alloc (.cells sv.toArray 22)) (w.heap.size + 1 + 1) 22 sv := Blk.new' _ _ sv.toArray _ (by simp)
  have x1 : Ext [] w (((w.alloc (.cells rt.toArray 47)).alloc (.cells kv.toArray 22)).alloc (.cells sv.toArray 22)) := (((Ext.refl _ _).alloc _).alloc _).alloc _
  generalize (((w.alloc (.cells rt.toArray 47)).alloc (.cells kv.toArray 22)).alloc (.cells sv.toArray 22)) = w1 at *
  go_wp2_with fail
  go_loopw [9, 10] (fun u i wr => ∃ k : Nat, k ≤ 32 ∧ i = .int .i64 (k : Int) ∧ wr.ownsRow 0 5 1 u (fitL sum s k).length (bytesV (fitL sum s k)) ∧ Ext [] w1 wr ∧ ∀ g, u.ownBlock = some g → w1.heap.size ≤ g) (fun _ i _ => 32 - (intOf i).toNat)
  case atStart => exact ⟨0, by omega, rfl, by simpa [bytesV, fitL] using World.ownsRow_nil _ _ _ _, Ext.refl _ _, fun g h => by cases h⟩
  case round =>
    obtain ⟨k, hk, rfl, hown, x, fr⟩ := hrel
    obtain ⟨va, vc, rfl⟩ := owns_slice hown
    have hkl := HFL.out k hk
    by_cases hlt : k < 32
    · have HP0 := Lib.hid (fun cap W (x' : Ext [] w1 W) => HP.out cap (64 * k) W (x1.trans x') (by omega))
      have HP1 := Lib.hid (fun cap W (x' : Ext [] w1 W) => HP.out cap (64 * k + 32) W (x1.trans x') (by omega))
      have hl0 := HL.out (64 * k) (by omega)
      have hl1 := HL.out (64 * k + 32) (by omega)
      have HB := Lib.hid (fun w' => HBIT.out k w' hlt)
      have HQ := Lib.hid (show fitL sum s (k + 1) = fitL sum s k ++ (if bitM sum k = 1 then (s.drop (64 * k + 32)).take 32 ++ sumOf ((s.drop (64 * k)).take 32) else sumOf ((s.drop (64 * k)).take 32) ++ (s.drop (64 * k + 32)).take 32) from fitL_succ sum s k)
      have hb2 := bitM_lt sum k
      have hLk : (fitL sum s k).length ≤ 2048 := by omega
      clear hkl
      generalize (s.drop (64 * k)).take 32 = L0 at *
      generalize (s.drop (64 * k + 32)).take 32 = L1 at *
      generalize bitM sum k = R at *
      generalize fitL sum s k = L at *
      have x0 : Ext [] w1 wr.drew := x.drew
      have e1 : IntKind.i64.wrap (64 * (k : Int)) = 64 * (k : Int) := IntWalk.i64_in _ (by omega)
      have e2 : IntKind.i64.wrap (64 * (k : Int) + 32) = 64 * (k : Int) + 32 := IntWalk.i64_in _ (by omega)
      have e3 : (0 : Int) ≤ 64 * (k : Int) := by omega
      have e4 : 64 * (k : Int) ≤ 64 * (k : Int) + 32 := by omega
      have e5 : 64 * (k : Int) + 32 ≤ (cap : Int) := by omega
      have e6 : (64 * (k : Int)).toNat = 64 * k := by omega
      have e7 : (64 * (k : Int) + 32).toNat - 64 * k = 32 := by omega
      have e8 : ¬ (cap = 64 * k) := by omega
      have e9 : (64 * (k : Int) + 32).toNat = 64 * k + 32 := by omega
      go_upto_region 5 with (fail)
      refine wp_region_held_drew (S := fun w' => Ext [] w1 w') (by kernel_rfl) x0 (fun _ => ?_)
      refine wpAnyH_take (i := 0) (oi := ⟨some 17, _, _, _, _, _⟩) (v := .agg rt.toArray) rfl (by kernel_rfl) (by kernel_rfl) (by kernel_rfl) (fun _ _ _ h => h) (yieldsIf_load_mid (by rfl) _ _ rfl w.heap.size 0 rfl rt _ (fun w h => range_of_blk' (BR.ext h (by simp))) hu rfl hsz) (by assumption) ?_
      try simp only [Act.put, List.setIfInBounds_toArray, List.set_cons_zero, List.set_cons_succ]
      refine wpAnyH_take (i := 1) (oi := ⟨some 18, _, _, _, _, _⟩) (v := ?_) rfl (by kernel_rfl) (by kernel_rfl) (by kernel_rfl) (fun _ _ _ h => h) (Or.inl ⟨by rfl, ?_⟩) (by assumption) ?_
      rotate_left 1
      · (intro w hSw; (try dsimp only at hSw); go_split_ands; go_simp; (try with_reducible rfl))
      try simp only [Act.put, List.setIfInBounds_toArray, List.set_cons_zero, List.set_cons_succ]
      refine wpAnyH_take (i := 2) (oi := ⟨some 19, _, _, _, _, _⟩) (v := ?_) rfl (by kernel_rfl) (by kernel_rfl) (by kernel_rfl) (fun _ _ _ h => h) (Or.inl ⟨by rfl, ?_⟩) (by assumption) ?_
      rotate_left 1
      · (intro w hSw; (try dsimp only at hSw); go_split_ands; go_simp; (try with_reducible rfl))
      try simp only [Act.put, List.setIfInBounds_toArray, List.set_cons_zero, List.set_cons_succ]
      refine wpAnyH_take (i := 3) (oi := ⟨some 20, _, _, _, _, _⟩) (v := ?_) rfl (by kernel_rfl) (by kernel_rfl) (by kernel_rfl) (fun _ _ _ h => h) (Or.inl ⟨by rfl, ?_⟩) (by assumption) ?_
      rotate_left 1
      · (intro w hSw; (try dsimp only at hSw); go_split_ands; go_simp; (try with_reducible rfl))
      try simp only [Act.put, List.setIfInBounds_toArray, List.set_cons_zero, List.set_cons_succ]
      refine wpAnyH_take (i := 4) (oi := ⟨some 21, _, _, _, _, _⟩) (v := ?_) rfl (by kernel_rfl) (by kernel_rfl) (by kernel_rfl) (fun _ _ _ h => h) (Or.inl ⟨by rfl, ?_⟩) (by assumption) ?_
      rotate_left 1
      · (intro w hSw; (try dsimp only at hSw); go_split_ands; go_simp; (try with_reducible rfl))
      try simp only [Act.put, List.setIfInBounds_toArray, List.set_cons_zero, List.set_cons_succ]
      refine wpAnyH_take (i := 5) (oi := ⟨some 22, _, _, _, _, _⟩) (v := ?_) rfl (by kernel_rfl) (by kernel_rfl) (by kernel_rfl) (fun _ _ _ h => h) (Or.inl ⟨by rfl, ?_⟩) (by assumption) ?_
      rotate_left 1
      · (intro w hSw; (try dsimp only at hSw); go_split_ands; go_simp; (try with_reducible rfl))
      try simp only [Act.put, List.setIfInBounds_toArray, List.set_cons_zero, List.set_cons_succ]
      refine wpAnyH_take (i := 6) (oi := ⟨some 23, _, _, _, _, _⟩) (v := ?_) rfl (by kernel_rfl) (by kernel_rfl) (by kernel_rfl) (fun _ _ _ h => h) (Or.inl ⟨by rfl, ?_⟩) (by assumption) ?_
      rotate_left 1
      · (intro w hSw; (try dsimp only at hSw); go_split_ands; go_simp; (try with_reducible rfl))
      try simp only [Act.put, List.setIfInBounds_toArray, List.set_cons_zero, List.set_cons_succ]
      refine wpAnyH_take (i := 7) (oi := ⟨some 24, _, _, _, _, _⟩) (v := ?_) rfl (by kernel_rfl) (by kernel_rfl) (by kernel_rfl) (fun _ _ _ h => h) (Or.inl ⟨by rfl, ?_⟩) (by assumption) ?_
      rotate_left 1
      · (intro w hSw; (try dsimp only at hSw); go_split_ands; go_simp; (try with_reducible rfl))
      try simp only [Act.put, List.setIfInBounds_toArray, List.set_cons_zero, List.set_cons_succ]
      refine wpAnyH_ready (rs := [8]) (by kernel_rfl) (by simp) ?_
      refine AllReadyH.cons (o := ⟨some 25, _, _, _, _, _⟩) rfl (fun K hK => ?_) AllReadyH.nil
      go_simp
      refine (HLEAF.out _ L0 _ (hl0.symm ▸ HP0.out _ _ x0) (by omega)).mono ?_
      rintro e W8 ⟨u6, rfl, h6, x6⟩
      go_simp
      have hk := x0.trans x6
      refine hK.out _ _ hk (fun hS => ?_)
      clear hK K
      try simp only [Act.put, List.setIfInBounds_toArray, List.set_cons_zero, List.set_cons_succ]
      refine wpAnyH_take (i := 9) (oi := ⟨some 11, _, _, _, _, _⟩) (v := ?_) rfl (by kernel_rfl) (by kernel_rfl) (by kernel_rfl) (fun _ _ _ h => h) (Or.inl ⟨by rfl, ?_⟩) (by assumption) ?_
      rotate_left 1
      · (intro w hSw; (try dsimp only at hSw); go_split_ands; go_simp; (try with_reducible rfl))
      try simp only [Act.put, List.setIfInBounds_toArray, List.set_cons_zero, List.set_cons_succ]
      refine wpAnyH_done (by kernel_rfl) ?_ _
      obtain ⟨g6, rfl, B6, hg6, -⟩ := h6
      have hown6 := owns_ext hown ((Ext.refl _ _).drew.trans x6) (by simp)
      have y6 := x0.trans x6
      have hl6 : (sumOf L0).length = 32 := sumOf_length _
      generalize sumOf L0 = l0 at *
      clear e1 e2 e3 e4 e5 e6 e7 e8 e9 x0 x6 hown x hk HP0 hl0
      have BM6 := BM.ext y6 (by simp)
      have f3 : (0 : Int) ≤ 64 * (k : Int) + 32 := by omega
      have f4 : 64 * (k : Int) + 32 ≤ 64 * (k : Int) + 64 := by omega
      have f5 : 64 * (k : Int) + 64 ≤ (cap : Int) := by omega
      have f6 : (64 * (k : Int) + 32).toNat = 64 * k + 32 := by omega
      have f7 : (64 * (k : Int) + 64).toNat - (64 * k + 32) = 32 := by omega
      have f8 : ¬ (cap = 64 * k + 32) := by omega
      go_upto_region 7 with (fail)
      clear f3 f4 f5 f6 f7 f8
      go_wp2_with (with_reducible refine wpList_ldpart rfl 22 (.tmp 6) rfl (w.heap.size + 1 + 1) 0 rfl sv _ BM6.part hu3 rfl hsz3 ?_)
      refine (HB.out W8).mono ?_
      rintro e w7 ⟨rfl, x7⟩
      have y7 := y6.trans x7
      have B7 := B6.ext x7 (by simp)
      have hown7 := owns_ext hown6 x7 (by simp)
      clear x7 y6 B6 hown6 BM6 hg6
      by_cases hR : R = 1
      · rw [if_pos hR] at HQ
        subst hR
        go_wp2_with (first
          | (at_builtin; (refine wpList_app _ rfl (.tmp 45) (.tmp 46) 30 rfl 5 i0 (.int .u8 0) 1 1 Tryd.underlying30 hi hz0 hz1 hz2 rfl (by decide) (.slice a8 (L.length + 32) c8) (L.length + 32) (bytesV (L ++ L1)) rfl hown8 (.slice (some ⟨g6, 0, none⟩) 32 32) 32 (bytesV l0) rfl (blk_reads B8 32 (by rw [bytesV_length, hl6])) (bytesV_one l0) (by unfold maxLen; omega) (by omega) ?_); intro v9 w9 hown9 hgrow9 hfr9 _)
          | (at_builtin; go_must (refine wpList_app _ rfl (.tmp 43) (.tmp 44) 30 rfl 5 i0 (.int .u8 0) 1 1 Tryd.underlying30 hi hz0 hz1 hz2 rfl (by decide) (.slice va L.length vc) L.length (bytesV L) rfl hown7 (.slice (some ⟨bb, o + (64 * k + 32), none⟩) 32 (cap - (64 * k + 32))) 32 (bytesV L1) rfl (hl1 ▸ HP1.out _ _ y7) (bytesV_one L1) (by unfold maxLen; omega) (by omega) ?_); intro v8 w8 hown8 hgrow8 hfr8 _; rw [← bytesV_append] at hown8; have fr8 := own_fresh y7 fr hgrow8 hfr8; have y8 := y7.grown hgrow8 (by intro g hg; exact .inr (fr g hg)); have B8 := B7.grown hgrow8 (blk_not_row B7 (by decide) hown7).symm; obtain ⟨a8, c8, hv8⟩ := owns_slice hown8; subst hv8; clear hgrow8 hfr8))
        rw [← bytesV_append, show L.length + 32 + 32 = (L ++ L1 ++ l0).length by rw [List.length_append, List.length_append, hl1, hl6], List.append_assoc, ← HQ.out] at hown9
        have fr9 := own_fresh y8 fr8 hgrow9 hfr9
        have y9 := y8.grown hgrow9 (by intro g hg; exact .inr (fr8 g hg))
        clear hgrow9 hfr9
        go_wp2_with fail
        go_roundw
        case rel => exact ⟨k + 1, by omega, by go_num, hown9, y9, fr9⟩
        case measure => simp [intOf]; omega
      · rw [if_neg hR] at HQ
        obtain rfl : R = 0 := by omega
        go_wp2_with (first
          | (at_builtin; (refine wpList_app _ rfl (.tmp 40) (.tmp 41) 30 rfl 5 i0 (.int .u8 0) 1 1 Tryd.underlying30 hi hz0 hz1 hz2 rfl (by decide) (.slice a8 (L.length + 32) c8) (L.length + 32) (bytesV (L ++ l0)) rfl hown8 (.slice (some ⟨bb, o + (64 * k + 32), none⟩) 32 (cap - (64 * k + 32))) 32 (bytesV L1) rfl (hl1 ▸ HP1.out _ _ y8) (bytesV_one L1) (by unfold maxLen; omega) (by omega) ?_); intro v9 w9 hown9 hgrow9 hfr9 _)
          | (at_builtin; go_must (refine wpList_app _ rfl (.tmp 38) (.tmp 39) 30 rfl 5 i0 (.int .u8 0) 1 1 Tryd.underlying30 hi hz0 hz1 hz2 rfl (by decide) (.slice va L.length vc) L.length (bytesV L) rfl hown7 (.slice (some ⟨g6, 0, none⟩) 32 32) 32 (bytesV l0) rfl (blk_reads B7 32 (by rw [bytesV_length, hl6])) (bytesV_one l0) (by unfold maxLen; omega) (by omega) ?_); intro v8 w8 hown8 hgrow8 hfr8 _; rw [← bytesV_append] at hown8; have fr8 := own_fresh y7 fr hgrow8 hfr8; have y8 := y7.grown hgrow8 (by intro g hg; exact .inr (fr g hg)); obtain ⟨a8, c8, hv8⟩ := owns_slice hown8; subst hv8; clear hgrow8 hfr8))
        rw [← bytesV_append, show L.length + 32 + 32 = (L ++ l0 ++ L1).length by rw [List.length_append, List.length_append, hl6, hl1], List.append_assoc, ← HQ.out] at hown9
        have fr9 := own_fresh y8 fr8 hgrow9 hfr9
        have y9 := y8.grown hgrow9 (by intro g hg; exact .inr (fr8 g hg))
        clear hgrow9 hfr9
        go_wp2_with fail
        go_roundw
        case rel => exact ⟨k + 1, by omega, by go_num, hown9, y9, fr9⟩
        case measure => simp [intOf]; omega
    · obtain rfl : k = 32 := by omega
      have hrd := owns_reads hown
      have HS := Lib.hid (HSUM.out _ _ wr.drew (hrd.ext (Ext.refl _ _).drew) (by omega))
      have x0 : Ext [] w1 wr.drew := x.drew
      generalize sumOf (fitL sum s 32) = S at *
      obtain ⟨ov, hov⟩ : ∃ ov, ov = bytesV S := ⟨_, rfl⟩
      rw [← hov] at HEQ HS
      clear hov hrd hown fr hkl
      go_upto_region 10 with (fail)
      refine wp_region_held_drew (S := fun w' => Ext [] w1 w') (by kernel_rfl) x0 (fun _ => ?_)
      refine wpAnyH_take (i := 0) (oi := ⟨some 48, _, _, _, _, _⟩) (v := .agg rt.toArray) rfl (by kernel_rfl) (by kernel_rfl) (by kernel_rfl) (fun _ _ _ h => h) (yieldsIf_load_mid (by rfl) _ _ rfl w.heap.size 0 rfl rt _ (fun w h => range_of_blk' (BR.ext h (by simp))) hu rfl hsz) (by assumption) ?_
      try simp only [Act.put, List.setIfInBounds_toArray, List.set_cons_zero, List.set_cons_succ]
      refine wpAnyH_take (i := 1) (oi := ⟨some 49, _, _, _, _, _⟩) (v := ?_) rfl (by kernel_rfl) (by kernel_rfl) (by kernel_rfl) (fun _ _ _ h => h) (Or.inl ⟨by rfl, ?_⟩) (by assumption) ?_
      rotate_left 1
      · (intro w hSw; (try dsimp only at hSw); go_split_ands; go_simp; (try with_reducible rfl))
      try simp only [Act.put, List.setIfInBounds_toArray, List.set_cons_zero, List.set_cons_succ]
      refine wpAnyH_take (i := 3) (oi := ⟨some 51, _, _, _, _, _⟩) (v := .agg kv.toArray) rfl (by kernel_rfl) (by kernel_rfl) (by kernel_rfl) (fun _ _ _ h => h) (yieldsIf_load_mid (by rfl) _ _ rfl (w.heap.size + 1) 0 rfl kv _ (fun w h => range_of_blk' (BK.ext h (by simp))) hu3 rfl hsz4) (by assumption) ?_
      try simp only [Act.put, List.setIfInBounds_toArray, List.set_cons_zero, List.set_cons_succ]
      refine wpAnyH_ready (rs := [2]) (by kernel_rfl) (by simp) ?_
      refine AllReadyH.cons (o := ⟨some 50, _, _, _, _, _⟩) rfl (fun K hK => ?_) AllReadyH.nil
      go_simp
      refine (HS.out).mono ?_
      rintro e W2 ⟨rfl, x6⟩
      go_simp
      have hk := x0.trans x6
      refine hK.out _ _ hk (fun hS => ?_)
      clear hK K
      try simp only [Act.put, List.setIfInBounds_toArray, List.set_cons_zero, List.set_cons_succ]
      refine wpAnyH_take (i := 4) (oi := ⟨some 52, _, _, _, _, _⟩) (v := ?_) rfl (by kernel_rfl) (by kernel_rfl) (by kernel_rfl) (fun _ _ _ h => h) (Or.inl ⟨by rfl, ?_⟩) (by assumption) ?_
      rotate_left 1
      · (intro w hSw; (try dsimp only at hSw); go_split_ands; have heq := HEQ.out; go_simp; (try with_reducible rfl))
      try simp only [Act.put, List.setIfInBounds_toArray, List.set_cons_zero, List.set_cons_succ]
      refine wpAnyH_take (i := 5) (oi := ⟨some 8, _, _, _, _, _⟩) (v := ?_) rfl (by kernel_rfl) (by kernel_rfl) (by kernel_rfl) (fun _ _ _ h => h) (Or.inl ⟨by rfl, ?_⟩) (by assumption) ?_
      rotate_left 1
      · (intro w hSw; (try dsimp only at hSw); go_split_ands; go_simp; (try with_reducible rfl))
      try simp only [Act.put, List.setIfInBounds_toArray, List.set_cons_zero, List.set_cons_succ]
      refine wpAnyH_done (by kernel_rfl) ?_ _
      go_wp2_with fail
      go_ret
      exact ⟨rfl, x1.trans (x0.trans x6)⟩
end Go.Proofs.YtgcbgeombbohpaaDoor
