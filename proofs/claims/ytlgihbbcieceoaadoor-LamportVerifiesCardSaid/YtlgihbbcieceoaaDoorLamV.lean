/- The law LamportVerifies: the walk. -/
import Derived.Test.YtlgihbbcieceoaaDoorLamF
import Derived.Test.YtlgihbbcieceoaaDoorLamG
import Derived.Test.YtlgihbbcieceoaaDoorBCut
namespace Go.Proofs.YtlgihbbcieceoaaDoor
open Go.RowKit
set_option maxRecDepth 100000

set_option maxHeartbeats 8000000 in
theorem lverifies_walk (key sum : List UInt8) (v : Value) (b0 : List UInt8) (w : World) (G : DigG w) (hkl : key.length = 32) (hsl : sum.length = 32) (hb : BytesArg w v b0) :
    Calls Tryd.prog 4 #[.agg (bytesV key).toArray, .agg (bytesV sum).toArray, v] w fun e w' => e = .returned (.bool true) ∧ Ext [] w w' := by
  obtain ⟨i0, hi, hz0, hz1, hz2⟩ := info_parts info_byte
  have HG := Lib.hid (fun w' (x' : Ext [] w w') => G.ext x' (by simp) (by simp))
  clear G
  have HC := Lib.hid (fun w' (x : Ext [] w w') => (hb.ext x).cut 2050)
  obtain ⟨ao, c, rfl, hlc, hmax, -⟩ := hb
  unfold maxLen at hmax
  have hif : (if 2050 < (b0.length : Int) then 2050 else (b0.length : Int)) = ((min b0.length 2050 : Nat) : Int) := by split <;> omega
  obtain ⟨q, hq⟩ : ∃ q, q = b0.take 2050 := ⟨_, rfl⟩
  have hql : min b0.length 2050 = q.length := by rw [hq, List.length_take, Nat.min_comm]
  rw [← hq] at HC
  rw [show cutOf 2050 (.slice ao b0.length c) = .slice ao q.length c by rw [← hql]; rfl] at HC
  have hq300 : q.length ≤ 2050 := by omega
  rw [hql] at hif
  have HIF := Lib.hid hif
  clear hif hq hql
  have hkv : (bytesV key).length = 32 := by rw [bytesV_length, hkl]
  have hsv : (bytesV sum).length = 32 := by rw [bytesV_length, hsl]
  have HNO := Lib.hid (fun a n c w' (hn : n ≠ 2048) => verify_no key sum a n c w' hn)
  have HVER := Lib.hid (fun g c w' (G : DigG w') (hs : q.length = 2048) hcap hbb hc => verify_any key sum q g 0 c w' G hkl hsl hs hcap hbb hc)
  have HFIT := Lib.hid (fun g c w' (hs : q.length = 2048) hcap hcm hbb hc => r2fits key sum q g 0 c w' hkl hsl hs hcap hcm hbb hc)
  have HVR := Lib.hid (show verR key sum q = if sumOf (fitL sum q 32) = key then 0 else 129 from rfl)
  have HMK := Lib.hid make_ref
  generalize verR key sum q = R at *
  generalize sumOf (fitL sum q 32) = F at *
  obtain ⟨B, hB⟩ : ∃ B, B = decide (F = key) := ⟨_, rfl⟩
  rw [← hB] at HFIT
  have HBR := Lib.hid (show (B = true ∧ R = 0) ∨ (B = false ∧ R = 129) by
    by_cases h : F = key
    · left; exact ⟨by rw [hB]; exact decide_eq_true h, by rw [HVR.out, if_pos h]⟩
    · right; exact ⟨by rw [hB]; exact decide_eq_false h, by rw [HVR.out, if_neg h]⟩)
  clear hB HVR hkl hsl
  generalize V32 (Ks ++ begin0.list) = rt at *
  generalize bytesV key = kv at *
  generalize bytesV sum = sv at *
  have hu3 := Tryd.underlying23
  have hsz3 : (Tryd.prog.info? 23).map (·.size) = some sv.length := by rw [hsv]; kernel_rfl
  have hsz4 : (Tryd.prog.info? 23).map (·.size) = some kv.length := by rw [hkv]; kernel_rfl
  go_enter Tryd.func4, Tryd.ntmps4
  go_upto_region 1 with (fail)
  show Code.wp _ _ _ _ ((w.alloc (.cells kv.toArray 23)).alloc (.cells sv.toArray 23))
  have BK : Blk ((w.alloc (.cells kv.toArray 23)).alloc (.cells sv.toArray 23)) w.heap.size 23 kv := (Blk.new w _ kv.toArray).alloc _
  have BM : Blk ((w.alloc (.cells kv.toArray 23)).alloc (.cells sv.toArray 23)) (w.heap.size + 1) 23 sv := Blk.new' _ _ sv.toArray _ (by simp)
  have x1 : Ext [] w ((w.alloc (.cells kv.toArray 23)).alloc (.cells sv.toArray 23)) := ((Ext.refl _ _).alloc _).alloc _
  generalize ((w.alloc (.cells kv.toArray 23)).alloc (.cells sv.toArray 23)) = w1 at *
  go_upto_region 2 with (at_builtin; first
    | (refine wpList_app _ rfl (.tmp 8) (.tmp 13) 22 rfl 5 i0 (.int .u8 0) 1 1 Tryd.underlying22 hi hz0 hz1 hz2 rfl (by decide) (.slice (some ⟨w1.heap.size, 0, none⟩) 0 0) 0 [] rfl ((Blk.new w1 5 #[]).owns rfl (Nat.zero_le _)) (.slice ao q.length c) q.length (bytesV q) (by rw [HIF.out]; rfl) (HC.out _ (x1.alloc _)) (bytesV_one q) (by unfold maxLen; omega) (by omega) ?_; intro v2 w2 hown2 hgrow2 hfr2 hnn))
  have x2 : Ext [] w1 w2 := ((Ext.refl [] w1).alloc _).grown hgrow2 (by intro k hk; simp [Value.ownBlock] at hk; exact .inr (by omega))
  obtain ⟨g2, cp2, rfl⟩ : ∃ g cp, v2 = .slice (some ⟨g, 0, none⟩) q.length cp := by
    rcases hown2.2 with ⟨h, _⟩ | ⟨g, cap, cur, h, _⟩
    · exact absurd (hnn.1 h).1 (by simp)
    · exact ⟨g, cap, by simpa using h⟩
  rw [HIF.out]
  simp only [Nat.zero_add, List.nil_append, Int.toNat_natCast] at hown2 ⊢
  clear hgrow2 hfr2 hnn HC
  have BK2 := BK.ext x2 (by simp)
  have BM2 := BM.ext x2 (by simp)
  have y2 := x1.trans x2
  clear BK BM x1 x2
  by_cases hq8 : q.length = 2048
  · obtain ⟨g, cap, cur, he, hbb, hcap, hcm, -, -⟩ := owns_some hown2 (by omega)
    cases he
    unfold maxLen at hcm
    have HCL := Lib.hid (fun w' (x : Ext [] w2 w') => (show cp2 ≥ 2048 ∧ g2 < w'.heap.size ∧ ∀ j, j < 2048 → w'.cell? ⟨g2, 0 + j, none⟩ = some (.int .u8 ((q.getD j 0).toNat : Int)) from ⟨by omega, Nat.lt_of_lt_of_le hbb.lt x.size, fun j hj => by
      rw [Nat.zero_add, (owns_ext hown2 x (by simp)).cellAt j (by omega), bytesV_at q j (by omega)]⟩))
    have HV := Lib.hid (fun w' (x : Ext [] w2 w') => HVER.out g2 cp2 w' (HG.out _ (y2.trans x)) hq8 (HCL.out w' x).1 (HCL.out w' x).2.1 (HCL.out w' x).2.2)
    have HF := Lib.hid (fun w' (x : Ext [] w2 w') => HFIT.out g2 cp2 w' hq8 (HCL.out w' x).1 (by omega) (HCL.out w' x).2.1 (HCL.out w' x).2.2)
    rw [hq8]
    have HQ8 := Lib.hid hq8
    clear hq8 hown2 HIF hq300
    go_wp2_with (first
      | (with_reducible refine wpList_ldpart rfl 23 (.tmp 3) rfl w.heap.size 0 rfl kv _ BK2.part hu3 rfl hsz4 ?_)
      | (with_reducible refine wpList_ldpart rfl 23 (.tmp 4) rfl (w.heap.size + 1) 0 rfl sv _ BM2.part hu3 rfl hsz3 ?_))
    refine (HV.out w2 (Ext.refl _ _)).mono ?_
    rintro e w3 ⟨rfl, x3⟩
    go_wp2_with fail
    refine (lsigns_any w3 (HG.out _ (y2.trans x3))).mono ?_
    rintro e w4 ⟨rfl, x4⟩
    have x34 := x3.trans x4
    have z4 : Ext [] w2 w4.drew := x34.drew
    clear x3 x4
    rcases HBR.out with ⟨rfl, rfl⟩ | ⟨rfl, rfl⟩
    · go_wp2_with fail
      refine wp_region_held_drew (S := fun w' => Ext [] w2 w') (by kernel_rfl) z4 (fun _ => ?_)
      refine wpAnyH_take (i := 0) (oi := ⟨some 26, _, _, _, _, _⟩) (v := ?_) rfl (by kernel_rfl) (by kernel_rfl) (by kernel_rfl) (fun _ _ _ h => h) (Or.inl ⟨by rfl, ?_⟩) (by assumption) ?_
      rotate_left 1
      · (intro w hSw; (try dsimp only at hSw); go_split_ands; go_simp; (try with_reducible rfl))
      try simp only [Act.put, List.setIfInBounds_toArray, List.set_cons_zero, List.set_cons_succ]
      refine wpAnyH_take (i := 1) (oi := ⟨some 27, _, _, _, _, _⟩) (v := ?_) rfl (by kernel_rfl) (by kernel_rfl) (by kernel_rfl) (fun _ _ _ h => h) (Or.inl ⟨by rfl, ?_⟩) (by assumption) ?_
      rotate_left 1
      · (intro w hSw; (try dsimp only at hSw); go_split_ands; go_simp; (try with_reducible rfl))
      try simp only [Act.put, List.setIfInBounds_toArray, List.set_cons_zero, List.set_cons_succ]
      refine wpAnyH_take (i := 3) (oi := ⟨some 29, _, _, _, _, _⟩) (v := .agg kv.toArray) rfl (by kernel_rfl) (by kernel_rfl) (by kernel_rfl) (fun _ _ _ h => h) (yieldsIf_load_mid (by rfl) _ _ rfl w.heap.size 0 rfl kv _ (fun w h => range_of_blk3 (BK2.ext h (by simp))) hu3 rfl hsz4) (by assumption) ?_
      try simp only [Act.put, List.setIfInBounds_toArray, List.set_cons_zero, List.set_cons_succ]
      refine wpAnyH_take (i := 4) (oi := ⟨some 30, _, _, _, _, _⟩) (v := .agg sv.toArray) rfl (by kernel_rfl) (by kernel_rfl) (by kernel_rfl) (fun _ _ _ h => h) (yieldsIf_load_mid (by rfl) _ _ rfl (w.heap.size + 1) 0 rfl sv _ (fun w h => range_of_blk3 (BM2.ext h (by simp))) hu3 rfl hsz3) (by assumption) ?_
      try simp only [Act.put, List.setIfInBounds_toArray, List.set_cons_zero, List.set_cons_succ]
      refine wpAnyH_take (i := 5) (oi := ⟨some 31, _, _, _, _, _⟩) (v := ?_) rfl (by kernel_rfl) (by kernel_rfl) (by kernel_rfl) (fun _ _ _ h => h) (Or.inl ⟨by rfl, ?_⟩) (by assumption) ?_
      rotate_left 1
      · (intro w hSw; (try dsimp only at hSw); go_split_ands; go_simp; (try with_reducible rfl))
      try simp only [Act.put, List.setIfInBounds_toArray, List.set_cons_zero, List.set_cons_succ]
      refine wpAnyH_ready (rs := [2]) (by kernel_rfl) (by simp) ?_
      refine AllReadyH.cons (o := ⟨some 28, _, _, _, _, _⟩) rfl (fun K hK => ?_) AllReadyH.nil
      go_simp
      refine (HMK.out _).mono ?_
      rintro e W2 ⟨rfl, x5⟩
      go_simp
      have hk := z4.trans x5
      refine hK.out _ _ hk (fun _ => ?_)
      clear hK K
      try simp only [Act.put, List.setIfInBounds_toArray, List.set_cons_zero, List.set_cons_succ]
      refine wpAnyH_ready (rs := [6]) (by kernel_rfl) (by simp) ?_
      refine AllReadyH.cons (o := ⟨some 32, _, _, _, _, _⟩) rfl (fun K hK => ?_) AllReadyH.nil
      go_simp
      refine (HF.out _ (z4.trans x5)).mono ?_
      rintro e W6 ⟨rfl, x6⟩
      go_simp
      have hk := (z4.trans x5).trans x6
      refine hK.out _ _ hk (fun _ => ?_)
      clear hK K
      try simp only [Act.put, List.setIfInBounds_toArray, List.set_cons_zero, List.set_cons_succ]
      refine wpAnyH_take (i := 7) (oi := ⟨some 33, _, _, _, _, _⟩) (v := ?_) rfl (by kernel_rfl) (by kernel_rfl) (by kernel_rfl) (fun _ _ _ h => h) (Or.inl ⟨by rfl, ?_⟩) (by assumption) ?_
      rotate_left 1
      · (intro w hSw; (try dsimp only at hSw); go_split_ands; go_simp; (try with_reducible rfl))
      try simp only [Act.put, List.setIfInBounds_toArray, List.set_cons_zero, List.set_cons_succ]
      refine wpAnyH_take (i := 8) (oi := ⟨some 34, _, _, _, _, _⟩) (v := ?_) rfl (by kernel_rfl) (by kernel_rfl) (by kernel_rfl) (fun _ _ _ h => h) (Or.inl ⟨by rfl, ?_⟩) (by assumption) ?_
      rotate_left 1
      · (intro w hSw; (try dsimp only at hSw); go_split_ands; go_simp; (try with_reducible rfl))
      try simp only [Act.put, List.setIfInBounds_toArray, List.set_cons_zero, List.set_cons_succ]
      refine wpAnyH_take (i := 9) (oi := ⟨some 35, _, _, _, _, _⟩) (v := ?_) rfl (by kernel_rfl) (by kernel_rfl) (by kernel_rfl) (fun _ _ _ h => h) (Or.inl ⟨by rfl, ?_⟩) (by assumption) ?_
      rotate_left 1
      · (intro w hSw; (try dsimp only at hSw); go_split_ands; go_simp; (try with_reducible rfl))
      try simp only [Act.put, List.setIfInBounds_toArray, List.set_cons_zero, List.set_cons_succ]
      refine wpAnyH_take (i := 10) (oi := ⟨some 36, _, _, _, _, _⟩) (v := ?_) rfl (by kernel_rfl) (by kernel_rfl) (by kernel_rfl) (fun _ _ _ h => h) (Or.inl ⟨by rfl, ?_⟩) (by assumption) ?_
      rotate_left 1
      · (intro w hSw; (try dsimp only at hSw); go_split_ands; go_simp; (try with_reducible rfl))
      try simp only [Act.put, List.setIfInBounds_toArray, List.set_cons_zero, List.set_cons_succ]
      refine wpAnyH_take (i := 11) (oi := ⟨some 37, _, _, _, _, _⟩) (v := ?_) rfl (by kernel_rfl) (by kernel_rfl) (by kernel_rfl) (fun _ _ _ h => h) (Or.inl ⟨by rfl, ?_⟩) (by assumption) ?_
      rotate_left 1
      · (intro w hSw; (try dsimp only at hSw); go_split_ands; go_simp; (try with_reducible rfl))
      try simp only [Act.put, List.setIfInBounds_toArray, List.set_cons_zero, List.set_cons_succ]
      refine wpAnyH_take (i := 12) (oi := ⟨some 38, _, _, _, _, _⟩) (v := _) rfl (by kernel_rfl) (by kernel_rfl) (by kernel_rfl) (fun _ _ _ h => h) (Or.inr ⟨by rfl, rfl⟩) (by assumption) ?_
      try simp only [Act.put, List.setIfInBounds_toArray, List.set_cons_zero, List.set_cons_succ]
      refine wpAnyH_take (i := 13) (oi := ⟨some 39, _, _, _, _, _⟩) (v := _) rfl (by kernel_rfl) (by kernel_rfl) (by kernel_rfl) (fun _ _ _ h => h) (Or.inr ⟨by rfl, rfl⟩) (by assumption) ?_
      try simp only [Act.put, List.setIfInBounds_toArray, List.set_cons_zero, List.set_cons_succ]
      refine wpAnyH_take (i := 14) (oi := ⟨some 40, _, _, _, _, _⟩) (v := ?_) rfl (by kernel_rfl) (by kernel_rfl) (by kernel_rfl) (fun _ _ _ h => h) (Or.inl ⟨by rfl, ?_⟩) (by assumption) ?_
      rotate_left 1
      · (intro w hSw; (try dsimp only at hSw); go_split_ands; go_simp; (try with_reducible rfl))
      try simp only [Act.put, List.setIfInBounds_toArray, List.set_cons_zero, List.set_cons_succ]
      refine wpAnyH_take (i := 15) (oi := ⟨some 41, _, _, _, _, _⟩) (v := ?_) rfl (by kernel_rfl) (by kernel_rfl) (by kernel_rfl) (fun _ _ _ h => h) (Or.inl ⟨by rfl, ?_⟩) (by assumption) ?_
      rotate_left 1
      · (intro w hSw; (try dsimp only at hSw); go_split_ands; go_simp; (try with_reducible rfl))
      try simp only [Act.put, List.setIfInBounds_toArray, List.set_cons_zero, List.set_cons_succ]
      refine wpAnyH_take (i := 16) (oi := ⟨some 6, _, _, _, _, _⟩) (v := ?_) rfl (by kernel_rfl) (by kernel_rfl) (by kernel_rfl) (fun _ _ _ h => h) (Or.inl ⟨by rfl, ?_⟩) (by assumption) ?_
      rotate_left 1
      · (intro w hSw; (try dsimp only at hSw); go_split_ands; go_simp; (try with_reducible rfl))
      try simp only [Act.put, List.setIfInBounds_toArray, List.set_cons_zero, List.set_cons_succ]
      refine wpAnyH_done (by kernel_rfl) ?_ _
      go_wp2_with fail
      go_ret
      exact ⟨rfl, y2.trans ((z4.trans x5).trans x6)⟩
    · go_wp2_with fail
      refine wp_region_held_drew (S := fun w' => Ext [] w2 w') (by kernel_rfl) z4 (fun _ => ?_)
      refine wpAnyH_take (i := 0) (oi := ⟨some 26, _, _, _, _, _⟩) (v := ?_) rfl (by kernel_rfl) (by kernel_rfl) (by kernel_rfl) (fun _ _ _ h => h) (Or.inl ⟨by rfl, ?_⟩) (by assumption) ?_
      rotate_left 1
      · (intro w hSw; (try dsimp only at hSw); go_split_ands; go_simp; (try with_reducible rfl))
      try simp only [Act.put, List.setIfInBounds_toArray, List.set_cons_zero, List.set_cons_succ]
      refine wpAnyH_take (i := 1) (oi := ⟨some 27, _, _, _, _, _⟩) (v := ?_) rfl (by kernel_rfl) (by kernel_rfl) (by kernel_rfl) (fun _ _ _ h => h) (Or.inl ⟨by rfl, ?_⟩) (by assumption) ?_
      rotate_left 1
      · (intro w hSw; (try dsimp only at hSw); go_split_ands; go_simp; (try with_reducible rfl))
      try simp only [Act.put, List.setIfInBounds_toArray, List.set_cons_zero, List.set_cons_succ]
      refine wpAnyH_take (i := 3) (oi := ⟨some 29, _, _, _, _, _⟩) (v := .agg kv.toArray) rfl (by kernel_rfl) (by kernel_rfl) (by kernel_rfl) (fun _ _ _ h => h) (yieldsIf_load_mid (by rfl) _ _ rfl w.heap.size 0 rfl kv _ (fun w h => range_of_blk3 (BK2.ext h (by simp))) hu3 rfl hsz4) (by assumption) ?_
      try simp only [Act.put, List.setIfInBounds_toArray, List.set_cons_zero, List.set_cons_succ]
      refine wpAnyH_take (i := 4) (oi := ⟨some 30, _, _, _, _, _⟩) (v := .agg sv.toArray) rfl (by kernel_rfl) (by kernel_rfl) (by kernel_rfl) (fun _ _ _ h => h) (yieldsIf_load_mid (by rfl) _ _ rfl (w.heap.size + 1) 0 rfl sv _ (fun w h => range_of_blk3 (BM2.ext h (by simp))) hu3 rfl hsz3) (by assumption) ?_
      try simp only [Act.put, List.setIfInBounds_toArray, List.set_cons_zero, List.set_cons_succ]
      refine wpAnyH_take (i := 5) (oi := ⟨some 31, _, _, _, _, _⟩) (v := ?_) rfl (by kernel_rfl) (by kernel_rfl) (by kernel_rfl) (fun _ _ _ h => h) (Or.inl ⟨by rfl, ?_⟩) (by assumption) ?_
      rotate_left 1
      · (intro w hSw; (try dsimp only at hSw); go_split_ands; go_simp; (try with_reducible rfl))
      try simp only [Act.put, List.setIfInBounds_toArray, List.set_cons_zero, List.set_cons_succ]
      refine wpAnyH_ready (rs := [2]) (by kernel_rfl) (by simp) ?_
      refine AllReadyH.cons (o := ⟨some 28, _, _, _, _, _⟩) rfl (fun K hK => ?_) AllReadyH.nil
      go_simp
      refine (HMK.out _).mono ?_
      rintro e W2 ⟨rfl, x5⟩
      go_simp
      have hk := z4.trans x5
      refine hK.out _ _ hk (fun _ => ?_)
      clear hK K
      try simp only [Act.put, List.setIfInBounds_toArray, List.set_cons_zero, List.set_cons_succ]
      refine wpAnyH_ready (rs := [6]) (by kernel_rfl) (by simp) ?_
      refine AllReadyH.cons (o := ⟨some 32, _, _, _, _, _⟩) rfl (fun K hK => ?_) AllReadyH.nil
      go_simp
      refine (HF.out _ (z4.trans x5)).mono ?_
      rintro e W6 ⟨rfl, x6⟩
      go_simp
      have hk := (z4.trans x5).trans x6
      refine hK.out _ _ hk (fun _ => ?_)
      clear hK K
      try simp only [Act.put, List.setIfInBounds_toArray, List.set_cons_zero, List.set_cons_succ]
      refine wpAnyH_take (i := 7) (oi := ⟨some 33, _, _, _, _, _⟩) (v := ?_) rfl (by kernel_rfl) (by kernel_rfl) (by kernel_rfl) (fun _ _ _ h => h) (Or.inl ⟨by rfl, ?_⟩) (by assumption) ?_
      rotate_left 1
      · (intro w hSw; (try dsimp only at hSw); go_split_ands; go_simp; (try with_reducible rfl))
      try simp only [Act.put, List.setIfInBounds_toArray, List.set_cons_zero, List.set_cons_succ]
      refine wpAnyH_take (i := 8) (oi := ⟨some 34, _, _, _, _, _⟩) (v := ?_) rfl (by kernel_rfl) (by kernel_rfl) (by kernel_rfl) (fun _ _ _ h => h) (Or.inl ⟨by rfl, ?_⟩) (by assumption) ?_
      rotate_left 1
      · (intro w hSw; (try dsimp only at hSw); go_split_ands; go_simp; (try with_reducible rfl))
      try simp only [Act.put, List.setIfInBounds_toArray, List.set_cons_zero, List.set_cons_succ]
      refine wpAnyH_take (i := 9) (oi := ⟨some 35, _, _, _, _, _⟩) (v := ?_) rfl (by kernel_rfl) (by kernel_rfl) (by kernel_rfl) (fun _ _ _ h => h) (Or.inl ⟨by rfl, ?_⟩) (by assumption) ?_
      rotate_left 1
      · (intro w hSw; (try dsimp only at hSw); go_split_ands; go_simp; (try with_reducible rfl))
      try simp only [Act.put, List.setIfInBounds_toArray, List.set_cons_zero, List.set_cons_succ]
      refine wpAnyH_take (i := 10) (oi := ⟨some 36, _, _, _, _, _⟩) (v := ?_) rfl (by kernel_rfl) (by kernel_rfl) (by kernel_rfl) (fun _ _ _ h => h) (Or.inl ⟨by rfl, ?_⟩) (by assumption) ?_
      rotate_left 1
      · (intro w hSw; (try dsimp only at hSw); go_split_ands; go_simp; (try with_reducible rfl))
      try simp only [Act.put, List.setIfInBounds_toArray, List.set_cons_zero, List.set_cons_succ]
      refine wpAnyH_take (i := 11) (oi := ⟨some 37, _, _, _, _, _⟩) (v := ?_) rfl (by kernel_rfl) (by kernel_rfl) (by kernel_rfl) (fun _ _ _ h => h) (Or.inl ⟨by rfl, ?_⟩) (by assumption) ?_
      rotate_left 1
      · (intro w hSw; (try dsimp only at hSw); go_split_ands; go_simp; (try with_reducible rfl))
      try simp only [Act.put, List.setIfInBounds_toArray, List.set_cons_zero, List.set_cons_succ]
      refine wpAnyH_take (i := 12) (oi := ⟨some 38, _, _, _, _, _⟩) (v := ?_) rfl (by kernel_rfl) (by kernel_rfl) (by kernel_rfl) (fun _ _ _ h => h) (Or.inl ⟨by rfl, ?_⟩) (by assumption) ?_
      rotate_left 1
      · (intro w hSw; (try dsimp only at hSw); go_split_ands; go_simp; (try with_reducible rfl))
      try simp only [Act.put, List.setIfInBounds_toArray, List.set_cons_zero, List.set_cons_succ]
      refine wpAnyH_take (i := 13) (oi := ⟨some 39, _, _, _, _, _⟩) (v := ?_) rfl (by kernel_rfl) (by kernel_rfl) (by kernel_rfl) (fun _ _ _ h => h) (Or.inl ⟨by rfl, ?_⟩) (by assumption) ?_
      rotate_left 1
      · (intro w hSw; (try dsimp only at hSw); go_split_ands; go_simp; (try with_reducible rfl))
      try simp only [Act.put, List.setIfInBounds_toArray, List.set_cons_zero, List.set_cons_succ]
      refine wpAnyH_take (i := 14) (oi := ⟨some 40, _, _, _, _, _⟩) (v := ?_) rfl (by kernel_rfl) (by kernel_rfl) (by kernel_rfl) (fun _ _ _ h => h) (Or.inl ⟨by rfl, ?_⟩) (by assumption) ?_
      rotate_left 1
      · (intro w hSw; (try dsimp only at hSw); go_split_ands; go_simp; (try with_reducible rfl))
      try simp only [Act.put, List.setIfInBounds_toArray, List.set_cons_zero, List.set_cons_succ]
      refine wpAnyH_take (i := 15) (oi := ⟨some 41, _, _, _, _, _⟩) (v := ?_) rfl (by kernel_rfl) (by kernel_rfl) (by kernel_rfl) (fun _ _ _ h => h) (Or.inl ⟨by rfl, ?_⟩) (by assumption) ?_
      rotate_left 1
      · (intro w hSw; (try dsimp only at hSw); go_split_ands; go_simp; (try with_reducible rfl))
      try simp only [Act.put, List.setIfInBounds_toArray, List.set_cons_zero, List.set_cons_succ]
      refine wpAnyH_take (i := 16) (oi := ⟨some 6, _, _, _, _, _⟩) (v := ?_) rfl (by kernel_rfl) (by kernel_rfl) (by kernel_rfl) (fun _ _ _ h => h) (Or.inl ⟨by rfl, ?_⟩) (by assumption) ?_
      rotate_left 1
      · (intro w hSw; (try dsimp only at hSw); go_split_ands; go_simp; (try with_reducible rfl))
      try simp only [Act.put, List.setIfInBounds_toArray, List.set_cons_zero, List.set_cons_succ]
      refine wpAnyH_done (by kernel_rfl) ?_ _
      go_wp2_with fail
      go_ret
      exact ⟨rfl, y2.trans ((z4.trans x5).trans x6)⟩
  · have h1 : ((q.length : Int) != 2048) = true := by rw [bne_iff_ne]; omega
    have h2 : ((q.length : Int) == 2048) = false := by rw [beq_eq_false_iff_ne]; omega
    have HV := Lib.hid (HNO.out (some ⟨g2, 0, none⟩) q.length cp2 w2 hq8)
    clear hq8 hown2 HIF hq300
    go_wp2_with (first
      | (with_reducible refine wpList_ldpart rfl 23 (.tmp 3) rfl w.heap.size 0 rfl kv _ BK2.part hu3 rfl hsz4 ?_)
      | (with_reducible refine wpList_ldpart rfl 23 (.tmp 4) rfl (w.heap.size + 1) 0 rfl sv _ BM2.part hu3 rfl hsz3 ?_))
    refine HV.out.mono ?_
    rintro e w3 ⟨rfl, x3⟩
    go_wp2_with fail
    refine (lsigns_any w3 (HG.out _ (y2.trans x3))).mono ?_
    rintro e w4 ⟨rfl, x4⟩
    go_wp2_with fail
    go_ret
    exact ⟨rfl, y2.trans (x3.trans x4)⟩
end Go.Proofs.YtlgihbbcieceoaaDoor
