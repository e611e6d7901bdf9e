/- The law DigestSums: the walk. -/
import Derived.Test.YtgpegjadjidjmaaDoorDPads
import Derived.Test.YtgpegjadjidjmaaDoorDArgs
import Derived.Test.YtgpegjadjidjmaaDoorDParts
import Derived.Deep.RegionHeld3
namespace Go.Proofs.YtgpegjadjidjmaaDoor
open Go.RowKit

theorem range_of_blk {w : World} {b : Nat} {T : TypeId} {cs : List Value} (h : Blk w b T cs) : w.rangeAt b 0 cs := fun j v hv => by
  rw [Nat.zero_add, h.cell]; exact hv

set_option maxHeartbeats 4000000 in
set_option maxRecDepth 100000 in
theorem sums_walk (v : Value) (b0 : List UInt8) (w : World) (G : DigG w) (hb : BytesArg w v b0) :
    Calls Tryd.prog 3 #[v] w fun e w' => e = .returned (.bool true) ∧ Ext [] w w' := by
  obtain ⟨i0, hi, hz0, hz1, hz2⟩ := info_parts info_byte
  have HG := Lib.hid (fun w' (x' : Ext [] w w') => G.ext x' (by simp) (by simp))
  clear G
  have HC := Lib.hid (fun w' (x : Ext [] w w') => (hb.ext x).cut 300)
  obtain ⟨ao, c, rfl, hlc, hmax, -⟩ := hb
  unfold maxLen at hmax
  have hif : (if 300 < (b0.length : Int) then 300 else (b0.length : Int)) = ((min b0.length 300 : Nat) : Int) := by split <;> omega
  obtain ⟨q, hq⟩ : ∃ q, q = b0.take 300 := ⟨_, rfl⟩
  have hql : min b0.length 300 = q.length := by rw [hq, List.length_take, Nat.min_comm]
  rw [← hq] at HC
  rw [show cutOf 300 (.slice ao b0.length c) = .slice ao q.length c by rw [← hql]; rfl] at HC
  have hq300 : q.length ≤ 300 := by omega
  rw [hql] at hif
  have HIF := Lib.hid hif
  clear hif hq hql
  go_enter Tryd.func3, Tryd.ntmps3
  go_upto_region 1 with (fail)
  go_upto_region 2 with (at_builtin; first
    | (refine wpList_app _ rfl (.tmp 5) (.tmp 10) 22 rfl 5 i0 (.int .u8 0) 1 1 Tryd.underlying22 hi hz0 hz1 hz2 rfl (by decide) (.slice (some ⟨w.heap.size, 0, none⟩) 0 0) 0 [] rfl ((Blk.new w 5 #[]).owns rfl (Nat.zero_le _)) (.slice ao q.length c) q.length (bytesV q) (by rw [HIF.out]; rfl) (HC.out _ ((Ext.refl _ _).alloc _)) (bytesV_one q) (by unfold maxLen; omega) (by omega) ?_; intro v2 w2 hown2 hgrow2 hfr2 hnn; rw [HIF.out]))
  have x2 : Ext [] w w2 := ((Ext.refl [] w).alloc _).grown hgrow2 (by intro k hk; simp [Value.ownBlock] at hk; exact .inr (by omega))
  obtain ⟨g2, cp2, rfl⟩ : ∃ g cp, v2 = .slice (some ⟨g, 0, none⟩) q.length cp := by
    rcases hown2.2 with ⟨h, _⟩ | ⟨g, cap, cur, h, _⟩
    · exact absurd (hnn.1 h).1 (by simp)
    · exact ⟨g, cap, by simpa using h⟩
  simp only [Nat.zero_add, List.nil_append] at hown2
  clear hgrow2 hfr2 hnn HC
  have HR := Lib.hid (fun w' (x : Ext [] w2 w') => owns_reads (owns_ext hown2 x (by simp)))
  have HCV := Lib.hid (fun w' (x : Ext [] w2 w') => (show (convert 22 9 (.slice (some ⟨g2, 0, none⟩) q.length cp2)).run Tryd.prog w' = .ok (.string ⟨q.toArray⟩) w' from by
    refine run_convert_bytes_back w' _ _ 5 ⟨g2, 0, none⟩ cp2 q Tryd.underlying22 Tryd.underlying5 Tryd.underlying9 ?_
    intro j hj
    rw [Addr.add_lit, Nat.zero_add, (owns_ext hown2 x (by simp)).cellAt j (by omega)]
    unfold bytesV
    simp [hj]))
  clear hown2
  have hcv := HCV.out _ (Ext.refl [] w2)
  have hq2 : q.length ≤ 1048576 := by omega
  go_wp2_with fail
  refine (sum_any _ q w2 (HG.out _ x2) (HR.out _ (Ext.refl _ _)) hq2).mono ?_
  rintro e w3 ⟨rfl, x3⟩
  have hOl : (bytesV (sumOf q)).length = 32 := by rw [bytesV_length, sumOf_length]
  have hob : ∀ u ∈ bytesV (sumOf q), u.oneCell' = true := bytesV_one _
  have HSL := Lib.hid (sumOf_length q)
  have HEX := Lib.hid (fun w' => hex_any (sumOf q) w' (sumOf_length q))
  have HRS := Lib.hid (fun w' (x : Ext [] w2 w') => rsum (.slice (some ⟨g2, 0, none⟩) q.length cp2) q w' (HR.out _ x) hq2)
  have HRX := Lib.hid (fun w' v (hr : Reads w' v 1 32 (bytesV (sumOf q))) => rhex_any v (sumOf q) w' (by rw [sumOf_length]; exact hr) (sumOf_length q))
  have heq := eq_sums q q
  simp only [decide_true] at heq
  clear HR hcv
  generalize bytesV (sumOf q) = ov at *
  generalize (hexOf (sumOf q)).toArray = hx at *
  go_wp2_with fail
  refine upon_strow w3.heap.size 0 23 _ ov (Blk.new w3 23 (bytesV (List.replicate 32 0)).toArray) (by rw [hOl]; simp [bytesV]) hob ?_
  intro w4 H4 x4 _
  have e9 : (bytesV (List.replicate 32 0)).take 0 ++ ov ++ (bytesV (List.replicate 32 0)).drop (0 + ov.length) = ov := by
    rw [hOl, List.take_zero, List.nil_append, List.drop_of_length_le (by simp [bytesV]), List.append_nil]
  have H4 : Blk w4 w3.heap.size 23 ov := e9 ▸ H4
  have x34 : Ext [] w3 w4 := ((Ext.refl [] w3).alloc _).trans' x4 (by simp)
  have x24 := x3.trans x34
  clear x4 x3 x34 e9
  generalize w3.heap.size = bs at *
  have HS := Lib.hid (fun w' (x : Ext [] w4 w') => (show w'.rangeAt bs 0 ov ∧ Ext [] w4 w' from ⟨range_of_blk (H4.ext x (by simp)), x⟩))
  have c1 := fun w' (h : w'.rangeAt bs 0 ov ∧ Ext [] w4 w') => (sums_any w' (HG.out _ (x2.trans (x24.trans h.2)))).mono (fun e w'' ⟨he, hx'⟩ => (show e = Ending.returned (.bool true) ∧ (w''.rangeAt bs 0 ov ∧ Ext [] w4 w'') from ⟨he, HS.out _ (h.2.trans hx')⟩))
  have c2 := fun w' (h : w'.rangeAt bs 0 ov ∧ Ext [] w4 w') => (HRS.out w' (x24.trans h.2)).mono (fun e w'' ⟨he, hx'⟩ => (show e = Ending.returned (.agg ov.toArray) ∧ (w''.rangeAt bs 0 ov ∧ Ext [] w4 w'') from ⟨he, HS.out _ (h.2.trans hx')⟩))
  have c3 := fun w' (h : w'.rangeAt bs 0 ov ∧ Ext [] w4 w') => (HEX.out w').mono (fun e w'' ⟨he, hx'⟩ => (show e = Ending.returned (.string ⟨hx⟩) ∧ (w''.rangeAt bs 0 ov ∧ Ext [] w4 w'') from ⟨he, HS.out _ (h.2.trans hx')⟩))
  have c4 := fun w' (h : w'.rangeAt bs 0 ov ∧ Ext [] w4 w') => (HRX.out w' (.slice (some ⟨bs, 0, none⟩) 32 32) (blk_reads (H4.ext h.2 (by simp)) 32 (by rw [hOl]))).mono (fun e w'' ⟨he, hx'⟩ => (show e = Ending.returned (.string ⟨hx⟩) ∧ (w''.rangeAt bs 0 ov ∧ Ext [] w4 w'') from ⟨he, HS.out _ (h.2.trans hx')⟩))
  have HCV4 := Lib.hid (fun w' (h : Ext [] w4 w') => HCV.out w' (x24.trans h))
  have C1 := Lib.hid c1
  have C2 := Lib.hid c2
  have C3 := Lib.hid c3
  have C4 := Lib.hid c4
  have hu := Tryd.underlying23
  have hsz : (Tryd.prog.info? 23).map (·.size) = some ov.length := by rw [hOl]; kernel_rfl
  have HSTART := Lib.hid (HS.out _ ((Ext.refl [] w4).drew))
  clear c1 c2 c3 c4 HEX HRS HRX HG
  go_wp2_with fail
  refine wp_region_held_drew (S := fun w' => w'.rangeAt bs 0 ov ∧ Ext [] w4 w') (by kernel_rfl) HSTART.out (fun _ => ?_)
  refine wpAnyH_ready (rs := [0]) (by kernel_rfl) (by simp) ?_
  refine AllReadyH.cons (o := ⟨some 16, _, _, _, _, _⟩) rfl (fun K hK => ?_) AllReadyH.nil
  go_simp
  refine (C1.out _ (by assumption)).mono ?_
  rintro e w' ⟨rfl, hk⟩
  have hcv := HCV4.out _ hk.2
  go_simp
  refine hK.out _ _ (by assumption) (fun _ => ?_)
  clear hK K
  try simp only [Act.put, List.setIfInBounds_toArray, List.set_cons_zero, List.set_cons_succ]
  refine wpAnyH_take (i := 1) (oi := ⟨some 17, _, _, _, _, _⟩) (v := ?_) rfl (by kernel_rfl) (by kernel_rfl) (by kernel_rfl) (fun _ _ _ h => h) (Or.inl ⟨by rfl, ?_⟩) (by assumption) ?_
  rotate_left 1
  · (intro w hSw; (try dsimp only at hSw); go_split_ands; have hcv2 := HCV4.out w (by assumption); go_simp; (try with_reducible rfl))
  try simp only [Act.put, List.setIfInBounds_toArray, List.set_cons_zero, List.set_cons_succ]
  refine wpAnyH_take (i := 2) (oi := ⟨some 18, _, _, _, _, _⟩) (v := .agg ov.toArray) rfl (by kernel_rfl) (by kernel_rfl) (by kernel_rfl) (fun _ _ _ h => h) (yieldsIf_load_mid (by rfl) _ _ rfl bs 0 rfl ov _ (fun w h => h.1) hu rfl hsz) (by assumption) ?_
  try simp only [Act.put, List.setIfInBounds_toArray, List.set_cons_zero, List.set_cons_succ]
  refine wpAnyH_take (i := 3) (oi := ⟨some 19, _, _, _, _, _⟩) (v := ?_) rfl (by kernel_rfl) (by kernel_rfl) (by kernel_rfl) (fun _ _ _ h => h) (Or.inl ⟨by rfl, ?_⟩) (by assumption) ?_
  rotate_left 1
  · (intro w hSw; (try dsimp only at hSw); go_split_ands; have hcv2 := HCV4.out w (by assumption); go_simp; (try with_reducible rfl))
  try simp only [Act.put, List.setIfInBounds_toArray, List.set_cons_zero, List.set_cons_succ]
  refine wpAnyH_ready (rs := [4]) (by kernel_rfl) (by simp) ?_
  refine AllReadyH.cons (o := ⟨some 20, _, _, _, _, _⟩) rfl (fun K hK => ?_) AllReadyH.nil
  go_simp
  refine (C2.out _ (by assumption)).mono ?_
  rintro e w' ⟨rfl, hk⟩
  have hcv := HCV4.out _ hk.2
  go_simp
  refine hK.out _ _ (by assumption) (fun _ => ?_)
  clear hK K
  try simp only [Act.put, List.setIfInBounds_toArray, List.set_cons_zero, List.set_cons_succ]
  refine wpAnyH_take (i := 5) (oi := ⟨some 21, _, _, _, _, _⟩) (v := ?_) rfl (by kernel_rfl) (by kernel_rfl) (by kernel_rfl) (fun _ _ _ h => h) (Or.inl ⟨by rfl, ?_⟩) (by assumption) ?_
  rotate_left 1
  · (intro w hSw; (try dsimp only at hSw); go_split_ands; have hcv2 := HCV4.out w (by assumption); go_simp; (try with_reducible rfl))
  try simp only [Act.put, List.setIfInBounds_toArray, List.set_cons_zero, List.set_cons_succ]
  refine wpAnyH_take (i := 6) (oi := ⟨some 22, _, _, _, _, _⟩) (v := ?_) rfl (by kernel_rfl) (by kernel_rfl) (by kernel_rfl) (fun _ _ _ h => h) (Or.inl ⟨by rfl, ?_⟩) (by assumption) ?_
  rotate_left 1
  · (intro w hSw; (try dsimp only at hSw); go_split_ands; have hcv2 := HCV4.out w (by assumption); go_simp; (try with_reducible rfl))
  try simp only [Act.put, List.setIfInBounds_toArray, List.set_cons_zero, List.set_cons_succ]
  refine wpAnyH_take (i := 7) (oi := ⟨some 23, _, _, _, _, _⟩) (v := ?_) rfl (by kernel_rfl) (by kernel_rfl) (by kernel_rfl) (fun _ _ _ h => h) (Or.inl ⟨by rfl, ?_⟩) (by assumption) ?_
  rotate_left 1
  · (intro w hSw; (try dsimp only at hSw); go_split_ands; have hcv2 := HCV4.out w (by assumption); go_simp; (try with_reducible rfl))
  try simp only [Act.put, List.setIfInBounds_toArray, List.set_cons_zero, List.set_cons_succ]
  refine wpAnyH_take (i := 8) (oi := ⟨some 24, _, _, _, _, _⟩) (v := .agg ov.toArray) rfl (by kernel_rfl) (by kernel_rfl) (by kernel_rfl) (fun _ _ _ h => h) (yieldsIf_load_mid (by rfl) _ _ rfl bs 0 rfl ov _ (fun w h => h.1) hu rfl hsz) (by assumption) ?_
  try simp only [Act.put, List.setIfInBounds_toArray, List.set_cons_zero, List.set_cons_succ]
  refine wpAnyH_take (i := 10) (oi := ⟨some 26, _, _, _, _, _⟩) (v := ?_) rfl (by kernel_rfl) (by kernel_rfl) (by kernel_rfl) (fun _ _ _ h => h) (Or.inl ⟨by rfl, ?_⟩) (by assumption) ?_
  rotate_left 1
  · (intro w hSw; (try dsimp only at hSw); go_split_ands; have hcv2 := HCV4.out w (by assumption); go_simp; (try with_reducible rfl))
  try simp only [Act.put, List.setIfInBounds_toArray, List.set_cons_zero, List.set_cons_succ]
  refine wpAnyH_ready (rs := [9]) (by kernel_rfl) (by simp) ?_
  refine AllReadyH.cons (o := ⟨some 25, _, _, _, _, _⟩) rfl (fun K hK => ?_) AllReadyH.nil
  go_simp
  refine (C3.out _ (by assumption)).mono ?_
  rintro e w' ⟨rfl, hk⟩
  have hcv := HCV4.out _ hk.2
  go_simp
  refine hK.out _ _ (by assumption) (fun _ => ?_)
  clear hK K
  try simp only [Act.put, List.setIfInBounds_toArray, List.set_cons_zero, List.set_cons_succ]
  refine wpAnyH_ready (rs := [11]) (by kernel_rfl) (by simp) ?_
  refine AllReadyH.cons (o := ⟨some 27, _, _, _, _, _⟩) rfl (fun K hK => ?_) AllReadyH.nil
  go_simp
  refine (C4.out _ (by assumption)).mono ?_
  rintro e w' ⟨rfl, hk⟩
  have hcv := HCV4.out _ hk.2
  go_simp
  refine hK.out _ _ (by assumption) (fun _ => ?_)
  clear hK K
  try simp only [Act.put, List.setIfInBounds_toArray, List.set_cons_zero, List.set_cons_succ]
  refine wpAnyH_take (i := 12) (oi := ⟨some 28, _, _, _, _, _⟩) (v := ?_) rfl (by kernel_rfl) (by kernel_rfl) (by kernel_rfl) (fun _ _ _ h => h) (Or.inl ⟨by rfl, ?_⟩) (by assumption) ?_
  rotate_left 1
  · (intro w hSw; (try dsimp only at hSw); go_split_ands; have hcv2 := HCV4.out w (by assumption); go_simp; (try with_reducible rfl))
  try simp only [Act.put, List.setIfInBounds_toArray, List.set_cons_zero, List.set_cons_succ]
  refine wpAnyH_take (i := 13) (oi := ⟨some 29, _, _, _, _, _⟩) (v := ?_) rfl (by kernel_rfl) (by kernel_rfl) (by kernel_rfl) (fun _ _ _ h => h) (Or.inl ⟨by rfl, ?_⟩) (by assumption) ?_
  rotate_left 1
  · (intro w hSw; (try dsimp only at hSw); go_split_ands; have hcv2 := HCV4.out w (by assumption); go_simp; (try with_reducible rfl))
  try simp only [Act.put, List.setIfInBounds_toArray, List.set_cons_zero, List.set_cons_succ]
  refine wpAnyH_take (i := 14) (oi := ⟨some 30, _, _, _, _, _⟩) (v := ?_) rfl (by kernel_rfl) (by kernel_rfl) (by kernel_rfl) (fun _ _ _ h => h) (Or.inl ⟨by rfl, ?_⟩) (by assumption) ?_
  rotate_left 1
  · (intro w hSw; (try dsimp only at hSw); go_split_ands; have hcv2 := HCV4.out w (by assumption); go_simp; (try with_reducible rfl))
  try simp only [Act.put, List.setIfInBounds_toArray, List.set_cons_zero, List.set_cons_succ]
  refine wpAnyH_take (i := 15) (oi := ⟨some 31, _, _, _, _, _⟩) (v := ?_) rfl (by kernel_rfl) (by kernel_rfl) (by kernel_rfl) (fun _ _ _ h => h) (Or.inl ⟨by rfl, ?_⟩) (by assumption) ?_
  rotate_left 1
  · (intro w hSw; (try dsimp only at hSw); go_split_ands; have hcv2 := HCV4.out w (by assumption); go_simp; (try with_reducible rfl))
  try simp only [Act.put, List.setIfInBounds_toArray, List.set_cons_zero, List.set_cons_succ]
  refine wpAnyH_take (i := 16) (oi := ⟨some 32, _, _, _, _, _⟩) (v := ?_) rfl (by kernel_rfl) (by kernel_rfl) (by kernel_rfl) (fun _ _ _ h => h) (Or.inl ⟨by rfl, ?_⟩) (by assumption) ?_
  rotate_left 1
  · (intro w hSw; (try dsimp only at hSw); go_split_ands; have hcv2 := HCV4.out w (by assumption); go_simp; (try with_reducible rfl))
  try simp only [Act.put, List.setIfInBounds_toArray, List.set_cons_zero, List.set_cons_succ]
  refine wpAnyH_take (i := 17) (oi := ⟨some 33, _, _, _, _, _⟩) (v := ?_) rfl (by kernel_rfl) (by kernel_rfl) (by kernel_rfl) (fun _ _ _ h => h) (Or.inl ⟨by rfl, ?_⟩) (by assumption) ?_
  rotate_left 1
  · (intro w hSw; (try dsimp only at hSw); go_split_ands; have hcv2 := HCV4.out w (by assumption); go_simp; (try with_reducible rfl))
  try simp only [Act.put, List.setIfInBounds_toArray, List.set_cons_zero, List.set_cons_succ]
  refine wpAnyH_take (i := 18) (oi := ⟨some 34, _, _, _, _, _⟩) (v := ?_) rfl (by kernel_rfl) (by kernel_rfl) (by kernel_rfl) (fun _ _ _ h => h) (Or.inl ⟨by rfl, ?_⟩) (by assumption) ?_
  rotate_left 1
  · (intro w hSw; (try dsimp only at hSw); go_split_ands; have hcv2 := HCV4.out w (by assumption); go_simp; (try with_reducible rfl))
  try simp only [Act.put, List.setIfInBounds_toArray, List.set_cons_zero, List.set_cons_succ]
  refine wpAnyH_take (i := 19) (oi := ⟨some 35, _, _, _, _, _⟩) (v := ?_) rfl (by kernel_rfl) (by kernel_rfl) (by kernel_rfl) (fun _ _ _ h => h) (Or.inl ⟨by rfl, ?_⟩) (by assumption) ?_
  rotate_left 1
  · (intro w hSw; (try dsimp only at hSw); go_split_ands; have hcv2 := HCV4.out w (by assumption); go_simp; (try with_reducible rfl))
  try simp only [Act.put, List.setIfInBounds_toArray, List.set_cons_zero, List.set_cons_succ]
  refine wpAnyH_take (i := 20) (oi := ⟨some 2, _, _, _, _, _⟩) (v := ?_) rfl (by kernel_rfl) (by kernel_rfl) (by kernel_rfl) (fun _ _ _ h => h) (Or.inl ⟨by rfl, ?_⟩) (by assumption) ?_
  rotate_left 1
  · (intro w hSw; (try dsimp only at hSw); go_split_ands; have hcv2 := HCV4.out w (by assumption); go_simp; (try with_reducible rfl))
  try simp only [Act.put, List.setIfInBounds_toArray, List.set_cons_zero, List.set_cons_succ]
  refine wpAnyH_done (by kernel_rfl) ?_ _
  go_wp2_with fail
  go_ret
  exact ⟨rfl, x2.trans (x24.trans hk.2)⟩
end Go.Proofs.YtgpegjadjidjmaaDoor
