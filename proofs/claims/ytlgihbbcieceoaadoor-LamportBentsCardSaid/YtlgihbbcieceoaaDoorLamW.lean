/- The law LamportSigns: the walk. -/
import Derived.Test.YtlgihbbcieceoaaDoorLamG
import Derived.Test.YtlgihbbcieceoaaDoorLamT
import Derived.Test.YtlgihbbcieceoaaDoorLamU
namespace Go.Proofs.YtlgihbbcieceoaaDoor
open Go.RowKit
set_option maxRecDepth 100000

theorem blk_new_at2 {a W : World} (_ : Ext [] a W) (T : TypeId) (cs : Array Value) : Blk (W.alloc (.cells cs T)) W.heap.size T cs.toList := Blk.new W T cs
theorem alloc_of {a W : World} (_ : Ext [] a W) (o : Obj) : Ext [] W (W.alloc o) := (Ext.refl _ _).alloc _
set_option maxHeartbeats 8000000 in
theorem lsignlaw_walk (v : Value) (b0 sum : List UInt8) (w : World) (G : DigG w) (hb : BytesArg w v b0) (hsl : sum.length = 32) :
    Calls Tryd.prog 3 #[v, .agg (bytesV sum).toArray] w fun e w' => e = .returned (.bool true) ∧ Ext [] w w' := by
  obtain ⟨i0, hi, hz0, hz1, hz2⟩ := info_parts info_byte
  have HG := Lib.hid (fun w' (x' : Ext [] w w') => G.ext x' (by simp) (by simp))
  clear G
  have HC := Lib.hid (fun w' (x : Ext [] w w') => (hb.ext x).cut 40)
  obtain ⟨ao, c, rfl, hlc, hmax, -⟩ := hb
  unfold maxLen at hmax
  have hif : (if 40 < (b0.length : Int) then 40 else (b0.length : Int)) = ((min b0.length 40 : Nat) : Int) := by split <;> omega
  obtain ⟨q, hq⟩ : ∃ q, q = b0.take 40 := ⟨_, rfl⟩
  have hql : min b0.length 40 = q.length := by rw [hq, List.length_take, Nat.min_comm]
  rw [← hq] at HC
  rw [show cutOf 40 (.slice ao b0.length c) = .slice ao q.length c by rw [← hql]; rfl] at HC
  have hq300 : q.length ≤ 40 := by omega
  rw [hql] at hif
  have HIF := Lib.hid hif
  clear hif hq hql
  have hsv : (bytesV sum).length = 32 := by rw [bytesV_length, hsl]
  have HKEY := Lib.hid (fun v w' (x' : Ext [] w w') hr => lkey_any v q w' (HG.out w' x') hr (by omega))
  have HSIGN := Lib.hid (fun v w' (x' : Ext [] w w') hr => lsign_any v q sum w' (HG.out w' x') hr (by omega) hsl)
  have HRK := Lib.hid (fun v w' hr => r2key v q w' hr (by omega))
  have HRS := Lib.hid (fun v w' hr => r2sign v q sum w' hr (by omega) hsl)
  have HVER := Lib.hid (fun v w' (x' : Ext [] w w') (h : w'.ownsRow 0 5 1 v 2048 (bytesV (signL q sum 32))) => (show Calls Tryd.prog 14 #[.agg (bytesV (keyB q)).toArray, .agg (bytesV sum).toArray, v] w' fun e w'' => e = .returned (.int .i64 0) ∧ Ext [] w' w'' from by
    have h1 := verify_own (keyB q) sum (signL q sum 32) v w' (HG.out w' x') (keyB_length _) hsl (signL_length q sum 32) h
    rw [ver_sign q sum sum (fun i hi => rfl) (keyB q), if_pos rfl] at h1
    exact h1))
  have HEQ := Lib.hid (show ∀ w, (Op.equalIn 10000 23 (.agg (bytesV (keyB q)).toArray) (.agg (bytesV (keyB q)).toArray)).run Tryd.prog w = .ok true w from by
    have h := eq_b32 (keyB q) (keyB q) (keyB_length _) (keyB_length _)
    rw [decide_eq_true rfl] at h
    exact h)
  have HMK := Lib.hid make_ref
  have hsgl : (signL q sum 32).length = 2048 := signL_length q sum 32
  have hol : (bytesV (keyB q)).length = 32 := by rw [bytesV_length, keyB_length]
  have hob := bytesV_one (keyB q)
  have hu3 := Tryd.underlying23
  have hsz3 : (Tryd.prog.info? 23).map (·.size) = some (bytesV sum).length := by rw [hsv]; kernel_rfl
  have hszk : (Tryd.prog.info? 23).map (·.size) = some (bytesV (keyB q)).length := by rw [hol]; kernel_rfl
  have hRl : (V32 (Ks ++ begin0.list)).length = 72 := rfl
  have hRo : ∀ u ∈ V32 (Ks ++ begin0.list), u.oneCell' = true := by intro u hu; obtain ⟨x, _, rfl⟩ := List.mem_map.1 hu; rfl
  generalize V32 (Ks ++ begin0.list) = rt at *
  have hu := Tryd.underlying28
  have hsz : (Tryd.prog.info? 28).map (·.size) = some rt.length := by rw [hRl]; kernel_rfl
  generalize signL q sum 32 = SG at *
  generalize bytesV (keyB q) = kv at *
  generalize bytesV sum = sv at *
  clear hsl
  obtain ⟨kv2, hkv2⟩ : ∃ kv2, kv2 = kv := ⟨_, rfl⟩
  have HEQ2 := Lib.hid (show ∀ w, (Op.equalIn 10000 23 (.agg kv.toArray) (.agg kv2.toArray)).run Tryd.prog w = .ok true w from by rw [hkv2]; exact HEQ.out)
  rw [← hkv2] at HRK
  clear HEQ hkv2
  go_enter Tryd.func3, Tryd.ntmps3
  go_upto_region 1 with (fail)
  show Code.wp _ _ _ _ (w.alloc (.cells sv.toArray 23))
  have BM : Blk (w.alloc (.cells sv.toArray 23)) w.heap.size 23 sv := Blk.new w _ sv.toArray
  have x1 : Ext [] w (w.alloc (.cells sv.toArray 23)) := (Ext.refl _ _).alloc _
  generalize w.alloc (.cells sv.toArray 23) = w1 at *
  go_upto_region 2 with (at_builtin; first
    | (refine wpList_app _ rfl (.tmp 9) (.tmp 14) 22 rfl 5 i0 (.int .u8 0) 1 1 Tryd.underlying22 hi hz0 hz1 hz2 rfl (by decide) (.slice (some ⟨w1.heap.size, 0, none⟩) 0 0) 0 [] rfl ((Blk.new w1 5 #[]).owns rfl (Nat.zero_le _)) (.slice ao q.length c) q.length (bytesV q) (by rw [HIF.out]; rfl) (HC.out _ (x1.alloc _)) (bytesV_one q) (by unfold maxLen; omega) (by omega) ?_; intro v2 w2 hown2 hgrow2 hfr2 hnn))
  have x2 : Ext [] w1 w2 := ((Ext.refl [] w1).alloc _).grown hgrow2 (by intro k hk; simp [Value.ownBlock] at hk; exact .inr (by omega))
  obtain ⟨g2, cp2, rfl⟩ : ∃ g cp, v2 = .slice (some ⟨g, 0, none⟩) q.length cp := by
    rcases hown2.2 with ⟨h, _⟩ | ⟨g, cap, cur, h, _⟩
    · exact absurd (hnn.1 h).1 (by simp)
    · exact ⟨g, cap, by simpa using h⟩
  rw [HIF.out]
  simp only [Nat.zero_add, List.nil_append, Int.toNat_natCast] at hown2 ⊢
  clear hgrow2 hfr2 hnn HC HIF
  have BM2 := BM.ext x2 (by simp)
  have y2 := x1.trans x2
  have HRD := Lib.hid (fun w' (x : Ext [] w2 w') => owns_reads (owns_ext hown2 x (by simp)))
  have HCQ := Lib.hid (fun w' (x : Ext [] w2 w') => conv_own rfl (owns_ext hown2 x (by simp)))
  clear BM x1 x2 hown2
  have hcq := HCQ.out _ (Ext.refl _ _)
  go_wp2_with fail
  clear hcq
  refine (HMK.out w2).mono ?_
  rintro e w3 ⟨rfl, x3⟩
  have hzr := zero_roots
  have hzl : (V32 (List.replicate 72 0#32)).length = 72 := rfl
  generalize V32 (List.replicate 72 0#32) = zz at *
  go_wp2_with fail
  clear hzr
  refine upon_strow w3.heap.size 0 28 _ rt (Blk.new w3 28 zz.toArray) (by show 0 + rt.length ≤ zz.length; omega) hRo ?_
  intro w4 H4 x4 hs4
  clear hs4
  have e9 : zz.take 0 ++ rt ++ zz.drop (0 + rt.length) = rt := by
    rw [hRl, List.take_zero, List.nil_append, List.drop_of_length_le (by omega), List.append_nil]
  have BR4 : Blk w4 w3.heap.size 28 rt := e9 ▸ H4
  have x34 : Ext [] w3 w4 := ((Ext.refl [] w3).alloc _).trans' x4 (by simp)
  clear e9 x4 H4 hzl
  have x24 := x3.trans x34
  have y4 := y2.trans x24
  have BM4 := BM2.ext x24 (by simp)
  have HRD4 := Lib.hid (fun w' (x : Ext [] w4 w') => HRD.out w' (x24.trans x))
  have HCQ4 := Lib.hid (fun w' (x : Ext [] w4 w') => HCQ.out w' (x24.trans x))
  generalize w3.heap.size = br at *
  clear x3 x34 x24 HRD HCQ BM2 y2
  try simp only [Act.put]
  go_upto_region 4 with (fail)
  try dsimp only
  go_cut [7, 8] (fun s7 s8 wc => ∃ bk g c, s7 = .pointer (some ⟨bk, 0, none⟩) ∧ s8 = .slice (some ⟨g, 0, none⟩) 2048 c ∧ Blk wc bk 23 kv ∧ wc.ownsRow 0 5 1 (.slice (some ⟨g, 0, none⟩) 2048 c) 2048 (bytesV SG) ∧ Ext [] w4 wc)
  case first =>
    rename_i J K' hJ hK'
    have e9 : (bytesV (List.replicate 32 0)).take 0 ++ kv ++ (bytesV (List.replicate 32 0)).drop (0 + kv.length) = kv := by
      rw [hol, List.take_zero, List.nil_append, List.drop_of_length_le (by simp [bytesV]), List.append_nil]
    have z4 : Ext [] w4 w4.drew := (Ext.refl _ _).drew
    refine wp_region_held_drew (S := fun w' => Ext [] w4 w') (by kernel_rfl) z4 (fun hS => ?_)
    refine wpAnyH_take (i := 0) (oi := ⟨some 19, _, _, _, _, _⟩) (v := ?_) rfl (by kernel_rfl) (by kernel_rfl) (by kernel_rfl) (fun _ _ _ h => h) (Or.inl ⟨by rfl, ?_⟩) (by assumption) ?_
    rotate_left 1
    · (intro w hSw; (try dsimp only at hSw); go_split_ands; go_simp; (try with_reducible rfl))
    try simp only [Act.put, List.setIfInBounds_toArray, List.set_cons_zero, List.set_cons_succ]
    refine wpAnyH_take (i := 2) (oi := ⟨some 21, _, _, _, _, _⟩) (v := ?_) rfl (by kernel_rfl) (by kernel_rfl) (by kernel_rfl) (fun _ _ _ h => h) (Or.inl ⟨by rfl, ?_⟩) (by assumption) ?_
    rotate_left 1
    · (intro w hSw; (try dsimp only at hSw); go_split_ands; go_simp; (try with_reducible rfl))
    try simp only [Act.put, List.setIfInBounds_toArray, List.set_cons_zero, List.set_cons_succ]
    refine wpAnyH_take (i := 3) (oi := ⟨some 22, _, _, _, _, _⟩) (v := .agg sv.toArray) rfl (by kernel_rfl) (by kernel_rfl) (by kernel_rfl) (fun _ _ _ h => h) (yieldsIf_load_mid (by rfl) _ _ rfl w.heap.size 0 rfl sv _ (fun w h => range_of_blk3 (BM4.ext h (by simp))) hu3 rfl hsz3) (by assumption) ?_
    try simp only [Act.put, List.setIfInBounds_toArray, List.set_cons_zero, List.set_cons_succ]
    refine wpAnyH_ready (rs := [1, 5]) (by kernel_rfl) (by simp) ?_
    refine AllReadyH.cons (o := ⟨some 20, _, _, _, _, _⟩) rfl (fun K hK => ?_) (AllReadyH.cons (o := ⟨some 7, _, _, _, _, _⟩) rfl (fun K hK => ?_) AllReadyH.nil)
    · skip
      go_simp
      refine (HKEY.out _ _ (y4.trans hS) (HRD4.out _ hS)).mono ?_
      rintro e W1 ⟨rfl, x10⟩
      go_simp
      have hk := hS.trans x10
      try have BZ := BZ.ext x10 (by simp)
      refine hK.out _ _ hk (fun hS => ?_)
      clear hK K
      try simp only [Act.put, List.setIfInBounds_toArray, List.set_cons_zero, List.set_cons_succ]
      refine wpAnyH_ready (rs := [4, 5]) (by kernel_rfl) (by simp) ?_
      refine AllReadyH.cons (o := ⟨some 23, _, _, _, _, _⟩) rfl (fun K hK => ?_) (AllReadyH.cons (o := ⟨some 7, _, _, _, _, _⟩) rfl (fun K hK => ?_) AllReadyH.nil)
      · skip
        go_simp
        refine (HSIGN.out _ _ (y4.trans hS) (HRD4.out _ hS)).mono ?_
        rintro e W4 ⟨v11, rfl, hown11, x11, -⟩
        go_simp
        have hk := hS.trans x11
        try have BZ := BZ.ext x11 (by simp)
        rw [hsgl] at hown11
        obtain ⟨g11, c11, cur11, rfl, -, -, -, -, -⟩ := owns_some hown11 (by omega)
        refine hK.out _ _ hk (fun hS => ?_)
        clear hK K
        try simp only [Act.put, List.setIfInBounds_toArray, List.set_cons_zero, List.set_cons_succ]
        refine wpAnyH_ready (rs := [5]) (by kernel_rfl) (by simp) ?_
        refine AllReadyH.cons (o := ⟨some 7, _, _, _, _, _⟩) rfl (fun K hK => ?_) AllReadyH.nil
        go_simp
        have BZ := blk_new_at2 hS 23 (bytesV (List.replicate 32 0)).toArray
        have hbz := hS.size
        try have hown11 := owns_ext hown11 (alloc_of hS (.cells (bytesV (List.replicate 32 0)).toArray 23)) (by simp)
        refine hK.out _ _ (hS.alloc _) (fun hS => ?_)
        clear hK K
        try simp only [Act.put, List.setIfInBounds_toArray, List.set_cons_zero, List.set_cons_succ]
        refine wpAnyH_ready (rs := [6]) (by kernel_rfl) (by simp) ?_
        refine AllReadyH.cons (o := ⟨none, _, _, _, _, _⟩) rfl (fun K hK => ?_) AllReadyH.nil
        refine step_strow rfl 23 (.tmp 7) (.tmp 20) rfl _ 0 rfl 23 (bytesV (List.replicate 32 0)) kv rfl BZ (by rw [hol]; simp [bytesV]) hob hszk ?_
        intro w6 H6 x6 hs6
        clear hs6
        have hown6 := owns_ext hown11 x6 (fun k hk hm => blk_not_row BZ (by decide) hown11 (by simp at hm; rw [hk, hm]; try rfl))
        refine hK.out _ _ (hS.trans' x6 (by intro i hi; simp at hi; subst hi; first | exact .inr hbz | (right; simpa using hbz))) (fun hS => ?_)
        clear hK K
        try simp only [Act.put]
        refine wpAnyH_take (i := 7) (oi := ⟨some 8, _, _, _, _, _⟩) (v := ?_) rfl (by kernel_rfl) (by kernel_rfl) (by kernel_rfl) (fun _ _ _ h => h) (Or.inl ⟨by rfl, ?_⟩) (by assumption) ?_
        rotate_left 1
        · (intro w hSw; (try dsimp only at hSw); go_split_ands; go_simp; (try with_reducible rfl))
        try simp only [Act.put, List.setIfInBounds_toArray, List.set_cons_zero, List.set_cons_succ]
        refine wpAnyH_done (by kernel_rfl) ?_ _
        refine hK' _ _ (Met.intro (hJ _ _ ?_))
        (repeat apply Exists.intro)
        refine ⟨?_, rfl⟩
        refine ⟨_, g11, c11, rfl, rfl, ?_, hown6, hS⟩
        rw [e9] at H6
        exact H6
      · skip
        go_simp
        have BZ := blk_new_at2 hS 23 (bytesV (List.replicate 32 0)).toArray
        have hbz := hS.size
        try have hown11 := owns_ext hown11 (alloc_of hS (.cells (bytesV (List.replicate 32 0)).toArray 23)) (by simp)
        refine hK.out _ _ (hS.alloc _) (fun hS => ?_)
        clear hK K
        try simp only [Act.put, List.setIfInBounds_toArray, List.set_cons_zero, List.set_cons_succ]
        refine wpAnyH_ready (rs := [4]) (by kernel_rfl) (by simp) ?_
        refine AllReadyH.cons (o := ⟨some 23, _, _, _, _, _⟩) rfl (fun K hK => ?_) AllReadyH.nil
        go_simp
        refine (HSIGN.out _ _ (y4.trans hS) (HRD4.out _ hS)).mono ?_
        rintro e W4 ⟨v11, rfl, hown11, x11, -⟩
        go_simp
        have hk := hS.trans x11
        try have BZ := BZ.ext x11 (by simp)
        rw [hsgl] at hown11
        obtain ⟨g11, c11, cur11, rfl, -, -, -, -, -⟩ := owns_some hown11 (by omega)
        refine hK.out _ _ hk (fun hS => ?_)
        clear hK K
        try simp only [Act.put, List.setIfInBounds_toArray, List.set_cons_zero, List.set_cons_succ]
        refine wpAnyH_ready (rs := [6]) (by kernel_rfl) (by simp) ?_
        refine AllReadyH.cons (o := ⟨none, _, _, _, _, _⟩) rfl (fun K hK => ?_) AllReadyH.nil
        refine step_strow rfl 23 (.tmp 7) (.tmp 20) rfl _ 0 rfl 23 (bytesV (List.replicate 32 0)) kv rfl BZ (by rw [hol]; simp [bytesV]) hob hszk ?_
        intro w6 H6 x6 hs6
        clear hs6
        have hown6 := owns_ext hown11 x6 (fun k hk hm => blk_not_row BZ (by decide) hown11 (by simp at hm; rw [hk, hm]; try rfl))
        refine hK.out _ _ (hS.trans' x6 (by intro i hi; simp at hi; subst hi; first | exact .inr hbz | (right; simpa using hbz))) (fun hS => ?_)
        clear hK K
        try simp only [Act.put]
        refine wpAnyH_take (i := 7) (oi := ⟨some 8, _, _, _, _, _⟩) (v := ?_) rfl (by kernel_rfl) (by kernel_rfl) (by kernel_rfl) (fun _ _ _ h => h) (Or.inl ⟨by rfl, ?_⟩) (by assumption) ?_
        rotate_left 1
        · (intro w hSw; (try dsimp only at hSw); go_split_ands; go_simp; (try with_reducible rfl))
        try simp only [Act.put, List.setIfInBounds_toArray, List.set_cons_zero, List.set_cons_succ]
        refine wpAnyH_done (by kernel_rfl) ?_ _
        refine hK' _ _ (Met.intro (hJ _ _ ?_))
        (repeat apply Exists.intro)
        refine ⟨?_, rfl⟩
        refine ⟨_, g11, c11, rfl, rfl, ?_, hown6, hS⟩
        rw [e9] at H6
        exact H6
    · skip
      go_simp
      have BZ := blk_new_at2 hS 23 (bytesV (List.replicate 32 0)).toArray
      have hbz := hS.size
      try have hown11 := owns_ext hown11 (alloc_of hS (.cells (bytesV (List.replicate 32 0)).toArray 23)) (by simp)
      refine hK.out _ _ (hS.alloc _) (fun hS => ?_)
      clear hK K
      try simp only [Act.put, List.setIfInBounds_toArray, List.set_cons_zero, List.set_cons_succ]
      refine wpAnyH_ready (rs := [1]) (by kernel_rfl) (by simp) ?_
      refine AllReadyH.cons (o := ⟨some 20, _, _, _, _, _⟩) rfl (fun K hK => ?_) AllReadyH.nil
      go_simp
      refine (HKEY.out _ _ (y4.trans hS) (HRD4.out _ hS)).mono ?_
      rintro e W1 ⟨rfl, x10⟩
      go_simp
      have hk := hS.trans x10
      try have BZ := BZ.ext x10 (by simp)
      refine hK.out _ _ hk (fun hS => ?_)
      clear hK K
      try simp only [Act.put, List.setIfInBounds_toArray, List.set_cons_zero, List.set_cons_succ]
      refine wpAnyH_ready (rs := [4]) (by kernel_rfl) (by simp) ?_
      refine AllReadyH.cons (o := ⟨some 23, _, _, _, _, _⟩) rfl (fun K hK => ?_) AllReadyH.nil
      go_simp
      refine (HSIGN.out _ _ (y4.trans hS) (HRD4.out _ hS)).mono ?_
      rintro e W4 ⟨v11, rfl, hown11, x11, -⟩
      go_simp
      have hk := hS.trans x11
      try have BZ := BZ.ext x11 (by simp)
      rw [hsgl] at hown11
      obtain ⟨g11, c11, cur11, rfl, -, -, -, -, -⟩ := owns_some hown11 (by omega)
      refine hK.out _ _ hk (fun hS => ?_)
      clear hK K
      try simp only [Act.put, List.setIfInBounds_toArray, List.set_cons_zero, List.set_cons_succ]
      refine wpAnyH_ready (rs := [6]) (by kernel_rfl) (by simp) ?_
      refine AllReadyH.cons (o := ⟨none, _, _, _, _, _⟩) rfl (fun K hK => ?_) AllReadyH.nil
      refine step_strow rfl 23 (.tmp 7) (.tmp 20) rfl _ 0 rfl 23 (bytesV (List.replicate 32 0)) kv rfl BZ (by rw [hol]; simp [bytesV]) hob hszk ?_
      intro w6 H6 x6 hs6
      clear hs6
      have hown6 := owns_ext hown11 x6 (fun k hk hm => blk_not_row BZ (by decide) hown11 (by simp at hm; rw [hk, hm]; try rfl))
      refine hK.out _ _ (hS.trans' x6 (by intro i hi; simp at hi; subst hi; first | exact .inr hbz | (right; simpa using hbz))) (fun hS => ?_)
      clear hK K
      try simp only [Act.put]
      refine wpAnyH_take (i := 7) (oi := ⟨some 8, _, _, _, _, _⟩) (v := ?_) rfl (by kernel_rfl) (by kernel_rfl) (by kernel_rfl) (fun _ _ _ h => h) (Or.inl ⟨by rfl, ?_⟩) (by assumption) ?_
      rotate_left 1
      · (intro w hSw; (try dsimp only at hSw); go_split_ands; go_simp; (try with_reducible rfl))
      try simp only [Act.put, List.setIfInBounds_toArray, List.set_cons_zero, List.set_cons_succ]
      refine wpAnyH_done (by kernel_rfl) ?_ _
      refine hK' _ _ (Met.intro (hJ _ _ ?_))
      (repeat apply Exists.intro)
      refine ⟨?_, rfl⟩
      refine ⟨_, g11, c11, rfl, rfl, ?_, hown6, hS⟩
      rw [e9] at H6
      exact H6
  case rest =>
    obtain ⟨bk, g, c8, rfl, rfl, H5, hown5, x45⟩ := hcut
    have y5 := y4.trans x45
    have BM5 := BM4.ext x45 (by simp)
    have BR5 := BR4.ext x45 (by simp)
    have HOW := Lib.hid (fun w' (x : Ext [] wc w') => owns_ext hown5 x (by simp))
    have HCV := Lib.hid (fun w' (x : Ext [] wc w') => conv_own hsgl.symm (owns_ext hown5 x (by simp)))
    have HRD5 := Lib.hid (fun w' (x : Ext [] wc w') => HRD4.out w' (x45.trans x))
    have HCQ5 := Lib.hid (fun w' (x : Ext [] wc w') => HCQ4.out w' (x45.trans x))
    clear hown5 x45 HRD4 HCQ4 BM4 BR4 y4
    have z5 : Ext [] wc wc.drew := (Ext.refl _ _).drew
    go_upto_region 5 with (fail)
    refine wp_region_held_drew (S := fun w' => Ext [] wc w') (by kernel_rfl) z5 (fun hS => ?_)
    refine wpAnyH_ready (rs := [0]) (by kernel_rfl) (by simp) ?_
    refine AllReadyH.cons (o := ⟨some 24, _, _, _, _, _⟩) rfl (fun K hK => ?_) AllReadyH.nil
    go_simp
    refine (lsigns_any _ (HG.out _ (y5.trans hS))).mono ?_
    rintro e W0 ⟨rfl, x10⟩
    go_simp
    have hk := hS.trans x10
    refine hK.out _ _ hk (fun hS => ?_)
    clear hK K
    try simp only [Act.put, List.setIfInBounds_toArray, List.set_cons_zero, List.set_cons_succ]
    refine wpAnyH_take (i := 1) (oi := ⟨some 25, _, _, _, _, _⟩) (v := ?_) rfl (by kernel_rfl) (by kernel_rfl) (by kernel_rfl) (fun _ _ _ h => h) (Or.inl ⟨by rfl, ?_⟩) (by assumption) ?_
    rotate_left 1
    · (intro w hSw; (try dsimp only at hSw); go_split_ands; go_simp; (try with_reducible rfl))
    try simp only [Act.put, List.setIfInBounds_toArray, List.set_cons_zero, List.set_cons_succ]
    refine wpAnyH_take (i := 2) (oi := ⟨some 26, _, _, _, _, _⟩) (v := .agg kv.toArray) rfl (by kernel_rfl) (by kernel_rfl) (by kernel_rfl) (fun _ _ _ h => h) (yieldsIf_load_mid (by rfl) _ _ rfl bk 0 rfl kv _ (fun w h => range_of_blk3 (H5.ext h (by simp))) hu3 rfl hszk) (by assumption) ?_
    try simp only [Act.put, List.setIfInBounds_toArray, List.set_cons_zero, List.set_cons_succ]
    refine wpAnyH_take (i := 3) (oi := ⟨some 27, _, _, _, _, _⟩) (v := .agg rt.toArray) rfl (by kernel_rfl) (by kernel_rfl) (by kernel_rfl) (fun _ _ _ h => h) (yieldsIf_load_mid (by rfl) _ _ rfl br 0 rfl rt _ (fun w h => range_of_blk3 (BR5.ext h (by simp))) hu rfl hsz) (by assumption) ?_
    try simp only [Act.put, List.setIfInBounds_toArray, List.set_cons_zero, List.set_cons_succ]
    refine wpAnyH_take (i := 4) (oi := ⟨some 28, _, _, _, _, _⟩) (v := ?_) rfl (by kernel_rfl) (by kernel_rfl) (by kernel_rfl) (fun _ _ _ h => h) (Or.inl ⟨by rfl, ?_⟩) (by assumption) ?_
    rotate_left 1
    · (intro w hSw; (try dsimp only at hSw); go_split_ands; go_simp; (try with_reducible rfl))
    try simp only [Act.put, List.setIfInBounds_toArray, List.set_cons_zero, List.set_cons_succ]
    refine wpAnyH_ready (rs := [5]) (by kernel_rfl) (by simp) ?_
    refine AllReadyH.cons (o := ⟨some 29, _, _, _, _, _⟩) rfl (fun K hK => ?_) AllReadyH.nil
    go_simp
    refine (HRK.out _ _ (HRD5.out _ hS)).mono ?_
    rintro e W5 ⟨rfl, x11⟩
    go_simp
    have hk := hS.trans x11
    refine hK.out _ _ hk (fun hS => ?_)
    clear hK K
    try simp only [Act.put, List.setIfInBounds_toArray, List.set_cons_zero, List.set_cons_succ]
    refine wpAnyH_take (i := 6) (oi := ⟨some 30, _, _, _, _, _⟩) (v := ?_) rfl (by kernel_rfl) (by kernel_rfl) (by kernel_rfl) (fun _ _ _ h => h) (Or.inl ⟨by rfl, ?_⟩) (by assumption) ?_
    rotate_left 1
    · (intro w hSw; (try dsimp only at hSw); go_split_ands; have heq := HEQ2.out; go_simp; (try with_reducible rfl))
    try simp only [Act.put, List.setIfInBounds_toArray, List.set_cons_zero, List.set_cons_succ]
    refine wpAnyH_take (i := 7) (oi := ⟨some 31, _, _, _, _, _⟩) (v := ?_) rfl (by kernel_rfl) (by kernel_rfl) (by kernel_rfl) (fun _ _ _ h => h) (Or.inl ⟨by rfl, ?_⟩) (by assumption) ?_
    rotate_left 1
    · (intro w hSw; (try dsimp only at hSw); go_split_ands; go_simp; (try with_reducible rfl))
    try simp only [Act.put, List.setIfInBounds_toArray, List.set_cons_zero, List.set_cons_succ]
    refine wpAnyH_take (i := 8) (oi := ⟨some 32, _, _, _, _, _⟩) (v := ?_) rfl (by kernel_rfl) (by kernel_rfl) (by kernel_rfl) (fun _ _ _ h => h) (Or.inl ⟨by rfl, ?_⟩) (by assumption) ?_
    rotate_left 1
    · (intro w hSw; (try dsimp only at hSw); go_split_ands; go_simp; (try with_reducible rfl))
    try simp only [Act.put, List.setIfInBounds_toArray, List.set_cons_zero, List.set_cons_succ]
    refine wpAnyH_take (i := 9) (oi := ⟨some 33, _, _, _, _, _⟩) (v := ?_) rfl (by kernel_rfl) (by kernel_rfl) (by kernel_rfl) (fun _ _ _ h => h) (Or.inl ⟨by rfl, ?_⟩) (by assumption) ?_
    rotate_left 1
    · (intro w hSw; (try dsimp only at hSw); go_split_ands; go_simp; (try with_reducible rfl))
    try simp only [Act.put, List.setIfInBounds_toArray, List.set_cons_zero, List.set_cons_succ]
    refine wpAnyH_take (i := 10) (oi := ⟨some 34, _, _, _, _, _⟩) (v := ?_) rfl (by kernel_rfl) (by kernel_rfl) (by kernel_rfl) (fun _ _ _ h => h) (Or.inl ⟨by rfl, ?_⟩) (by assumption) ?_
    rotate_left 1
    · (intro w hSw; (try dsimp only at hSw); go_split_ands; have hcv := HCV.out w (by assumption); go_simp; (try with_reducible rfl))
    try simp only [Act.put, List.setIfInBounds_toArray, List.set_cons_zero, List.set_cons_succ]
    refine wpAnyH_take (i := 11) (oi := ⟨some 35, _, _, _, _, _⟩) (v := .agg rt.toArray) rfl (by kernel_rfl) (by kernel_rfl) (by kernel_rfl) (fun _ _ _ h => h) (yieldsIf_load_mid (by rfl) _ _ rfl br 0 rfl rt _ (fun w h => range_of_blk3 (BR5.ext h (by simp))) hu rfl hsz) (by assumption) ?_
    try simp only [Act.put, List.setIfInBounds_toArray, List.set_cons_zero, List.set_cons_succ]
    refine wpAnyH_take (i := 12) (oi := ⟨some 36, _, _, _, _, _⟩) (v := ?_) rfl (by kernel_rfl) (by kernel_rfl) (by kernel_rfl) (fun _ _ _ h => h) (Or.inl ⟨by rfl, ?_⟩) (by assumption) ?_
    rotate_left 1
    · (intro w hSw; (try dsimp only at hSw); go_split_ands; go_simp; (try with_reducible rfl))
    try simp only [Act.put, List.setIfInBounds_toArray, List.set_cons_zero, List.set_cons_succ]
    refine wpAnyH_take (i := 13) (oi := ⟨some 37, _, _, _, _, _⟩) (v := .agg sv.toArray) rfl (by kernel_rfl) (by kernel_rfl) (by kernel_rfl) (fun _ _ _ h => h) (yieldsIf_load_mid (by rfl) _ _ rfl w.heap.size 0 rfl sv _ (fun w h => range_of_blk3 (BM5.ext h (by simp))) hu3 rfl hsz3) (by assumption) ?_
    try simp only [Act.put, List.setIfInBounds_toArray, List.set_cons_zero, List.set_cons_succ]
    refine wpAnyH_ready (rs := [14]) (by kernel_rfl) (by simp) ?_
    refine AllReadyH.cons (o := ⟨some 38, _, _, _, _, _⟩) rfl (fun K hK => ?_) AllReadyH.nil
    go_simp
    refine (HRS.out _ _ (HRD5.out _ hS)).mono ?_
    rintro e W14 ⟨v6, rfl, hown6, x12, -⟩
    go_simp
    have hk := hS.trans x12
    rw [hsgl] at hown6
    obtain ⟨g6, c6, cur6, rfl, -, -, -, -, -⟩ := owns_some hown6 (by omega)
    have HCV6 := Lib.hid (conv_own hsgl.symm hown6)
    refine hK.out _ _ hk (fun hS => ?_)
    clear hK K
    try simp only [Act.put, List.setIfInBounds_toArray, List.set_cons_zero, List.set_cons_succ]
    refine wpAnyH_ready (rs := [15]) (by kernel_rfl) (by simp) ?_
    refine AllReadyH.cons (o := ⟨some 39, _, _, _, _, _⟩) rfl (fun K hK => ?_) AllReadyH.nil
    have hcv6 := HCV6.out
    go_simp
    refine hK.out _ _ hS (fun hS => ?_)
    clear hK K
    try simp only [Act.put, List.setIfInBounds_toArray, List.set_cons_zero, List.set_cons_succ]
    refine wpAnyH_take (i := 16) (oi := ⟨some 40, _, _, _, _, _⟩) (v := ?_) rfl (by kernel_rfl) (by kernel_rfl) (by kernel_rfl) (fun _ _ _ h => h) (Or.inl ⟨by rfl, ?_⟩) (by assumption) ?_
    rotate_left 1
    · (intro w hSw; (try dsimp only at hSw); go_split_ands; go_simp; (try with_reducible rfl))
    try simp only [Act.put, List.setIfInBounds_toArray, List.set_cons_zero, List.set_cons_succ]
    refine wpAnyH_take (i := 17) (oi := ⟨some 41, _, _, _, _, _⟩) (v := ?_) rfl (by kernel_rfl) (by kernel_rfl) (by kernel_rfl) (fun _ _ _ h => h) (Or.inl ⟨by rfl, ?_⟩) (by assumption) ?_
    rotate_left 1
    · (intro w hSw; (try dsimp only at hSw); go_split_ands; go_simp; (try with_reducible rfl))
    try simp only [Act.put, List.setIfInBounds_toArray, List.set_cons_zero, List.set_cons_succ]
    refine wpAnyH_take (i := 18) (oi := ⟨some 42, _, _, _, _, _⟩) (v := ?_) rfl (by kernel_rfl) (by kernel_rfl) (by kernel_rfl) (fun _ _ _ h => h) (Or.inl ⟨by rfl, ?_⟩) (by assumption) ?_
    rotate_left 1
    · (intro w hSw; (try dsimp only at hSw); go_split_ands; go_simp; (try with_reducible rfl))
    try simp only [Act.put, List.setIfInBounds_toArray, List.set_cons_zero, List.set_cons_succ]
    refine wpAnyH_take (i := 19) (oi := ⟨some 43, _, _, _, _, _⟩) (v := .agg kv.toArray) rfl (by kernel_rfl) (by kernel_rfl) (by kernel_rfl) (fun _ _ _ h => h) (yieldsIf_load_mid (by rfl) _ _ rfl bk 0 rfl kv _ (fun w h => range_of_blk3 (H5.ext h (by simp))) hu3 rfl hszk) (by assumption) ?_
    try simp only [Act.put, List.setIfInBounds_toArray, List.set_cons_zero, List.set_cons_succ]
    refine wpAnyH_take (i := 20) (oi := ⟨some 44, _, _, _, _, _⟩) (v := .agg sv.toArray) rfl (by kernel_rfl) (by kernel_rfl) (by kernel_rfl) (fun _ _ _ h => h) (yieldsIf_load_mid (by rfl) _ _ rfl w.heap.size 0 rfl sv _ (fun w h => range_of_blk3 (BM5.ext h (by simp))) hu3 rfl hsz3) (by assumption) ?_
    try simp only [Act.put, List.setIfInBounds_toArray, List.set_cons_zero, List.set_cons_succ]
    refine wpAnyH_take (i := 21) (oi := ⟨some 45, _, _, _, _, _⟩) (v := ?_) rfl (by kernel_rfl) (by kernel_rfl) (by kernel_rfl) (fun _ _ _ h => h) (Or.inl ⟨by rfl, ?_⟩) (by assumption) ?_
    rotate_left 1
    · (intro w hSw; (try dsimp only at hSw); go_split_ands; go_simp; (try with_reducible rfl))
    try simp only [Act.put, List.setIfInBounds_toArray, List.set_cons_zero, List.set_cons_succ]
    refine wpAnyH_ready (rs := [22]) (by kernel_rfl) (by simp) ?_
    refine AllReadyH.cons (o := ⟨some 46, _, _, _, _, _⟩) rfl (fun K hK => ?_) AllReadyH.nil
    go_simp
    refine (HVER.out _ _ (y5.trans hS) (HOW.out _ hS)).mono ?_
    rintro e W22 ⟨rfl, x13⟩
    go_simp
    have hk := hS.trans x13
    refine hK.out _ _ hk (fun hS => ?_)
    clear hK K
    try simp only [Act.put, List.setIfInBounds_toArray, List.set_cons_zero, List.set_cons_succ]
    refine wpAnyH_take (i := 23) (oi := ⟨some 47, _, _, _, _, _⟩) (v := ?_) rfl (by kernel_rfl) (by kernel_rfl) (by kernel_rfl) (fun _ _ _ h => h) (Or.inl ⟨by rfl, ?_⟩) (by assumption) ?_
    rotate_left 1
    · (intro w hSw; (try dsimp only at hSw); go_split_ands; go_simp; (try with_reducible rfl))
    try simp only [Act.put, List.setIfInBounds_toArray, List.set_cons_zero, List.set_cons_succ]
    refine wpAnyH_take (i := 24) (oi := ⟨some 48, _, _, _, _, _⟩) (v := ?_) rfl (by kernel_rfl) (by kernel_rfl) (by kernel_rfl) (fun _ _ _ h => h) (Or.inl ⟨by rfl, ?_⟩) (by assumption) ?_
    rotate_left 1
    · (intro w hSw; (try dsimp only at hSw); go_split_ands; go_simp; (try with_reducible rfl))
    try simp only [Act.put, List.setIfInBounds_toArray, List.set_cons_zero, List.set_cons_succ]
    refine wpAnyH_take (i := 25) (oi := ⟨some 49, _, _, _, _, _⟩) (v := ?_) rfl (by kernel_rfl) (by kernel_rfl) (by kernel_rfl) (fun _ _ _ h => h) (Or.inl ⟨by rfl, ?_⟩) (by assumption) ?_
    rotate_left 1
    · (intro w hSw; (try dsimp only at hSw); go_split_ands; go_simp; (try with_reducible rfl))
    try simp only [Act.put, List.setIfInBounds_toArray, List.set_cons_zero, List.set_cons_succ]
    refine wpAnyH_take (i := 26) (oi := ⟨some 50, _, _, _, _, _⟩) (v := ?_) rfl (by kernel_rfl) (by kernel_rfl) (by kernel_rfl) (fun _ _ _ h => h) (Or.inl ⟨by rfl, ?_⟩) (by assumption) ?_
    rotate_left 1
    · (intro w hSw; (try dsimp only at hSw); go_split_ands; go_simp; (try with_reducible rfl))
    try simp only [Act.put, List.setIfInBounds_toArray, List.set_cons_zero, List.set_cons_succ]
    refine wpAnyH_take (i := 27) (oi := ⟨some 51, _, _, _, _, _⟩) (v := ?_) rfl (by kernel_rfl) (by kernel_rfl) (by kernel_rfl) (fun _ _ _ h => h) (Or.inl ⟨by rfl, ?_⟩) (by assumption) ?_
    rotate_left 1
    · (intro w hSw; (try dsimp only at hSw); go_split_ands; have hcv := HCQ5.out w (by assumption); go_simp; (try with_reducible rfl))
    try simp only [Act.put, List.setIfInBounds_toArray, List.set_cons_zero, List.set_cons_succ]
    refine wpAnyH_take (i := 28) (oi := ⟨some 52, _, _, _, _, _⟩) (v := ?_) rfl (by kernel_rfl) (by kernel_rfl) (by kernel_rfl) (fun _ _ _ h => h) (Or.inl ⟨by rfl, ?_⟩) (by assumption) ?_
    rotate_left 1
    · (intro w hSw; (try dsimp only at hSw); go_split_ands; go_simp; (try with_reducible rfl))
    try simp only [Act.put, List.setIfInBounds_toArray, List.set_cons_zero, List.set_cons_succ]
    refine wpAnyH_take (i := 29) (oi := ⟨some 53, _, _, _, _, _⟩) (v := ?_) rfl (by kernel_rfl) (by kernel_rfl) (by kernel_rfl) (fun _ _ _ h => h) (Or.inl ⟨by rfl, ?_⟩) (by assumption) ?_
    rotate_left 1
    · (intro w hSw; (try dsimp only at hSw); go_split_ands; go_simp; (try with_reducible rfl))
    try simp only [Act.put, List.setIfInBounds_toArray, List.set_cons_zero, List.set_cons_succ]
    refine wpAnyH_take (i := 30) (oi := ⟨some 54, _, _, _, _, _⟩) (v := ?_) rfl (by kernel_rfl) (by kernel_rfl) (by kernel_rfl) (fun _ _ _ h => h) (Or.inl ⟨by rfl, ?_⟩) (by assumption) ?_
    rotate_left 1
    · (intro w hSw; (try dsimp only at hSw); go_split_ands; go_simp; (try with_reducible rfl))
    try simp only [Act.put, List.setIfInBounds_toArray, List.set_cons_zero, List.set_cons_succ]
    refine wpAnyH_take (i := 31) (oi := ⟨some 4, _, _, _, _, _⟩) (v := ?_) rfl (by kernel_rfl) (by kernel_rfl) (by kernel_rfl) (fun _ _ _ h => h) (Or.inl ⟨by rfl, ?_⟩) (by assumption) ?_
    rotate_left 1
    · (intro w hSw; (try dsimp only at hSw); go_split_ands; go_simp; (try with_reducible rfl))
    try simp only [Act.put, List.setIfInBounds_toArray, List.set_cons_zero, List.set_cons_succ]
    refine wpAnyH_done (by kernel_rfl) ?_ _
    go_wp2_with fail
    go_ret
    exact ⟨rfl, y5.trans hS⟩
end Go.Proofs.YtlgihbbcieceoaaDoor
