/- The law LamportBents: the walk. -/
import Derived.Test.YtlgihbbcieceoaaDoorLamG
import Derived.Test.YtlgihbbcieceoaaDoorLamF
import Derived.Test.YtlgihbbcieceoaaDoorLamW
namespace Go.Proofs.YtlgihbbcieceoaaDoor
open Go.RowKit
set_option maxRecDepth 100000

def bentV (at_ : Int) (x : UInt8) (bs : List UInt8) (els : Bool) : List Value := .int .i64 at_ :: .int .u8 (x.toNat : Int) :: (bytesV bs ++ [.bool els])

theorem flat_split : ∀ (k1 : List Leaf) {k2 : List Leaf} {cs : List Value}, Flat (k1 ++ k2) cs → ∃ c1 c2, cs = c1 ++ c2 ∧ Flat k1 c1 ∧ Flat k2 c2
  | [], _, cs, h => ⟨[], cs, rfl, rfl, h⟩
  | _ :: k1, _, _, ⟨v, r, e, hv, hr⟩ => by
    obtain ⟨c1, c2, rfl, h1, h2⟩ := flat_split k1 hr
    subst e
    exact ⟨v :: c1, c2, rfl, ⟨v, c1, rfl, hv, h1⟩, h2⟩
theorem bent_of_flat {a : Array Value} (h : Flat (.int .i64 :: .int .u8 :: (List.replicate 32 (.int .u8) ++ [.bool])) a.toList) : ∃ (z : Int) (x : UInt8) (bs : List UInt8) (els : Bool), bs.length = 32 ∧ a = (bentV z x bs els).toArray := by
  obtain ⟨v1, r1, e1, ⟨z1, rfl, -⟩, v2, r2, e2, ⟨z2, rfl, h2⟩, h3⟩ := h
  obtain ⟨c1, c2, rfl, h4, v3, r3, e3, ⟨els, rfl⟩, e4⟩ := flat_split _ h3
  obtain ⟨bs, hbs, rfl⟩ := bytes_of_flat 32 h4
  subst e3 e2
  cases e4
  have b1 : 0 ≤ z2 ∧ z2 ≤ 255 := by simp [Lit.wf] at h2; first | exact h2 | (simp [IntKind.min, IntKind.max] at h2; omega)
  refine ⟨z1, UInt8.ofNat z2.toNat, bs, els, hbs, ?_⟩
  apply Array.toList_inj.1
  rw [e1]
  simp [bentV]
  omega

theorem own_set {w : World} {g c idx : Nat} {l : List UInt8} (h : w.ownsRow 0 5 1 (.slice (some ⟨g, 0, none⟩) l.length c) l.length (bytesV l)) (hi : idx < l.length) (y : UInt8) :
    (w.setCell ⟨g, idx, none⟩ (.int .u8 (y.toNat : Int))).ownsRow 0 5 1 (.slice (some ⟨g, 0, none⟩) l.length c) l.length (bytesV (l.set idx y)) := by
  obtain ⟨g', c', cur, he, hb, hc, hm, hl, ht⟩ := owns_some h (by omega)
  cases he
  refine ⟨by rw [bytesV_length, List.length_set]; omega, .inr ⟨g, c, (cur.set idx (.int .u8 (y.toNat : Int))).toArray, rfl, Nat.zero_le _, hb.set idx _, hc, hm, by simpa using hl, ?_⟩⟩
  rw [← bytesV_set, ← ht, List.take_set]

set_option maxHeartbeats 8000000 in
theorem lbents_walk (v : Value) (b0 sum : List UInt8) (at_ : Int) (by_ : UInt8) (bs : List UInt8) (els : Bool) (w : World) (G : DigG w) (hb : BytesArg w v b0) (hsl : sum.length = 32) (hbsl : bs.length = 32) :
    Calls Tryd.prog 5 #[v, .agg (bytesV sum).toArray, .agg (bentV at_ by_ bs els).toArray] w fun e w' => e = .returned (.bool true) ∧ Ext [] w w' := by
  obtain ⟨i0, hi, hz0, hz1, hz2⟩ := info_parts info_byte
  have HG := Lib.hid (fun w' (x' : Ext [] w w') => G.ext x' (by simp) (by simp))
  clear G
  have HC := Lib.hid (fun w' (x : Ext [] w w') => (hb.ext x).cut 20)
  obtain ⟨ao, c, rfl, hlc, hmax, -⟩ := hb
  unfold maxLen at hmax
  have hif : (if 20 < (b0.length : Int) then 20 else (b0.length : Int)) = ((min b0.length 20 : Nat) : Int) := by split <;> omega
  obtain ⟨q, hq⟩ : ∃ q, q = b0.take 20 := ⟨_, rfl⟩
  have hql : min b0.length 20 = q.length := by rw [hq, List.length_take, Nat.min_comm]
  rw [← hq] at HC
  rw [show cutOf 20 (.slice ao b0.length c) = .slice ao q.length c by rw [← hql]; rfl] at HC
  have hq300 : q.length ≤ 20 := by omega
  rw [hql] at hif
  have HIF := Lib.hid hif
  have p1 : 0 ≤ (if 20 < (b0.length : Int) then 20 else (b0.length : Int)) := by split <;> omega
  have p2 : (if 20 < (b0.length : Int) then 20 else (b0.length : Int)) ≤ (c : Int) := by split <;> omega
  clear hif hq hql
  obtain ⟨idx, hidx, hidxl⟩ := mod_nat at_ 2048 (by omega) (by omega)
  have HIX := Lib.hid hidx
  clear hidx
  have hsv : (bytesV sum).length = 32 := by rw [bytesV_length, hsl]
  have hbv : (bytesV bs).length = 32 := by rw [bytesV_length, hbsl]
  have hbo := bytesV_one bs
  have HKEY := Lib.hid (fun w' (x' : Ext [] w w') => lkey_any (.slice ao q.length c) q w' (HG.out w' x') (HC.out w' x') (by omega))
  have HSIGN := Lib.hid (fun w' (x' : Ext [] w w') => lsign_any (.slice ao q.length c) q sum w' (HG.out w' x') (HC.out w' x') (by omega) hsl)
  have HV := Lib.hid (fun (t s : List UInt8) (v : Value) w' (x' : Ext [] w w') (htl : t.length = 32) (hs : s.length = 2048) (h : w'.ownsRow 0 5 1 v 2048 (bytesV s)) => verify_own (keyB q) t s v w' (HG.out w' x') (keyB_length _) htl hs h)
  have HF := Lib.hid (fun (t s : List UInt8) (v : Value) w' (htl : t.length = 32) (hs : s.length = 2048) (h : w'.ownsRow 0 5 1 v 2048 (bytesV s)) => (show Calls Tryd.prog 15 #[.agg (V32 (Ks ++ begin0.list)).toArray, .agg (bytesV (keyB q)).toArray, .agg (bytesV t).toArray, v] w' fun e w'' => e = .returned (.bool (decide (sumOf (fitL t s 32) = keyB q))) ∧ Ext [] w' w'' from by
    obtain ⟨g, cap, cur, rfl, hb, hc, hm, -, -⟩ := owns_some h (by omega)
    refine r2fits (keyB q) t s g 0 cap w' (keyB_length _) htl hs hc (by unfold maxLen at hm; omega) hb.lt ?_
    intro j hj
    rw [Nat.zero_add, h.cellAt j (by omega), bytesV_at s j (by omega)]))
  have HBR := Lib.hid (fun t s => (show ∃ B : Bool, decide (sumOf (fitL t s 32) = keyB q) = B ∧ ((B = true ∧ verR (keyB q) t s = 0) ∨ (B = false ∧ verR (keyB q) t s = 129)) from by
    refine ⟨_, rfl, ?_⟩
    unfold verR
    by_cases h : sumOf (fitL t s 32) = keyB q
    · left; exact ⟨decide_eq_true h, if_pos h⟩
    · right; exact ⟨decide_eq_false h, if_neg h⟩))
  have HMK := Lib.hid make_ref
  have hsgl : (signL q sum 32).length = 2048 := signL_length q sum 32
  have hol : (bytesV (keyB q)).length = 32 := by rw [bytesV_length, keyB_length]
  have hob := bytesV_one (keyB q)
  have hu3 := Tryd.underlying23
  have hsz3 : (Tryd.prog.info? 23).map (·.size) = some (bytesV sum).length := by rw [hsv]; kernel_rfl
  have hszb : (Tryd.prog.info? 23).map (·.size) = some (bytesV bs).length := by rw [hbv]; kernel_rfl
  have hszk : (Tryd.prog.info? 23).map (·.size) = some (bytesV (keyB q)).length := by rw [hol]; kernel_rfl
  generalize V32 (Ks ++ begin0.list) = rt at *
  generalize signL q sum 32 = SG at *
  have HR := Lib.hid (fun t s => (show ∀ K : List UInt8 → List UInt8 → Int, K = verR (keyB q) → verR (keyB q) t s = K t s from fun K h => by rw [h]))
  clear HR
  generalize hVR : verR (keyB q) = VR at *
  clear hVR
  generalize keyB q = KB at *
  obtain ⟨kv, hkv⟩ : ∃ kv, kv = bytesV KB := ⟨_, rfl⟩
  rw [← hkv] at HKEY HV HF hol hob hszk
  clear hkv
  obtain ⟨sv, hsvq⟩ : ∃ sv, sv = bytesV sum := ⟨_, rfl⟩
  rw [← hsvq] at hsv hsz3 HSIGN ⊢
  have HSVQ := Lib.hid hsvq
  clear hsvq
  have HB0 := Lib.hid (show (bentV at_ by_ bs els)[0]? = some (.int .i64 at_) from rfl)
  have HB1 := Lib.hid (show (bentV at_ by_ bs els)[1]? = some (.int .u8 (by_.toNat : Int)) from rfl)
  have HB34 := Lib.hid (show (bentV at_ by_ bs els)[34]? = some (.bool els) by
    unfold bentV
    rw [List.getElem?_cons_succ, List.getElem?_cons_succ, List.getElem?_append_right (by omega), hbv]; rfl)
  have HBP := Lib.hid (fun (w' : World) b (h : Blk w' b 41 (bentV at_ by_ bs els)) => (show PartAt w' b 2 (bytesV bs) from by
    have h2 := h.part
    have h3 : PartAt w' b 0 ([.int .i64 at_, .int .u8 (by_.toNat : Int)] ++ (bytesV bs ++ [.bool els])) := h2
    have h4 := h3.right
    exact (by simpa using h4.left)))
  generalize bentV at_ by_ bs els = BV at *
  go_enter Tryd.func5, Tryd.ntmps5
  go_upto_region 1 with (fail)
  show Code.wp _ _ _ _ ((w.alloc (.cells sv.toArray 23)).alloc (.cells BV.toArray 41))
  have BM : Blk ((w.alloc (.cells sv.toArray 23)).alloc (.cells BV.toArray 41)) w.heap.size 23 sv := (Blk.new w _ sv.toArray).alloc _
  have BP : Blk ((w.alloc (.cells sv.toArray 23)).alloc (.cells BV.toArray 41)) (w.heap.size + 1) 41 BV := Blk.new' _ _ BV.toArray _ (by simp)
  have x1 : Ext [] w ((w.alloc (.cells sv.toArray 23)).alloc (.cells BV.toArray 41)) := ((Ext.refl _ _).alloc _).alloc _
  generalize ((w.alloc (.cells sv.toArray 23)).alloc (.cells BV.toArray 41)) = w4 at *
  go_upto_region 2 with (fail)
  rw [HIF.out]
  simp only [Int.toNat_natCast]
  clear p1 p2 HIF
  have y4 := x1
  have BM4 := BM
  clear BM x1
  go_cut [7, 8] (fun s7 s8 wc => ∃ bk g c, s7 = .pointer (some ⟨bk, 0, none⟩) ∧ s8 = .slice (some ⟨g, 0, none⟩) 2048 c ∧ Blk wc bk 23 kv ∧ wc.ownsRow 0 5 1 (.slice (some ⟨g, 0, none⟩) 2048 c) 2048 (bytesV SG) ∧ Ext [] w4 wc ∧ w4.heap.size ≤ g ∧ w4.heap.size ≤ bk)
  case first =>
    rename_i J K' hJ hK'
    have e9 : (bytesV (List.replicate 32 0)).take 0 ++ kv ++ (bytesV (List.replicate 32 0)).drop (0 + kv.length) = kv := by
      rw [hol, List.take_zero, List.nil_append, List.drop_of_length_le (by simp [bytesV]), List.append_nil]
    have z4 : Ext [] w4 w4.drew := (Ext.refl _ _).drew
    refine wp_region_held_drew (S := fun w' => Ext [] w4 w') (by kernel_rfl) z4 (fun hS => ?_)
    refine wpAnyH_take (i := 0) (oi := ⟨some 14, _, _, _, _, _⟩) (v := ?_) rfl (by kernel_rfl) (by kernel_rfl) (by kernel_rfl) (fun _ _ _ h => h) (Or.inl ⟨by rfl, ?_⟩) (by assumption) ?_
    rotate_left 1
    · (intro w hSw; (try dsimp only at hSw); go_split_ands; go_simp; (try with_reducible rfl))
    try simp only [Act.put, List.setIfInBounds_toArray, List.set_cons_zero, List.set_cons_succ]
    refine wpAnyH_take (i := 2) (oi := ⟨some 16, _, _, _, _, _⟩) (v := ?_) rfl (by kernel_rfl) (by kernel_rfl) (by kernel_rfl) (fun _ _ _ h => h) (Or.inl ⟨by rfl, ?_⟩) (by assumption) ?_
    rotate_left 1
    · (intro w hSw; (try dsimp only at hSw); go_split_ands; go_simp; (try with_reducible rfl))
    try simp only [Act.put, List.setIfInBounds_toArray, List.set_cons_zero, List.set_cons_succ]
    refine wpAnyH_take (i := 3) (oi := ⟨some 17, _, _, _, _, _⟩) (v := .agg sv.toArray) rfl (by kernel_rfl) (by kernel_rfl) (by kernel_rfl) (fun _ _ _ h => h) (yieldsIf_load_mid (by rfl) _ _ rfl w.heap.size 0 rfl sv _ (fun w h => range_of_blk3 (BM4.ext h (by simp))) hu3 rfl hsz3) (by assumption) ?_
    try simp only [Act.put, List.setIfInBounds_toArray, List.set_cons_zero, List.set_cons_succ]
    refine wpAnyH_ready (rs := [1, 5]) (by kernel_rfl) (by simp) ?_
    refine AllReadyH.cons (o := ⟨some 15, _, _, _, _, _⟩) rfl (fun K hK => ?_) (AllReadyH.cons (o := ⟨some 7, _, _, _, _, _⟩) rfl (fun K hK => ?_) AllReadyH.nil)
    · skip
      go_simp
      refine (HKEY.out _ (y4.trans hS)).mono ?_
      rintro e W1 ⟨rfl, x10⟩
      go_simp
      have hk := hS.trans x10
      try have BZ := BZ.ext x10 (by simp)
      refine hK.out _ _ hk (fun hS => ?_)
      clear hK K
      try simp only [Act.put, List.setIfInBounds_toArray, List.set_cons_zero, List.set_cons_succ]
      refine wpAnyH_ready (rs := [4, 5]) (by kernel_rfl) (by simp) ?_
      refine AllReadyH.cons (o := ⟨some 18, _, _, _, _, _⟩) rfl (fun K hK => ?_) (AllReadyH.cons (o := ⟨some 7, _, _, _, _, _⟩) rfl (fun K hK => ?_) AllReadyH.nil)
      · skip
        go_simp
        refine (HSIGN.out _ (y4.trans hS)).mono ?_
        rintro e W4 ⟨v11, rfl, hown11, x11, fr11⟩
        go_simp
        have hk := hS.trans x11
        try have BZ := BZ.ext x11 (by simp)
        rw [hsgl] at hown11
        obtain ⟨g11, c11, cur11, rfl, -, -, -, -, -⟩ := owns_some hown11 (by omega)
        have hg11 := Nat.le_trans hS.size (fr11 g11 rfl)
        clear fr11
        refine hK.out _ _ hk (fun hS => ?_)
        clear hK K
        try simp only [Act.put, List.setIfInBounds_toArray, List.set_cons_zero, List.set_cons_succ]
        refine wpAnyH_ready (rs := [5]) (by kernel_rfl) (by simp) ?_
        refine AllReadyH.cons (o := ⟨some 7, _, _, _, _, _⟩) rfl (fun K hK => ?_) AllReadyH.nil
        go_simp
        have BZ := blk_new_at2 hS 23 (bytesV (List.replicate 32 0)).toArray
        have hbz := hS.size
        try have hown11 := owns_ext hown11 (alloc_of hS (.cells (bytesV (List.replicate 32 0)).toArray 23)) (by simp)
        refine hK.out _ _ (hS.alloc _) (fun hS => ?_)
        clear hK K
        try simp only [Act.put, List.setIfInBounds_toArray, List.set_cons_zero, List.set_cons_succ]
        refine wpAnyH_ready (rs := [6]) (by kernel_rfl) (by simp) ?_
        refine AllReadyH.cons (o := ⟨none, _, _, _, _, _⟩) rfl (fun K hK => ?_) AllReadyH.nil
        refine step_strow rfl 23 (.tmp 7) (.tmp 15) rfl _ 0 rfl 23 (bytesV (List.replicate 32 0)) kv rfl BZ (by rw [hol]; simp [bytesV]) hob hszk ?_
        intro w6 H6 x6 hs6
        clear hs6
        have hown6 := owns_ext hown11 x6 (fun k hk hm => blk_not_row BZ (by decide) hown11 (by simp at hm; rw [hk, hm]; try rfl))
        refine hK.out _ _ (hS.trans' x6 (by intro i hi; simp at hi; subst hi; first | exact .inr hbz | (right; simpa using hbz))) (fun hS => ?_)
        clear hK K
        try simp only [Act.put]
        refine wpAnyH_take (i := 7) (oi := ⟨some 8, _, _, _, _, _⟩) (v := ?_) rfl (by kernel_rfl) (by kernel_rfl) (by kernel_rfl) (fun _ _ _ h => h) (Or.inl ⟨by rfl, ?_⟩) (by assumption) ?_
        rotate_left 1
        · (intro w hSw; (try dsimp only at hSw); go_split_ands; go_simp; (try with_reducible rfl))
        try simp only [Act.put, List.setIfInBounds_toArray, List.set_cons_zero, List.set_cons_succ]
        refine wpAnyH_done (by kernel_rfl) ?_ _
        refine hK' _ _ (Met.intro (hJ _ _ ?_))
        (repeat apply Exists.intro)
        refine ⟨?_, rfl⟩
        refine ⟨_, g11, c11, rfl, rfl, ?_, hown6, hS, hg11, by first | exact hbz | simpa using hbz⟩
        rw [e9] at H6
        exact H6
      · skip
        go_simp
        have BZ := blk_new_at2 hS 23 (bytesV (List.replicate 32 0)).toArray
        have hbz := hS.size
        try have hown11 := owns_ext hown11 (alloc_of hS (.cells (bytesV (List.replicate 32 0)).toArray 23)) (by simp)
        refine hK.out _ _ (hS.alloc _) (fun hS => ?_)
        clear hK K
        try simp only [Act.put, List.setIfInBounds_toArray, List.set_cons_zero, List.set_cons_succ]
        refine wpAnyH_ready (rs := [4]) (by kernel_rfl) (by simp) ?_
        refine AllReadyH.cons (o := ⟨some 18, _, _, _, _, _⟩) rfl (fun K hK => ?_) AllReadyH.nil
        go_simp
        refine (HSIGN.out _ (y4.trans hS)).mono ?_
        rintro e W4 ⟨v11, rfl, hown11, x11, fr11⟩
        go_simp
        have hk := hS.trans x11
        try have BZ := BZ.ext x11 (by simp)
        rw [hsgl] at hown11
        obtain ⟨g11, c11, cur11, rfl, -, -, -, -, -⟩ := owns_some hown11 (by omega)
        have hg11 := Nat.le_trans hS.size (fr11 g11 rfl)
        clear fr11
        refine hK.out _ _ hk (fun hS => ?_)
        clear hK K
        try simp only [Act.put, List.setIfInBounds_toArray, List.set_cons_zero, List.set_cons_succ]
        refine wpAnyH_ready (rs := [6]) (by kernel_rfl) (by simp) ?_
        refine AllReadyH.cons (o := ⟨none, _, _, _, _, _⟩) rfl (fun K hK => ?_) AllReadyH.nil
        refine step_strow rfl 23 (.tmp 7) (.tmp 15) rfl _ 0 rfl 23 (bytesV (List.replicate 32 0)) kv rfl BZ (by rw [hol]; simp [bytesV]) hob hszk ?_
        intro w6 H6 x6 hs6
        clear hs6
        have hown6 := owns_ext hown11 x6 (fun k hk hm => blk_not_row BZ (by decide) hown11 (by simp at hm; rw [hk, hm]; try rfl))
        refine hK.out _ _ (hS.trans' x6 (by intro i hi; simp at hi; subst hi; first | exact .inr hbz | (right; simpa using hbz))) (fun hS => ?_)
        clear hK K
        try simp only [Act.put]
        refine wpAnyH_take (i := 7) (oi := ⟨some 8, _, _, _, _, _⟩) (v := ?_) rfl (by kernel_rfl) (by kernel_rfl) (by kernel_rfl) (fun _ _ _ h => h) (Or.inl ⟨by rfl, ?_⟩) (by assumption) ?_
        rotate_left 1
        · (intro w hSw; (try dsimp only at hSw); go_split_ands; go_simp; (try with_reducible rfl))
        try simp only [Act.put, List.setIfInBounds_toArray, List.set_cons_zero, List.set_cons_succ]
        refine wpAnyH_done (by kernel_rfl) ?_ _
        refine hK' _ _ (Met.intro (hJ _ _ ?_))
        (repeat apply Exists.intro)
        refine ⟨?_, rfl⟩
        refine ⟨_, g11, c11, rfl, rfl, ?_, hown6, hS, hg11, by first | exact hbz | simpa using hbz⟩
        rw [e9] at H6
        exact H6
    · skip
      go_simp
      have BZ := blk_new_at2 hS 23 (bytesV (List.replicate 32 0)).toArray
      have hbz := hS.size
      try have hown11 := owns_ext hown11 (alloc_of hS (.cells (bytesV (List.replicate 32 0)).toArray 23)) (by simp)
      refine hK.out _ _ (hS.alloc _) (fun hS => ?_)
      clear hK K
      try simp only [Act.put, List.setIfInBounds_toArray, List.set_cons_zero, List.set_cons_succ]
      refine wpAnyH_ready (rs := [1]) (by kernel_rfl) (by simp) ?_
      refine AllReadyH.cons (o := ⟨some 15, _, _, _, _, _⟩) rfl (fun K hK => ?_) AllReadyH.nil
      go_simp
      refine (HKEY.out _ (y4.trans hS)).mono ?_
      rintro e W1 ⟨rfl, x10⟩
      go_simp
      have hk := hS.trans x10
      try have BZ := BZ.ext x10 (by simp)
      refine hK.out _ _ hk (fun hS => ?_)
      clear hK K
      try simp only [Act.put, List.setIfInBounds_toArray, List.set_cons_zero, List.set_cons_succ]
      refine wpAnyH_ready (rs := [4]) (by kernel_rfl) (by simp) ?_
      refine AllReadyH.cons (o := ⟨some 18, _, _, _, _, _⟩) rfl (fun K hK => ?_) AllReadyH.nil
      go_simp
      refine (HSIGN.out _ (y4.trans hS)).mono ?_
      rintro e W4 ⟨v11, rfl, hown11, x11, fr11⟩
      go_simp
      have hk := hS.trans x11
      try have BZ := BZ.ext x11 (by simp)
      rw [hsgl] at hown11
      obtain ⟨g11, c11, cur11, rfl, -, -, -, -, -⟩ := owns_some hown11 (by omega)
      have hg11 := Nat.le_trans hS.size (fr11 g11 rfl)
      clear fr11
      refine hK.out _ _ hk (fun hS => ?_)
      clear hK K
      try simp only [Act.put, List.setIfInBounds_toArray, List.set_cons_zero, List.set_cons_succ]
      refine wpAnyH_ready (rs := [6]) (by kernel_rfl) (by simp) ?_
      refine AllReadyH.cons (o := ⟨none, _, _, _, _, _⟩) rfl (fun K hK => ?_) AllReadyH.nil
      refine step_strow rfl 23 (.tmp 7) (.tmp 15) rfl _ 0 rfl 23 (bytesV (List.replicate 32 0)) kv rfl BZ (by rw [hol]; simp [bytesV]) hob hszk ?_
      intro w6 H6 x6 hs6
      clear hs6
      have hown6 := owns_ext hown11 x6 (fun k hk hm => blk_not_row BZ (by decide) hown11 (by simp at hm; rw [hk, hm]; try rfl))
      refine hK.out _ _ (hS.trans' x6 (by intro i hi; simp at hi; subst hi; first | exact .inr hbz | (right; simpa using hbz))) (fun hS => ?_)
      clear hK K
      try simp only [Act.put]
      refine wpAnyH_take (i := 7) (oi := ⟨some 8, _, _, _, _, _⟩) (v := ?_) rfl (by kernel_rfl) (by kernel_rfl) (by kernel_rfl) (fun _ _ _ h => h) (Or.inl ⟨by rfl, ?_⟩) (by assumption) ?_
      rotate_left 1
      · (intro w hSw; (try dsimp only at hSw); go_split_ands; go_simp; (try with_reducible rfl))
      try simp only [Act.put, List.setIfInBounds_toArray, List.set_cons_zero, List.set_cons_succ]
      refine wpAnyH_done (by kernel_rfl) ?_ _
      refine hK' _ _ (Met.intro (hJ _ _ ?_))
      (repeat apply Exists.intro)
      refine ⟨?_, rfl⟩
      refine ⟨_, g11, c11, rfl, rfl, ?_, hown6, hS, hg11, by first | exact hbz | simpa using hbz⟩
      rw [e9] at H6
      exact H6
  case rest =>
    obtain ⟨bk, g, c8, rfl, rfl, H5, hown5, x45, hg, hbk4⟩ := hcut
    have hw4 := BM4.lt
    have hgw := Nat.le_trans y4.size hg
    have y5 := y4.trans x45
    have BM5 := BM4.ext x45 (by simp)
    have BP5 := BP.ext x45 (by simp)
    have hbk : w4.heap.size ≤ bk ∨ True := .inr trivial
    clear x45 BM4 BP y4 hbk hg
    go_wp2_with fail
    refine (lsigns_any wc (HG.out _ y5)).mono ?_
    rintro e w6 ⟨rfl, x6⟩
    have BM6 := BM5.ext x6 (by simp)
    have BP6 := BP5.ext x6 (by simp)
    have H6 := H5.ext x6 (by simp)
    have hown6 := owns_ext hown5 x6 (by simp)
    have y6 := y5.trans x6
    have cE := BP6.cell 34
    rw [HB34.out] at cE
    clear x6 y5 BM5 BP5 H5 hown5
    go_upto_if 27 with (fail)
    clear cE
    go_cut [] (fun wc => ∃ t s : List UInt8, t.length = 32 ∧ s.length = 2048 ∧ Blk wc w.heap.size 23 (bytesV t) ∧ wc.ownsRow 0 5 1 (.slice (some ⟨g, 0, none⟩) 2048 c8) 2048 (bytesV s) ∧ Blk wc bk 23 kv ∧ Ext [] w wc)
    case first =>
      cases els with
      | true =>
        go_wp2_with (with_reducible refine wpList_ldpart rfl 23 (.tmp 28) rfl (w.heap.size + 1) 2 rfl (bytesV bs) _ (HBP.out _ _ BP6) hu3 rfl hszb ?_)
        refine upon_strow w.heap.size 0 23 sv (bytesV bs) BM6 (by omega) hbo ?_
        intro w7 H7 x7 hs7
        clear hs7
        have e9 : sv.take 0 ++ bytesV bs ++ sv.drop (0 + (bytesV bs).length) = bytesV bs := by
          rw [hbv, List.take_zero, List.nil_append, List.drop_of_length_le (by omega), List.append_nil]
        rw [e9] at H7
        have hown7 := owns_ext hown6 x7 (fun k hk hm => blk_not_row BM6 (by decide) hown6 (by simp at hm; rw [hk, hm]))
        have hbkn : bk ≠ w.heap.size := by intro h; subst h; omega
        have H67 := H6.ext x7 (by simpa using hbkn)
        have y7 := y6.trans' x7 (by intro i hi; simp at hi; subst hi; exact .inr (Nat.le_refl _))
        go_wp2_with fail
        go_meet
        case rel => exact ⟨bs, SG, hbsl, hsgl, H7, hown7, H67, y7⟩
      | false =>
        obtain ⟨g', c', cur, he, hb9, hc9, hm9, -, -⟩ := owns_some hown6 (by omega)
        cases he
        unfold maxLen at hm9
        have cA := BP6.cell 0
        rw [HB0.out] at cA
        have cB := BP6.cell 1
        rw [HB1.out] at cB
        have cO := hown6.cellAt idx (by omega)
        rw [bytesV_at SG idx (by omega)] at cO
        have fO := hb9.frozen idx
        have hO8 := UInt8.toNat_lt (SG.getD idx 0)
        have hM8 := UInt8.toNat_lt by_
        have HX := Lib.hid (show bits .xor .u8 ((SG.getD idx 0).toNat : Int) (by_.toNat : Int) = (((SG.getD idx 0) ^^^ by_).toNat : Int) by
          rw [u8_xor_nat _ _ (UInt8.toNat_lt _) (UInt8.toNat_lt _), UInt8.toNat_xor])
        have hx9 := HX.out
        have HOS := Lib.hid (own_set (hsgl.symm ▸ hown6) (show idx < SG.length by omega) ((SG.getD idx 0) ^^^ by_))
        generalize SG.getD idx 0 = oc at *
        have hix : wrap64 ((IntKind.u64.wrap at_).tmod 2048) = (idx : Int) := HIX.out
        have hix2 : IntKind.i64.wrap ((IntKind.u64.wrap at_).tmod 2048) = (idx : Int) := (IntWalk.i64_left _).trans hix
        have e1 : (0 : Int) ≤ (idx : Int) := by omega
        have e2 : (idx : Int) < 2048 := by omega
        go_wp2_with fail
        go_region
        go_wp2_with fail
        go_meet
        case rel =>
          refine ⟨sum, SG.set idx (oc ^^^ by_), hsl, by rw [List.length_set]; exact hsgl, ?_, ?_, H6.setOther (fun e => blk_not_row H6 (by decide) hown6 (by rw [e]; rfl)) _, (y6.setCell (p := ⟨g, idx, none⟩) (.inr hgw) _).drew⟩
          · rw [← HSVQ.out]
            exact BM6.setOther (fun e => blk_not_row BM6 (by decide) hown6 (by rw [e]; rfl)) _
          · have h9 := HOS.out
            rw [hsgl, UInt8.toNat_xor] at h9
            exact h9
    case rest =>
      obtain ⟨t, s, htl, hsl2, BM7, hown7, H7, y7⟩ := hcut
      obtain ⟨B, hBe, hB⟩ := HBR.out t s
      have HVx := Lib.hid (fun w' (x : Ext [] wc w') => HV.out t s _ w' (y7.trans x) htl hsl2 (owns_ext hown7 x (by simp)))
      have HFx := Lib.hid (fun w' (x : Ext [] wc w') => HF.out t s _ w' htl hsl2 (owns_ext hown7 x (by simp)))
      rw [hBe] at HFx
      have htv : (bytesV t).length = 32 := by rw [bytesV_length, htl]
      have hszt : (Tryd.prog.info? 23).map (·.size) = some (bytesV t).length := by rw [htv]; kernel_rfl
      clear hBe HBR HV HF htl hsl2 hown7
      generalize bytesV t = tv at *
      generalize VR t s = R at *
      have z7 : Ext [] wc wc.drew := (Ext.refl _ _).drew
      rcases hB with ⟨rfl, rfl⟩ | ⟨rfl, rfl⟩
      all_goals
        go_upto_region 8 with (fail)
        refine wp_region_held_drew (S := fun w' => Ext [] wc w') (by kernel_rfl) z7 (fun hS => ?_)
        refine wpAnyH_take (i := 0) (oi := ⟨some 42, _, _, _, _, _⟩) (v := .agg kv.toArray) rfl (by kernel_rfl) (by kernel_rfl) (by kernel_rfl) (fun _ _ _ h => h) (yieldsIf_load_mid (by rfl) _ _ rfl bk 0 rfl kv _ (fun w h => range_of_blk3 (H7.ext h (by simp))) hu3 rfl hszk) (by assumption) ?_
        try simp only [Act.put, List.setIfInBounds_toArray, List.set_cons_zero, List.set_cons_succ]
        refine wpAnyH_take (i := 1) (oi := ⟨some 43, _, _, _, _, _⟩) (v := .agg tv.toArray) rfl (by kernel_rfl) (by kernel_rfl) (by kernel_rfl) (fun _ _ _ h => h) (yieldsIf_load_mid (by rfl) _ _ rfl w.heap.size 0 rfl tv _ (fun w h => range_of_blk3 (BM7.ext h (by simp))) hu3 rfl hszt) (by assumption) ?_
        try simp only [Act.put, List.setIfInBounds_toArray, List.set_cons_zero, List.set_cons_succ]
        refine wpAnyH_take (i := 2) (oi := ⟨some 44, _, _, _, _, _⟩) (v := ?_) rfl (by kernel_rfl) (by kernel_rfl) (by kernel_rfl) (fun _ _ _ h => h) (Or.inl ⟨by rfl, ?_⟩) (by assumption) ?_
        rotate_left 1
        · (intro w hSw; (try dsimp only at hSw); go_split_ands; go_simp; (try with_reducible rfl))
        try simp only [Act.put, List.setIfInBounds_toArray, List.set_cons_zero, List.set_cons_succ]
        refine wpAnyH_take (i := 6) (oi := ⟨some 48, _, _, _, _, _⟩) (v := .agg kv.toArray) rfl (by kernel_rfl) (by kernel_rfl) (by kernel_rfl) (fun _ _ _ h => h) (yieldsIf_load_mid (by rfl) _ _ rfl bk 0 rfl kv _ (fun w h => range_of_blk3 (H7.ext h (by simp))) hu3 rfl hszk) (by assumption) ?_
        try simp only [Act.put, List.setIfInBounds_toArray, List.set_cons_zero, List.set_cons_succ]
        refine wpAnyH_take (i := 7) (oi := ⟨some 49, _, _, _, _, _⟩) (v := .agg tv.toArray) rfl (by kernel_rfl) (by kernel_rfl) (by kernel_rfl) (fun _ _ _ h => h) (yieldsIf_load_mid (by rfl) _ _ rfl w.heap.size 0 rfl tv _ (fun w h => range_of_blk3 (BM7.ext h (by simp))) hu3 rfl hszt) (by assumption) ?_
        try simp only [Act.put, List.setIfInBounds_toArray, List.set_cons_zero, List.set_cons_succ]
        refine wpAnyH_take (i := 8) (oi := ⟨some 50, _, _, _, _, _⟩) (v := ?_) rfl (by kernel_rfl) (by kernel_rfl) (by kernel_rfl) (fun _ _ _ h => h) (Or.inl ⟨by rfl, ?_⟩) (by assumption) ?_
        rotate_left 1
        · (intro w hSw; (try dsimp only at hSw); go_split_ands; go_simp; (try with_reducible rfl))
        try simp only [Act.put, List.setIfInBounds_toArray, List.set_cons_zero, List.set_cons_succ]
        refine wpAnyH_ready (rs := [3]) (by kernel_rfl) (by simp) ?_
        refine AllReadyH.cons (o := ⟨some 45, _, _, _, _, _⟩) rfl (fun K hK => ?_) AllReadyH.nil
        go_simp
        refine (HVx.out _ hS).mono ?_
        rintro e W3 ⟨rfl, x10⟩
        go_simp
        have hk := hS.trans x10
        refine hK.out _ _ hk (fun hS => ?_)
        clear hK K
        try simp only [Act.put, List.setIfInBounds_toArray, List.set_cons_zero, List.set_cons_succ]
        refine wpAnyH_take (i := 4) (oi := ⟨some 46, _, _, _, _, _⟩) (v := ?_) rfl (by kernel_rfl) (by kernel_rfl) (by kernel_rfl) (fun _ _ _ h => h) (Or.inl ⟨by rfl, ?_⟩) (by assumption) ?_
        rotate_left 1
        · (intro w hSw; (try dsimp only at hSw); go_split_ands; go_simp; (try with_reducible rfl))
        try simp only [Act.put, List.setIfInBounds_toArray, List.set_cons_zero, List.set_cons_succ]
        refine wpAnyH_ready (rs := [5]) (by kernel_rfl) (by simp) ?_
        refine AllReadyH.cons (o := ⟨some 47, _, _, _, _, _⟩) rfl (fun K hK => ?_) AllReadyH.nil
        go_simp
        refine (HMK.out _).mono ?_
        rintro e W5 ⟨rfl, x11⟩
        go_simp
        have hk := hS.trans x11
        refine hK.out _ _ hk (fun hS => ?_)
        clear hK K
        try simp only [Act.put, List.setIfInBounds_toArray, List.set_cons_zero, List.set_cons_succ]
        refine wpAnyH_ready (rs := [9]) (by kernel_rfl) (by simp) ?_
        refine AllReadyH.cons (o := ⟨some 51, _, _, _, _, _⟩) rfl (fun K hK => ?_) AllReadyH.nil
        go_simp
        refine (HFx.out _ hS).mono ?_
        rintro e W9 ⟨rfl, x12⟩
        go_simp
        have hk := hS.trans x12
        refine hK.out _ _ hk (fun hS => ?_)
        clear hK K
        try simp only [Act.put, List.setIfInBounds_toArray, List.set_cons_zero, List.set_cons_succ]
        refine wpAnyH_take (i := 10) (oi := ⟨some 52, _, _, _, _, _⟩) (v := ?_) rfl (by kernel_rfl) (by kernel_rfl) (by kernel_rfl) (fun _ _ _ h => h) (Or.inl ⟨by rfl, ?_⟩) (by assumption) ?_
        rotate_left 1
        · (intro w hSw; (try dsimp only at hSw); go_split_ands; go_simp; (try with_reducible rfl))
        try simp only [Act.put, List.setIfInBounds_toArray, List.set_cons_zero, List.set_cons_succ]
        refine wpAnyH_take (i := 11) (oi := ⟨some 6, _, _, _, _, _⟩) (v := ?_) rfl (by kernel_rfl) (by kernel_rfl) (by kernel_rfl) (fun _ _ _ h => h) (Or.inl ⟨by rfl, ?_⟩) (by assumption) ?_
        rotate_left 1
        · (intro w hSw; (try dsimp only at hSw); go_split_ands; go_simp; (try with_reducible rfl))
        try simp only [Act.put, List.setIfInBounds_toArray, List.set_cons_zero, List.set_cons_succ]
        refine wpAnyH_done (by kernel_rfl) ?_ _
        go_wp2_with fail
        go_ret
        exact ⟨rfl, y7.trans hS⟩
end Go.Proofs.YtlgihbbcieceoaaDoor
