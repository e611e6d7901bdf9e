/- The law LamportBits: the walk. -/
import Derived.Test.YtlgihbbcieceoaaDoorLamG
import Derived.Test.YtlgihbbcieceoaaDoorBCut
namespace Go.Proofs.YtlgihbbcieceoaaDoor
open Go.RowKit
set_option maxRecDepth 100000

theorem signL_congr (seed a b : List UInt8) (h : ∀ i, i < 32 → bitM a i = bitM b i) : signL seed a 32 = signL seed b 32 := by
  unfold signL
  congr 1
  apply List.map_congr_left
  intro i hi
  rw [List.mem_range] at hi
  simp only [h i hi]
theorem bitM_take (a b : List UInt8) (h : a.take 4 = b.take 4) (i : Nat) (hi : i < 32) : bitM a i = bitM b i := by
  have e : ∀ l : List UInt8, l.getD (i / 8) 0 = (l.take 4).getD (i / 8) 0 := fun l => by simp [List.getD, show i / 8 < 4 by omega]
  unfold bitM
  rw [e a, e b, h]

theorem conv_own {w : World} {g c n : Nat} {l : List UInt8} (hn : n = l.length) (h : w.ownsRow 0 5 1 (.slice (some ⟨g, 0, none⟩) n c) n (bytesV l)) :
    (convert 22 9 (.slice (some ⟨g, 0, none⟩) n c)).run Tryd.prog w = .ok (.string ⟨l.toArray⟩) w := by
  subst hn
  refine run_convert_bytes_back w _ _ 5 ⟨g, 0, none⟩ c l Tryd.underlying22 Tryd.underlying5 Tryd.underlying9 ?_
  intro j hj
  rw [Addr.add_lit, Nat.zero_add, h.cellAt j (by omega)]
  unfold bytesV
  simp [hj]

set_option maxHeartbeats 8000000 in
theorem lbits_walk (v : Value) (b0 sum more : List UInt8) (w : World) (G : DigG w) (hb : BytesArg w v b0) (hsl : sum.length = 32) (hml : more.length = 28) :
    Calls Tryd.prog 6 #[v, .agg (bytesV sum).toArray, .agg (bytesV more).toArray] w fun e w' => e = .returned (.bool true) ∧ Ext [] w w' := by
  obtain ⟨i0, hi, hz0, hz1, hz2⟩ := info_parts info_byte
  have HG := Lib.hid (fun w' (x' : Ext [] w w') => G.ext x' (by simp) (by simp))
  clear G
  have HC := Lib.hid (fun w' (x : Ext [] w w') => (hb.ext x).cut 20)
  obtain ⟨ao, c, rfl, hlc, hmax, -⟩ := hb
  unfold maxLen at hmax
  have hif : (if 20 < (b0.length : Int) then 20 else (b0.length : Int)) = ((min b0.length 20 : Nat) : Int) := by split <;> omega
  obtain ⟨q, hq⟩ : ∃ q, q = b0.take 20 := ⟨_, rfl⟩
  have hql : min b0.length 20 = q.length := by rw [hq, List.length_take, Nat.min_comm]
  rw [← hq] at HC
  rw [show cutOf 20 (.slice ao b0.length c) = .slice ao q.length c by rw [← hql]; rfl] at HC
  have hq300 : q.length ≤ 20 := by omega
  rw [hql] at hif
  have HIF := Lib.hid hif
  have p1 : 0 ≤ (if 20 < (b0.length : Int) then 20 else (b0.length : Int)) := by split <;> omega
  have p2 : (if 20 < (b0.length : Int) then 20 else (b0.length : Int)) ≤ (c : Int) := by split <;> omega
  clear hif hq hql
  have hsv : (bytesV sum).length = 32 := by rw [bytesV_length, hsl]
  have HKEY := Lib.hid (fun w' (x' : Ext [] w w') => lkey_any (.slice ao q.length c) q w' (HG.out w' x') (HC.out w' x') (by omega))
  have HSIGN := Lib.hid (fun s w' (x' : Ext [] w w') hs => lsign_any (.slice ao q.length c) q s w' (HG.out w' x') (HC.out w' x') (by omega) hs)
  have HVER := Lib.hid (fun t v w' (x' : Ext [] w w') (htl : t.length = 32) (ht : t.take 4 = sum.take 4) (h : w'.ownsRow 0 5 1 v 2048 (bytesV (signL q sum 32))) => (show Calls Tryd.prog 14 #[.agg (bytesV (keyB q)).toArray, .agg (bytesV t).toArray, v] w' fun e w'' => e = .returned (.int .i64 0) ∧ Ext [] w' w'' from by
    have h1 := verify_own (keyB q) t (signL q sum 32) v w' (HG.out w' x') (keyB_length _) htl (signL_length q sum 32) h
    rw [ver_sign q sum t (fun i hi => bitM_take t sum ht i hi) (keyB q), if_pos rfl] at h1
    exact h1))
  have HCONG := Lib.hid (fun t (ht : t.take 4 = sum.take 4) => signL_congr q t sum (fun i hi => bitM_take t sum ht i hi))
  have hsgl : (signL q sum 32).length = 2048 := signL_length q sum 32
  have hol : (bytesV (keyB q)).length = 32 := by rw [bytesV_length, keyB_length]
  have hob := bytesV_one (keyB q)
  have hmv : (bytesV more).length = 28 := by rw [bytesV_length, hml]
  have HMV := Lib.hid (fun j (hj : j < 28) => bytesV_at more j (by omega))
  have hu3 := Tryd.underlying23
  have hsz3 : (Tryd.prog.info? 23).map (·.size) = some (bytesV sum).length := by rw [hsv]; kernel_rfl
  have hsvo := bytesV_one sum
  obtain ⟨sv, hsvq⟩ : ∃ sv, sv = bytesV sum := ⟨_, rfl⟩
  rw [← hsvq] at hsv hsz3 hsvo ⊢
  obtain ⟨mv, hmvq⟩ : ∃ mv, mv = bytesV more := ⟨_, rfl⟩
  rw [← hmvq] at hmv HMV ⊢
  have HSVQ := Lib.hid hsvq
  clear hsvq hmvq
  go_enter Tryd.func6, Tryd.ntmps6
  go_upto_region 1 with (fail)
  show Code.wp _ _ _ _ ((w.alloc (.cells sv.toArray 23)).alloc (.cells mv.toArray 44))
  have BM : Blk ((w.alloc (.cells sv.toArray 23)).alloc (.cells mv.toArray 44)) w.heap.size 23 sv := (Blk.new w _ sv.toArray).alloc _
  have BP : Blk ((w.alloc (.cells sv.toArray 23)).alloc (.cells mv.toArray 44)) (w.heap.size + 1) 44 mv := Blk.new' _ _ mv.toArray _ (by simp)
  have x1 : Ext [] w ((w.alloc (.cells sv.toArray 23)).alloc (.cells mv.toArray 44)) := ((Ext.refl _ _).alloc _).alloc _
  have hs1 : ((w.alloc (.cells sv.toArray 23)).alloc (.cells mv.toArray 44)).heap.size = w.heap.size + 1 + 1 := by simp
  generalize ((w.alloc (.cells sv.toArray 23)).alloc (.cells mv.toArray 44)) = w1 at *
  go_upto_region 2 with (fail)
  rw [HIF.out]
  simp only [Int.toNat_natCast]
  clear p1 p2 HIF
  have HS1 := Lib.hid hs1
  clear hs1
  go_wp2_with (with_reducible refine wpList_ldpart rfl 23 (.tmp 4) rfl w.heap.size 0 rfl sv _ BM.part hu3 rfl hsz3 ?_)
  refine upon_strow w1.heap.size 0 23 _ sv (Blk.new w1 23 (bytesV (List.replicate 32 0)).toArray) (by rw [hsv]; simp [bytesV]) hsvo ?_
  intro w2 H2 x2 hs2
  clear hs2
  have e9 : (bytesV (List.replicate 32 0)).take 0 ++ sv ++ (bytesV (List.replicate 32 0)).drop (0 + sv.length) = sv := by
    rw [hsv, List.take_zero, List.nil_append, List.drop_of_length_le (by simp [bytesV]), List.append_nil]
  have H2 : Blk w2 w1.heap.size 23 sv := e9 ▸ H2
  have x12 : Ext [] w1 w2 := ((Ext.refl [] w1).alloc _).trans' x2 (by simp)
  clear e9 x2
  obtain ⟨bo, hbo⟩ : ∃ bo, bo = w1.heap.size := ⟨_, rfl⟩
  rw [← hbo] at H2 ⊢
  have hbo1 : w1.heap.size ≤ bo := by omega
  clear hbo
  have BM2 := BM.ext x12 (by simp)
  have BP2 := BP.ext x12 (by simp)
  have HSE := Lib.hid (show bytesV sum = sv from HSVQ.out.symm)
  go_wp2_with fail
  go_loopw [8] (fun i wr => ∃ (k : Nat) (os : List UInt8), k ≤ 28 ∧ i = .int .i64 (k : Int) ∧ Blk wr bo 23 (bytesV os) ∧ os.length = 32 ∧ os.take 4 = sum.take 4 ∧ Ext [bo] w2 wr) (fun i _ => 28 - (intOf i).toNat)
  case atStart => exact ⟨0, sum, by omega, rfl, by rw [HSE.out]; exact H2, hsl, rfl, Ext.refl _ _⟩
  case round =>
    obtain ⟨k, os, hk, rfl, H, hosl, host, x⟩ := hrel
    have hbm : w.heap.size ≠ bo := by have := BM.lt; omega
    have hbp : w.heap.size + 1 ≠ bo := by have := BP.lt; omega
    by_cases hlt : k < 28
    · have cM := (BP2.ext x (by simpa using hbp)).cell k
      rw [HMV.out k hlt] at cM
      have cO := H.cell (4 + k)
      rw [bytesV_at os (4 + k) (by omega)] at cO
      have fO := H.frozen (4 + k)
      have HX := Lib.hid (show bits .xor .u8 ((os.getD (4 + k) 0).toNat : Int) ((more.getD k 0).toNat : Int) = (((os.getD (4 + k) 0) ^^^ (more.getD k 0)).toNat : Int) by
        rw [u8_xor_nat _ _ (UInt8.toNat_lt _) (UInt8.toNat_lt _), UInt8.toNat_xor])
      have hO8 := UInt8.toNat_lt (os.getD (4 + k) 0)
      have hM8 := UInt8.toNat_lt (more.getD k 0)
      have HSET := Lib.hid (fun z => (H.set (4 + k) (.int .u8 z)).drew)
      have HBS := Lib.hid (fun y => bytesV_set os (4 + k) y)
      have HTK := Lib.hid (show ∀ y, (os.set (4 + k) y).take 4 = sum.take 4 from fun y => by rw [← host, List.take_set_of_le (by omega)])
      generalize os.getD (4 + k) 0 = oc at *
      generalize more.getD k 0 = mc at *
      have e1 : IntKind.i64.wrap (4 + (k : Int)) = 4 + (k : Int) := IntWalk.i64_in _ (by omega)
      have e2 : (0 : Int) ≤ 4 + (k : Int) := by omega
      have e3 : 4 + (k : Int) < 32 := by omega
      have e4 : (4 + (k : Int)).toNat = 4 + k := by omega
      have HOL := Lib.hid hosl
      have hx9 := HX.out
      clear hosl host H
      go_wp2_with fail
      go_region
      go_wp2_with fail
      go_roundw
      case rel =>
        refine ⟨k + 1, os.set (4 + k) (oc ^^^ mc), by omega, by go_num, ?_, by rw [List.length_set]; exact HOL.out, HTK.out _, (x.setCell (.inl (by simp)) _).drew⟩
        rw [← HBS.out, UInt8.toNat_xor]
        exact HSET.out _
      case measure => simp [intOf]; omega
    · have y := x12.trans' x (by intro i hi; simp at hi; subst hi; exact .inr hbo1)
      have yw := x1.trans y
      have BMr := BM2.ext x (by simpa using hbm)
      have HS1 := Lib.hid (HSIGN.out sum wr yw hsl)
      have HSO := Lib.hid (fun w' (x' : Ext [] w w') => HSIGN.out os w' x' hosl)
      have HVO := Lib.hid (fun v w' (x' : Ext [] w w') h => HVER.out os v w' x' hosl host h)
      have HVS := Lib.hid (fun v w' (x' : Ext [] w w') h => HVER.out sum v w' x' hsl rfl h)
      rw [HSE.out] at HS1 HVS
      rw [HCONG.out os host] at HSO
      have hovl : (bytesV os).length = 32 := by rw [bytesV_length, hosl]
      generalize signL q sum 32 = SG at *
      generalize bytesV (keyB q) = kv at *
      generalize bytesV os = ov at *
      clear hosl host HSIGN HVER HCONG BM BM2 BP BP2 x12 x H2 HMV
      go_wp2_with (with_reducible refine wpList_ldpart rfl 23 (.tmp 4) rfl w.heap.size 0 rfl sv _ BMr.part hu3 rfl hsz3 ?_)
      refine HS1.out.mono ?_
      rintro e w3 ⟨v3, rfl, hown3, x3, -⟩
      rw [hsgl] at hown3
      obtain ⟨g3, c3, cur3, rfl, -, -, -, -, -⟩ := owns_some hown3 (by omega)
      have y3 := yw.trans x3
      have HK1 := Lib.hid (HKEY.out w3 y3)
      clear HS1 y
      go_wp2_with fail
      refine HK1.out.mono ?_
      rintro e w4 ⟨rfl, x4⟩
      go_wp2_with fail
      refine upon_strow w4.heap.size 0 23 _ kv (Blk.new w4 23 (bytesV (List.replicate 32 0)).toArray) (by rw [hol]; simp [bytesV]) hob ?_
      intro w5 H5 x5 hs5
      clear hs5
      have e9 : (bytesV (List.replicate 32 0)).take 0 ++ kv ++ (bytesV (List.replicate 32 0)).drop (0 + kv.length) = kv := by
        rw [hol, List.take_zero, List.nil_append, List.drop_of_length_le (by simp [bytesV]), List.append_nil]
      have H5 : Blk w5 w4.heap.size 23 kv := e9 ▸ H5
      have x45 : Ext [] w4 w5 := ((Ext.refl [] w4).alloc _).trans' x5 (by simp)
      clear e9 x5
      generalize w4.heap.size = bk at *
      have x35 := x4.trans x45
      have y5 := y3.trans x35
      have BM5 := BMr.ext (x3.trans x35) (by simp)
      have BO5 := H.ext (x3.trans x35) (by simp)
      have hown5 := owns_ext hown3 x35 (by simp)
      have HOW := Lib.hid (fun w' (x : Ext [] w5 w') => owns_ext hown5 x (by simp))
      have HCV := Lib.hid (fun w' (x : Ext [] w5 w') => conv_own hsgl.symm (owns_ext hown5 x (by simp)))
      have hszk : (Tryd.prog.info? 23).map (·.size) = some kv.length := by rw [hol]; kernel_rfl
      have hszo : (Tryd.prog.info? 23).map (·.size) = some ov.length := by rw [hovl]; kernel_rfl
      clear hown3 hown5 x3 x4 x45 x35 y3 BMr H HK1 HKEY HC HSVQ HSE
      have z5 : Ext [] w5 w5.drew := (Ext.refl _ _).drew
      go_upto_region 9 with (fail)
      refine wp_region_held_drew (S := fun w' => Ext [] w5 w') (by kernel_rfl) z5 (fun hS => ?_)
      refine wpAnyH_ready (rs := [0]) (by kernel_rfl) (by simp) ?_
      refine AllReadyH.cons (o := ⟨some 35, _, _, _, _, _⟩) rfl (fun K hK => ?_) AllReadyH.nil
      go_simp
      refine (lsigns_any _ (HG.out _ (y5.trans hS))).mono ?_
      rintro e W0 ⟨rfl, x10⟩
      go_simp
      have hk := hS.trans x10
      refine hK.out _ _ hk (fun hS => ?_)
      clear hK K
      try simp only [Act.put, List.setIfInBounds_toArray, List.set_cons_zero, List.set_cons_succ]
      refine wpAnyH_take (i := 1) (oi := ⟨some 36, _, _, _, _, _⟩) (v := ?_) rfl (by kernel_rfl) (by kernel_rfl) (by kernel_rfl) (fun _ _ _ h => h) (Or.inl ⟨by rfl, ?_⟩) (by assumption) ?_
      rotate_left 1
      · (intro w hSw; (try dsimp only at hSw); go_split_ands; go_simp; (try with_reducible rfl))
      try simp only [Act.put, List.setIfInBounds_toArray, List.set_cons_zero, List.set_cons_succ]
      refine wpAnyH_take (i := 2) (oi := ⟨some 37, _, _, _, _, _⟩) (v := ?_) rfl (by kernel_rfl) (by kernel_rfl) (by kernel_rfl) (fun _ _ _ h => h) (Or.inl ⟨by rfl, ?_⟩) (by assumption) ?_
      rotate_left 1
      · (intro w hSw; (try dsimp only at hSw); go_split_ands; go_simp; (try with_reducible rfl))
      try simp only [Act.put, List.setIfInBounds_toArray, List.set_cons_zero, List.set_cons_succ]
      refine wpAnyH_take (i := 3) (oi := ⟨some 38, _, _, _, _, _⟩) (v := ?_) rfl (by kernel_rfl) (by kernel_rfl) (by kernel_rfl) (fun _ _ _ h => h) (Or.inl ⟨by rfl, ?_⟩) (by assumption) ?_
      rotate_left 1
      · (intro w hSw; (try dsimp only at hSw); go_split_ands; have hcv := HCV.out w (by assumption); go_simp; (try with_reducible rfl))
      try simp only [Act.put, List.setIfInBounds_toArray, List.set_cons_zero, List.set_cons_succ]
      refine wpAnyH_take (i := 4) (oi := ⟨some 39, _, _, _, _, _⟩) (v := ?_) rfl (by kernel_rfl) (by kernel_rfl) (by kernel_rfl) (fun _ _ _ h => h) (Or.inl ⟨by rfl, ?_⟩) (by assumption) ?_
      rotate_left 1
      · (intro w hSw; (try dsimp only at hSw); go_split_ands; go_simp; (try with_reducible rfl))
      try simp only [Act.put, List.setIfInBounds_toArray, List.set_cons_zero, List.set_cons_succ]
      refine wpAnyH_take (i := 5) (oi := ⟨some 40, _, _, _, _, _⟩) (v := .agg ov.toArray) rfl (by kernel_rfl) (by kernel_rfl) (by kernel_rfl) (fun _ _ _ h => h) (yieldsIf_load_mid (by rfl) _ _ rfl bo 0 rfl ov _ (fun w h => range_of_blk3 (BO5.ext h (by simp))) hu3 rfl hszo) (by assumption) ?_
      try simp only [Act.put, List.setIfInBounds_toArray, List.set_cons_zero, List.set_cons_succ]
      refine wpAnyH_ready (rs := [6]) (by kernel_rfl) (by simp) ?_
      refine AllReadyH.cons (o := ⟨some 41, _, _, _, _, _⟩) rfl (fun K hK => ?_) AllReadyH.nil
      go_simp
      refine (HSO.out _ (y5.trans hS)).mono ?_
      rintro e W6 ⟨v6, rfl, hown6, x11, -⟩
      go_simp
      have hk := hS.trans x11
      rw [hsgl] at hown6
      obtain ⟨g6, c6, cur6, rfl, -, -, -, -, -⟩ := owns_some hown6 (by omega)
      have HCV6 := Lib.hid (conv_own hsgl.symm hown6)
      refine hK.out _ _ hk (fun hS => ?_)
      clear hK K
      try simp only [Act.put, List.setIfInBounds_toArray, List.set_cons_zero, List.set_cons_succ]
      refine wpAnyH_ready (rs := [7]) (by kernel_rfl) (by simp) ?_
      refine AllReadyH.cons (o := ⟨some 42, _, _, _, _, _⟩) rfl (fun K hK => ?_) AllReadyH.nil
      have hcv6 := HCV6.out
      go_simp
      refine hK.out _ _ hS (fun hS => ?_)
      clear hK K
      try simp only [Act.put, List.setIfInBounds_toArray, List.set_cons_zero, List.set_cons_succ]
      refine wpAnyH_take (i := 8) (oi := ⟨some 43, _, _, _, _, _⟩) (v := ?_) rfl (by kernel_rfl) (by kernel_rfl) (by kernel_rfl) (fun _ _ _ h => h) (Or.inl ⟨by rfl, ?_⟩) (by assumption) ?_
      rotate_left 1
      · (intro w hSw; (try dsimp only at hSw); go_split_ands; go_simp; (try with_reducible rfl))
      try simp only [Act.put, List.setIfInBounds_toArray, List.set_cons_zero, List.set_cons_succ]
      refine wpAnyH_take (i := 9) (oi := ⟨some 44, _, _, _, _, _⟩) (v := ?_) rfl (by kernel_rfl) (by kernel_rfl) (by kernel_rfl) (fun _ _ _ h => h) (Or.inl ⟨by rfl, ?_⟩) (by assumption) ?_
      rotate_left 1
      · (intro w hSw; (try dsimp only at hSw); go_split_ands; go_simp; (try with_reducible rfl))
      try simp only [Act.put, List.setIfInBounds_toArray, List.set_cons_zero, List.set_cons_succ]
      refine wpAnyH_take (i := 10) (oi := ⟨some 45, _, _, _, _, _⟩) (v := ?_) rfl (by kernel_rfl) (by kernel_rfl) (by kernel_rfl) (fun _ _ _ h => h) (Or.inl ⟨by rfl, ?_⟩) (by assumption) ?_
      rotate_left 1
      · (intro w hSw; (try dsimp only at hSw); go_split_ands; go_simp; (try with_reducible rfl))
      try simp only [Act.put, List.setIfInBounds_toArray, List.set_cons_zero, List.set_cons_succ]
      refine wpAnyH_take (i := 11) (oi := ⟨some 46, _, _, _, _, _⟩) (v := .agg kv.toArray) rfl (by kernel_rfl) (by kernel_rfl) (by kernel_rfl) (fun _ _ _ h => h) (yieldsIf_load_mid (by rfl) _ _ rfl bk 0 rfl kv _ (fun w h => range_of_blk3 (H5.ext h (by simp))) hu3 rfl hszk) (by assumption) ?_
      try simp only [Act.put, List.setIfInBounds_toArray, List.set_cons_zero, List.set_cons_succ]
      refine wpAnyH_take (i := 12) (oi := ⟨some 47, _, _, _, _, _⟩) (v := .agg ov.toArray) rfl (by kernel_rfl) (by kernel_rfl) (by kernel_rfl) (fun _ _ _ h => h) (yieldsIf_load_mid (by rfl) _ _ rfl bo 0 rfl ov _ (fun w h => range_of_blk3 (BO5.ext h (by simp))) hu3 rfl hszo) (by assumption) ?_
      try simp only [Act.put, List.setIfInBounds_toArray, List.set_cons_zero, List.set_cons_succ]
      refine wpAnyH_take (i := 13) (oi := ⟨some 48, _, _, _, _, _⟩) (v := ?_) rfl (by kernel_rfl) (by kernel_rfl) (by kernel_rfl) (fun _ _ _ h => h) (Or.inl ⟨by rfl, ?_⟩) (by assumption) ?_
      rotate_left 1
      · (intro w hSw; (try dsimp only at hSw); go_split_ands; go_simp; (try with_reducible rfl))
      try simp only [Act.put, List.setIfInBounds_toArray, List.set_cons_zero, List.set_cons_succ]
      refine wpAnyH_ready (rs := [14]) (by kernel_rfl) (by simp) ?_
      refine AllReadyH.cons (o := ⟨some 49, _, _, _, _, _⟩) rfl (fun K hK => ?_) AllReadyH.nil
      go_simp
      refine (HVO.out _ _ (y5.trans hS) (HOW.out _ hS)).mono ?_
      rintro e W14 ⟨rfl, x12⟩
      go_simp
      have hk := hS.trans x12
      refine hK.out _ _ hk (fun hS => ?_)
      clear hK K
      try simp only [Act.put, List.setIfInBounds_toArray, List.set_cons_zero, List.set_cons_succ]
      refine wpAnyH_take (i := 15) (oi := ⟨some 50, _, _, _, _, _⟩) (v := ?_) rfl (by kernel_rfl) (by kernel_rfl) (by kernel_rfl) (fun _ _ _ h => h) (Or.inl ⟨by rfl, ?_⟩) (by assumption) ?_
      rotate_left 1
      · (intro w hSw; (try dsimp only at hSw); go_split_ands; go_simp; (try with_reducible rfl))
      try simp only [Act.put, List.setIfInBounds_toArray, List.set_cons_zero, List.set_cons_succ]
      refine wpAnyH_take (i := 16) (oi := ⟨some 51, _, _, _, _, _⟩) (v := ?_) rfl (by kernel_rfl) (by kernel_rfl) (by kernel_rfl) (fun _ _ _ h => h) (Or.inl ⟨by rfl, ?_⟩) (by assumption) ?_
      rotate_left 1
      · (intro w hSw; (try dsimp only at hSw); go_split_ands; go_simp; (try with_reducible rfl))
      try simp only [Act.put, List.setIfInBounds_toArray, List.set_cons_zero, List.set_cons_succ]
      refine wpAnyH_take (i := 17) (oi := ⟨some 52, _, _, _, _, _⟩) (v := ?_) rfl (by kernel_rfl) (by kernel_rfl) (by kernel_rfl) (fun _ _ _ h => h) (Or.inl ⟨by rfl, ?_⟩) (by assumption) ?_
      rotate_left 1
      · (intro w hSw; (try dsimp only at hSw); go_split_ands; go_simp; (try with_reducible rfl))
      try simp only [Act.put, List.setIfInBounds_toArray, List.set_cons_zero, List.set_cons_succ]
      refine wpAnyH_take (i := 18) (oi := ⟨some 53, _, _, _, _, _⟩) (v := .agg kv.toArray) rfl (by kernel_rfl) (by kernel_rfl) (by kernel_rfl) (fun _ _ _ h => h) (yieldsIf_load_mid (by rfl) _ _ rfl bk 0 rfl kv _ (fun w h => range_of_blk3 (H5.ext h (by simp))) hu3 rfl hszk) (by assumption) ?_
      try simp only [Act.put, List.setIfInBounds_toArray, List.set_cons_zero, List.set_cons_succ]
      refine wpAnyH_take (i := 19) (oi := ⟨some 54, _, _, _, _, _⟩) (v := .agg sv.toArray) rfl (by kernel_rfl) (by kernel_rfl) (by kernel_rfl) (fun _ _ _ h => h) (yieldsIf_load_mid (by rfl) _ _ rfl w.heap.size 0 rfl sv _ (fun w h => range_of_blk3 (BM5.ext h (by simp))) hu3 rfl hsz3) (by assumption) ?_
      try simp only [Act.put, List.setIfInBounds_toArray, List.set_cons_zero, List.set_cons_succ]
      refine wpAnyH_take (i := 20) (oi := ⟨some 55, _, _, _, _, _⟩) (v := ?_) rfl (by kernel_rfl) (by kernel_rfl) (by kernel_rfl) (fun _ _ _ h => h) (Or.inl ⟨by rfl, ?_⟩) (by assumption) ?_
      rotate_left 1
      · (intro w hSw; (try dsimp only at hSw); go_split_ands; go_simp; (try with_reducible rfl))
      try simp only [Act.put, List.setIfInBounds_toArray, List.set_cons_zero, List.set_cons_succ]
      refine wpAnyH_ready (rs := [21]) (by kernel_rfl) (by simp) ?_
      refine AllReadyH.cons (o := ⟨some 56, _, _, _, _, _⟩) rfl (fun K hK => ?_) AllReadyH.nil
      go_simp
      refine (HVS.out _ _ (y5.trans hS) (HOW.out _ hS)).mono ?_
      rintro e W21 ⟨rfl, x13⟩
      go_simp
      have hk := hS.trans x13
      refine hK.out _ _ hk (fun hS => ?_)
      clear hK K
      try simp only [Act.put, List.setIfInBounds_toArray, List.set_cons_zero, List.set_cons_succ]
      refine wpAnyH_take (i := 22) (oi := ⟨some 57, _, _, _, _, _⟩) (v := ?_) rfl (by kernel_rfl) (by kernel_rfl) (by kernel_rfl) (fun _ _ _ h => h) (Or.inl ⟨by rfl, ?_⟩) (by assumption) ?_
      rotate_left 1
      · (intro w hSw; (try dsimp only at hSw); go_split_ands; go_simp; (try with_reducible rfl))
      try simp only [Act.put, List.setIfInBounds_toArray, List.set_cons_zero, List.set_cons_succ]
      refine wpAnyH_take (i := 23) (oi := ⟨some 58, _, _, _, _, _⟩) (v := ?_) rfl (by kernel_rfl) (by kernel_rfl) (by kernel_rfl) (fun _ _ _ h => h) (Or.inl ⟨by rfl, ?_⟩) (by assumption) ?_
      rotate_left 1
      · (intro w hSw; (try dsimp only at hSw); go_split_ands; go_simp; (try with_reducible rfl))
      try simp only [Act.put, List.setIfInBounds_toArray, List.set_cons_zero, List.set_cons_succ]
      refine wpAnyH_take (i := 24) (oi := ⟨some 6, _, _, _, _, _⟩) (v := ?_) rfl (by kernel_rfl) (by kernel_rfl) (by kernel_rfl) (fun _ _ _ h => h) (Or.inl ⟨by rfl, ?_⟩) (by assumption) ?_
      rotate_left 1
      · (intro w hSw; (try dsimp only at hSw); go_split_ands; go_simp; (try with_reducible rfl))
      try simp only [Act.put, List.setIfInBounds_toArray, List.set_cons_zero, List.set_cons_succ]
      refine wpAnyH_done (by kernel_rfl) ?_ _
      go_wp2_with fail
      go_ret
      exact ⟨rfl, y5.trans hS⟩
end Go.Proofs.YtlgihbbcieceoaaDoor
