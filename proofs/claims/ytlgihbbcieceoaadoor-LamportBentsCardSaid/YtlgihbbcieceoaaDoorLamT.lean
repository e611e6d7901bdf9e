/- The document's answer of layer 2: Key, Sign. -/
import Derived.Test.YtlgihbbcieceoaaDoorLamS
import Derived.Test.YtlgihbbcieceoaaDoorLamB
namespace Go.Proofs.YtlgihbbcieceoaaDoor
open Go.RowKit
set_option maxRecDepth 100000

def keyI (seed : List UInt8) (k j : Nat) : List UInt8 := keyL seed k ++ ((List.range j).map fun b => sumOf (secB seed k b)).flatten
theorem keyI_zero (seed : List UInt8) (k : Nat) : keyI seed k 0 = keyL seed k := by simp [keyI]
theorem keyI_two (seed : List UInt8) (k : Nat) : keyI seed k 2 = keyL seed (k + 1) := by rw [keyL_succ]; simp [keyI, List.range_succ]
theorem keyI_succ (seed : List UInt8) (k j : Nat) : keyI seed k (j + 1) = keyI seed k j ++ sumOf (secB seed k j) := by simp [keyI, List.range_succ]
theorem keyI_length (seed : List UInt8) (k : Nat) : ∀ j, (keyI seed k j).length = 64 * k + 32 * j
  | 0 => by rw [keyI_zero, keyL_length]; omega
  | j + 1 => by rw [keyI_succ, List.length_append, keyI_length seed k j, sumOf_length]; omega

set_option maxHeartbeats 8000000 in
theorem r2key (v : Value) (seed : List UInt8) (w : World) (hr : Reads w v 1 seed.length (bytesV seed)) (hl : seed.length ≤ 1000) :
    Calls Tryd.prog 12 #[.agg (V32 (Ks ++ begin0.list)).toArray, v] w fun e w' => e = .returned (.agg (bytesV (keyB seed)).toArray) ∧ Ext [] w w' := by
  obtain ⟨i0, hi, hz0, hz1, hz2⟩ := info_parts info_byte
  have HSEC := Lib.hid (fun i b w' (x : Ext [] w w') hi hb => r2secret v seed i b w' (hr.ext x) hl hi hb)
  have HLEAF := Lib.hid (fun v b w' hr hl => r2leaf v b w' hr hl)
  have HSUM := Lib.hid (fun v b w' hr hl => roots_sum v b w' hr hl)
  obtain ⟨ao, c, rfl, -, -, -⟩ := hr
  have hRl : (V32 (Ks ++ begin0.list)).length = 72 := rfl
  generalize V32 (Ks ++ begin0.list) = rt at *
  have HKB := Lib.hid (show keyB seed = sumOf (keyL seed 32) from rfl)
  have hol : (bytesV (keyB seed)).length = 32 := by rw [bytesV_length]; exact sumOf_length _
  have hob := bytesV_one (keyB seed)
  rw [← HKB.out] at HKB
  generalize hkb : keyB seed = KB at *
  have HKQ := Lib.hid (show sumOf (keyL seed 32) = KB from hkb)
  clear hkb HKB
  have hu := Tryd.underlying28
  have hsz : (Tryd.prog.info? 28).map (·.size) = some rt.length := by rw [hRl]; kernel_rfl
  go_enter Tryd.func12, Tryd.ntmps12
  go_upto_region 1 with (fail)
  show Code.wp _ _ _ _ ((w.alloc (.cells rt.toArray 28)).alloc (.cells (bytesV (List.replicate 32 0)).toArray 23))
  have BR : Blk ((w.alloc (.cells rt.toArray 28)).alloc (.cells (bytesV (List.replicate 32 0)).toArray 23)) w.heap.size 28 rt := (Blk.new w _ rt.toArray).alloc _
  have BO : Blk ((w.alloc (.cells rt.toArray 28)).alloc (.cells (bytesV (List.replicate 32 0)).toArray 23)) (w.heap.size + 1) 23 (bytesV (List.replicate 32 0)) := Blk.new' _ _ (bytesV (List.replicate 32 0)).toArray _ (by simp)
  have x1 : Ext [] w ((w.alloc (.cells rt.toArray 28)).alloc (.cells (bytesV (List.replicate 32 0)).toArray 23)) := ((Ext.refl _ _).alloc _).alloc _
  generalize ((w.alloc (.cells rt.toArray 28)).alloc (.cells (bytesV (List.replicate 32 0)).toArray 23)) = w1 at *
  go_wp2_with fail
  go_loopw [5, 6] (fun u i wr => ∃ k : Nat, k ≤ 32 ∧ i = .int .i64 (k : Int) ∧ wr.ownsRow 0 5 1 u (keyL seed k).length (bytesV (keyL seed k)) ∧ Ext [] w1 wr ∧ ∀ g, u.ownBlock = some g → w1.heap.size ≤ g) (fun _ i _ => 32 - (intOf i).toNat)
  case atStart => exact ⟨0, by omega, rfl, by simpa [bytesV, keyL] using World.ownsRow_nil _ _ _ _, Ext.refl _ _, fun g h => by cases h⟩
  case round =>
    obtain ⟨wo, rfl⟩ : ∃ wo : World, wo = wr := ⟨_, rfl⟩
    obtain ⟨k, hk, rfl, hown, x, fr⟩ := hrel
    by_cases hlt : k < 32
    · rw [← keyI_zero] at hown
      have HK2 := Lib.hid (keyI_two seed k)
      have HKS := Lib.hid (keyI_succ seed k)
      have HKL := Lib.hid (keyI_length seed k)
      have HSE := Lib.hid (fun b w' (x' : Ext [] w1 w') hb => HSEC.out k b w' (x1.trans x') hlt hb)
      have HSL := Lib.hid (fun b => secB_length seed k b)
      obtain ⟨va0, vc0, rfl⟩ := owns_slice hown
      have d1 : decide ((k : Int) < 32) = true := decide_eq_true (by omega)
      go_wp2_with fail
      go_loopw [5, 7] (fun u i wr => ∃ j : Nat, j ≤ 2 ∧ i = .int .i64 (j : Int) ∧ wr.ownsRow 0 5 1 u (keyI seed k j).length (bytesV (keyI seed k j)) ∧ Ext [] w1 wr ∧ ∀ g, u.ownBlock = some g → w1.heap.size ≤ g) (fun _ i _ => 2 - (intOf i).toNat)
      case atStart => exact ⟨0, by omega, rfl, hown, x, fr⟩
      case round =>
        clear hown x fr
        obtain ⟨j, hj, rfl, hown, x, fr⟩ := hrel
        obtain ⟨va, vc, rfl⟩ := owns_slice hown
        have hIl := HKL.out j
        by_cases hlt2 : j < 2
        · have HS0 := Lib.hid (fun w' (x' : Ext [] w1 w') => HSE.out j w' x' hlt2)
          have HKN := Lib.hid (HKS.out j)
          have hs0 := HSL.out j
          generalize secB seed k j = s0 at *
          have hLk : (keyI seed k j).length ≤ 2048 := by omega
          clear hIl
          generalize keyI seed k j = L at *
          have x0 : Ext [] w1 wr.drew := x.drew
          go_upto_region 8 with (fail)
          refine wp_region_held_drew (S := fun w' => Ext [] w1 w') (by kernel_rfl) x0 (fun _ => ?_)
          refine wpAnyH_take (i := 0) (oi := ⟨some 16, _, _, _, _, _⟩) (v := ?_) rfl (by kernel_rfl) (by kernel_rfl) (by kernel_rfl) (fun _ _ _ h => h) (Or.inl ⟨by rfl, ?_⟩) (by assumption) ?_
          rotate_left 1
          · (intro w hSw; (try dsimp only at hSw); go_split_ands; go_simp; (try with_reducible rfl))
          try simp only [Act.put, List.setIfInBounds_toArray, List.set_cons_zero, List.set_cons_succ]
          refine wpAnyH_take (i := 1) (oi := ⟨some 17, _, _, _, _, _⟩) (v := .agg rt.toArray) rfl (by kernel_rfl) (by kernel_rfl) (by kernel_rfl) (fun _ _ _ h => h) (yieldsIf_load_mid (by rfl) _ _ rfl w.heap.size 0 rfl rt _ (fun w h => range_of_blk' (BR.ext h (by simp))) hu rfl hsz) (by assumption) ?_
          try simp only [Act.put, List.setIfInBounds_toArray, List.set_cons_zero, List.set_cons_succ]
          refine wpAnyH_take (i := 2) (oi := ⟨some 18, _, _, _, _, _⟩) (v := .agg rt.toArray) rfl (by kernel_rfl) (by kernel_rfl) (by kernel_rfl) (fun _ _ _ h => h) (yieldsIf_load_mid (by rfl) _ _ rfl w.heap.size 0 rfl rt _ (fun w h => range_of_blk' (BR.ext h (by simp))) hu rfl hsz) (by assumption) ?_
          try simp only [Act.put, List.setIfInBounds_toArray, List.set_cons_zero, List.set_cons_succ]
          refine wpAnyH_take (i := 3) (oi := ⟨some 19, _, _, _, _, _⟩) (v := ?_) rfl (by kernel_rfl) (by kernel_rfl) (by kernel_rfl) (fun _ _ _ h => h) (Or.inl ⟨by rfl, ?_⟩) (by assumption) ?_
          rotate_left 1
          · (intro w hSw; (try dsimp only at hSw); go_split_ands; go_simp; (try with_reducible rfl))
          try simp only [Act.put, List.setIfInBounds_toArray, List.set_cons_zero, List.set_cons_succ]
          refine wpAnyH_take (i := 4) (oi := ⟨some 20, _, _, _, _, _⟩) (v := ?_) rfl (by kernel_rfl) (by kernel_rfl) (by kernel_rfl) (fun _ _ _ h => h) (Or.inl ⟨by rfl, ?_⟩) (by assumption) ?_
          rotate_left 1
          · (intro w hSw; (try dsimp only at hSw); go_split_ands; go_simp; (try with_reducible rfl))
          try simp only [Act.put, List.setIfInBounds_toArray, List.set_cons_zero, List.set_cons_succ]
          refine wpAnyH_take (i := 5) (oi := ⟨some 21, _, _, _, _, _⟩) (v := ?_) rfl (by kernel_rfl) (by kernel_rfl) (by kernel_rfl) (fun _ _ _ h => h) (Or.inl ⟨by rfl, ?_⟩) (by assumption) ?_
          rotate_left 1
          · (intro w hSw; (try dsimp only at hSw); go_split_ands; go_simp; (try with_reducible rfl))
          try simp only [Act.put, List.setIfInBounds_toArray, List.set_cons_zero, List.set_cons_succ]
          refine wpAnyH_ready (rs := [6]) (by kernel_rfl) (by simp) ?_
          refine AllReadyH.cons (o := ⟨some 22, _, _, _, _, _⟩) rfl (fun K hK => ?_) AllReadyH.nil
          go_simp
          refine (HS0.out _ x0).mono ?_
          rintro e W6 ⟨u6, rfl, h6, x6⟩
          go_simp
          have hk := x0.trans x6
          refine hK.out _ _ hk (fun _ => ?_)
          clear hK K
          try simp only [Act.put, List.setIfInBounds_toArray, List.set_cons_zero, List.set_cons_succ]
          refine wpAnyH_ready (rs := [7]) (by kernel_rfl) (by simp) ?_
          refine AllReadyH.cons (o := ⟨some 23, _, _, _, _, _⟩) rfl (fun K hK => ?_) AllReadyH.nil
          go_simp
          refine (HLEAF.out u6 s0 _ h6.reads (by omega)).mono ?_
          rintro e W7 ⟨u7, rfl, h7, x7⟩
          go_simp
          have hk := (x0.trans x6).trans x7
          have hl7 : (sumOf s0).length = 32 := sumOf_length _
          generalize sumOf s0 = l0 at *
          obtain ⟨g7, rfl, B7, hg7, -⟩ := h7
          have hown7 := owns_ext hown (((Ext.refl _ _).drew).trans (x6.trans x7)) (by simp)
          refine hK.out _ _ hk (fun _ => ?_)
          clear hK K
          try simp only [Act.put, List.setIfInBounds_toArray, List.set_cons_zero, List.set_cons_succ]
          refine wpAnyH_ready (rs := [8]) (by kernel_rfl) (by simp) ?_
          refine AllReadyH.cons (o := ⟨some 24, _, _, _, _, _⟩) rfl (fun K hK => ?_) AllReadyH.nil
          refine step_app _ rfl (.tmp 16) (.tmp 23) 22 rfl 5 i0 (.int .u8 0) 1 1 Tryd.underlying22 hi hz0 hz1 hz2 rfl (by decide) (.slice va L.length vc) L.length (bytesV L) rfl hown7 (.slice (some ⟨g7, 0, none⟩) 32 32) 32 (bytesV l0) rfl (blk_reads B7 32 (by rw [bytesV_length, hl7])) (bytesV_one l0) (by unfold maxLen; omega) (by omega) ?_
          intro v8 w8 hown8 hgrow8 hfr8 _
          have x67 := (x0.trans x6).trans x7
          have fr8 := own_fresh x67 fr hgrow8 hfr8
          have x8 := x67.grown hgrow8 (by intro g hg; exact .inr (fr g hg))
          rw [← bytesV_append, show L.length + 32 = (L ++ l0).length by rw [List.length_append, hl7], ← HKN.out] at hown8
          clear hgrow8 hfr8
          refine hK.out _ _ x8 (fun _ => ?_)
          clear hK K
          try simp only [Act.put, List.setIfInBounds_toArray, List.set_cons_zero, List.set_cons_succ]
          refine wpAnyH_take (i := 9) (oi := ⟨some 5, _, _, _, _, _⟩) (v := ?_) rfl (by kernel_rfl) (by kernel_rfl) (by kernel_rfl) (fun _ _ _ h => h) (Or.inl ⟨by rfl, ?_⟩) (by assumption) ?_
          rotate_left 1
          · (intro w hSw; (try dsimp only at hSw); go_split_ands; go_simp; (try with_reducible rfl))
          try simp only [Act.put, List.setIfInBounds_toArray, List.set_cons_zero, List.set_cons_succ]
          refine wpAnyH_done (by kernel_rfl) ?_ _
          go_wp2_with fail
          go_roundw
          case rel => exact ⟨j + 1, by omega, by go_num, hown8, x8, fr8⟩
          case measure => simp [intOf]; omega
        · obtain rfl : j = 2 := by omega
          rw [HK2.out] at hown fr ⊢
          have HX2 := Lib.hid (And.intro hown (And.intro x fr))
          clear hown x fr hIl
          go_wp2_with fail
          go_roundw
          case rel => exact ⟨k + 1, by omega, by go_num, HX2.out.1, HX2.out.2.1, HX2.out.2.2⟩
          case measure => simp [intOf]; omega
    · obtain rfl : k = 32 := by omega
      have hkl := keyL_length seed 32
      have hrd := owns_reads hown
      obtain ⟨va, vc, rfl⟩ := owns_slice hown
      have HS := Lib.hid (HSUM.out _ _ wo hrd (by omega))
      rw [HKQ.out] at HS
      have BRx := BR.ext x (by simp)
      have BOx := BO.ext x (by simp)
      clear hrd hown fr BR BO
      go_wp2_with (with_reducible refine wpList_ldpart rfl 28 (.tmp 2) rfl w.heap.size 0 rfl rt _ BRx.part Tryd.underlying28 rfl hsz ?_)
      refine HS.out.mono ?_
      rintro e w9 ⟨rfl, x9⟩
      have BO9 := BOx.ext x9 (by simp)
      generalize hov : bytesV KB = ov at *
      go_wp2_with fail
      refine upon_strow (w.heap.size + 1) 0 23 _ ov BO9 (by rw [hol]; simp [bytesV]) hob ?_
      intro w10 H10 x10 _
      have e9 : (bytesV (List.replicate 32 0)).take 0 ++ ov ++ (bytesV (List.replicate 32 0)).drop (0 + ov.length) = ov := by
        rw [hol, List.take_zero, List.nil_append, List.drop_of_length_le (by simp [bytesV]), List.append_nil]
      rw [e9] at H10
      go_wp2_with fail
      refine bodyPost_ret (results_blk Tryd.results12 _ _ (w.heap.size + 1) 23 ov _ rfl H10 Tryd.underlying23 rfl (by rw [hol]; kernel_rfl)) rfl ?_
      exact ⟨by rw [hov], (x1.trans (x.trans x9)).trans' x10 (by simp)⟩

set_option maxHeartbeats 8000000 in
theorem r2sign (v : Value) (seed sum : List UInt8) (w : World) (hr : Reads w v 1 seed.length (bytesV seed)) (hl : seed.length ≤ 1000) (hsum : sum.length = 32) :
    Calls Tryd.prog 13 #[.agg (V32 (Ks ++ begin0.list)).toArray, v, .agg (bytesV sum).toArray] w fun e w' => BytesPost w (signL seed sum 32) e w' := by
  obtain ⟨i0, hi, hz0, hz1, hz2⟩ := info_parts info_byte
  have HSEC := Lib.hid (fun i b w' (x : Ext [] w w') hi hb => r2secret v seed i b w' (hr.ext x) hl hi hb)
  have HLEAF := Lib.hid (fun v b w' hr hl => r2leaf v b w' hr hl)
  have HBIT := Lib.hid (fun i w' hi => r2bit sum i w' hsum hi)
  obtain ⟨ao, c, rfl, -, -, -⟩ := hr
  have hRl : (V32 (Ks ++ begin0.list)).length = 72 := rfl
  generalize V32 (Ks ++ begin0.list) = rt at *
  have hsl : (bytesV sum).length = 32 := by rw [bytesV_length, hsum]
  obtain ⟨sv, hsv⟩ : ∃ sv, sv = bytesV sum := ⟨_, rfl⟩
  rw [← hsv] at HBIT hsl ⊢
  clear hsv
  have hu := Tryd.underlying28
  have hsz : (Tryd.prog.info? 28).map (·.size) = some rt.length := by rw [hRl]; kernel_rfl
  have hsz3 : (Tryd.prog.info? 23).map (·.size) = some sv.length := by rw [hsl]; kernel_rfl
  go_enter Tryd.func13, Tryd.ntmps13
  go_upto_region 1 with (fail)
  show Code.wp _ _ _ _ ((w.alloc (.cells rt.toArray 28)).alloc (.cells sv.toArray 23))
  have BR : Blk ((w.alloc (.cells rt.toArray 28)).alloc (.cells sv.toArray 23)) w.heap.size 28 rt := (Blk.new w _ rt.toArray).alloc _
  have BM : Blk ((w.alloc (.cells rt.toArray 28)).alloc (.cells sv.toArray 23)) (w.heap.size + 1) 23 sv := Blk.new' _ _ sv.toArray _ (by simp)
  have x1 : Ext [] w ((w.alloc (.cells rt.toArray 28)).alloc (.cells sv.toArray 23)) := ((Ext.refl _ _).alloc _).alloc _
  generalize ((w.alloc (.cells rt.toArray 28)).alloc (.cells sv.toArray 23)) = w1 at *
  have HPOST := Lib.hid (show ∀ v' w', w'.ownsRow 0 5 1 v' (signL seed sum 32).length (bytesV (signL seed sum 32)) → Ext [] w1 w' → (∀ g, v'.ownBlock = some g → w1.heap.size ≤ g) → BytesPost w (signL seed sum 32) (.returned v') w' from fun v' w' h x h3 => ⟨v', rfl, h, x1.trans x, fun g hg => Nat.le_trans x1.size (h3 g hg)⟩)
  go_wp2_with fail
  go_loopw [7, 8] (fun u i wr => ∃ k : Nat, k ≤ 32 ∧ i = .int .i64 (k : Int) ∧ wr.ownsRow 0 5 1 u (signL seed sum k).length (bytesV (signL seed sum k)) ∧ Ext [] w1 wr ∧ ∀ g, u.ownBlock = some g → w1.heap.size ≤ g) (fun _ i _ => 32 - (intOf i).toNat)
  case atStart => exact ⟨0, by omega, rfl, by simpa [bytesV, signL] using World.ownsRow_nil _ _ _ _, Ext.refl _ _, fun g h => by cases h⟩
  case round =>
    obtain ⟨k, hk, rfl, hown, x, fr⟩ := hrel
    obtain ⟨va, vc, rfl⟩ := owns_slice hown
    have hkl := signL_length seed sum k
    by_cases hlt : k < 32
    · have HB := Lib.hid (fun w' => HBIT.out k w' hlt)
      have hbl := bitM_lt sum k
      have HS0 := Lib.hid (fun w' (x' : Ext [] w1 w') => HSEC.out k (bitM sum k) w' (x1.trans x') hlt (bitM_lt sum k))
      have HS1 := Lib.hid (fun w' (x' : Ext [] w1 w') => HSEC.out k (1 - bitM sum k) w' (x1.trans x') hlt (by omega))
      have HKS := Lib.hid (signL_succ seed sum k)
      have hs0 := secB_length seed k (bitM sum k)
      have hs1 := secB_length seed k (1 - bitM sum k)
      have hLk : (signL seed sum k).length ≤ 2048 := by omega
      generalize secB seed k (bitM sum k) = s0 at *
      generalize secB seed k (1 - bitM sum k) = s1 at *
      generalize bitM sum k = R at *
      clear hkl
      generalize signL seed sum k = L at *
      have hR1 : ((1 - R : Nat) : Int) = 1 - (R : Int) := by omega
      rw [hR1] at HS1
      clear hR1
--<A
      have BRx := BR.ext x (by simp)
      have BMx := BM.ext x (by simp)
      go_wp2_with (with_reducible refine wpList_ldpart rfl 23 (.tmp 5) rfl (w.heap.size + 1) 0 rfl sv _ BMx.part Tryd.underlying23 rfl hsz3 ?_)
      refine (HB.out wr).mono ?_
      rintro e w2 ⟨rfl, x2⟩
      have y2 := x.trans x2
      have BR2 := BRx.ext x2 (by simp)
      have hown2 := owns_ext hown x2 (by simp)
      clear x2 BRx BMx hown
      go_wp2_with (with_reducible refine wpList_ldpart rfl 28 (.tmp 3) rfl w.heap.size 0 rfl rt _ BR2.part Tryd.underlying28 rfl hsz ?_)
      refine (HS0.out w2 y2).mono ?_
      rintro e w3 ⟨u3, rfl, h3, x3⟩
      obtain ⟨g3, rfl, B3, hg3, -⟩ := h3
      have hown3 := owns_ext hown2 x3 (by simp)
      have y3 := y2.trans x3
      clear x3 hown2 BR2 y2 x
      go_upto_region 7 with (at_builtin; go_must (refine wpList_app _ rfl (.tmp 17) (.tmp 22) 22 rfl 5 i0 (.int .u8 0) 1 1 Tryd.underlying22 hi hz0 hz1 hz2 rfl (by decide) (.slice va L.length vc) L.length (bytesV L) rfl hown3 (.slice (some ⟨g3, 0, none⟩) 32 32) 32 (bytesV s0) rfl (blk_reads B3 32 (by rw [bytesV_length, hs0])) (bytesV_one s0) (by unfold maxLen; omega) (by omega) ?_); intro v4 w4 hown4 hgrow4 hfr4 _)
      rw [← bytesV_append] at hown4
      have fr4 := own_fresh y3 fr hgrow4 hfr4
      have y4 := y3.grown hgrow4 (by intro g hg; exact .inr (fr g hg))
      obtain ⟨a4, c4, rfl⟩ := owns_slice hown4
      clear hgrow4 hfr4 y3 fr B3 hown3
      have x0 : Ext [] w1 w4.drew := y4.drew
      have hwr : IntKind.i64.wrap (1 - (R : Int)) = 1 - (R : Int) := IntWalk.i64_in _ (by omega)
      refine wp_region_held_drew (S := fun w' => Ext [] w1 w') (by kernel_rfl) x0 (fun _ => ?_)
      refine wpAnyH_take (i := 0) (oi := ⟨some 24, _, _, _, _, _⟩) (v := ?_) rfl (by kernel_rfl) (by kernel_rfl) (by kernel_rfl) (fun _ _ _ h => h) (Or.inl ⟨by rfl, ?_⟩) (by assumption) ?_
      rotate_left 1
      · (intro w hSw; (try dsimp only at hSw); go_split_ands; go_simp; (try with_reducible rfl))
      try simp only [Act.put, List.setIfInBounds_toArray, List.set_cons_zero, List.set_cons_succ]
      refine wpAnyH_take (i := 1) (oi := ⟨some 25, _, _, _, _, _⟩) (v := .agg rt.toArray) rfl (by kernel_rfl) (by kernel_rfl) (by kernel_rfl) (fun _ _ _ h => h) (yieldsIf_load_mid (by rfl) _ _ rfl w.heap.size 0 rfl rt _ (fun w h => range_of_blk' (BR.ext h (by simp))) hu rfl hsz) (by assumption) ?_
      try simp only [Act.put, List.setIfInBounds_toArray, List.set_cons_zero, List.set_cons_succ]
      refine wpAnyH_take (i := 2) (oi := ⟨some 26, _, _, _, _, _⟩) (v := .agg rt.toArray) rfl (by kernel_rfl) (by kernel_rfl) (by kernel_rfl) (fun _ _ _ h => h) (yieldsIf_load_mid (by rfl) _ _ rfl w.heap.size 0 rfl rt _ (fun w h => range_of_blk' (BR.ext h (by simp))) hu rfl hsz) (by assumption) ?_
      try simp only [Act.put, List.setIfInBounds_toArray, List.set_cons_zero, List.set_cons_succ]
      refine wpAnyH_take (i := 3) (oi := ⟨some 27, _, _, _, _, _⟩) (v := ?_) rfl (by kernel_rfl) (by kernel_rfl) (by kernel_rfl) (fun _ _ _ h => h) (Or.inl ⟨by rfl, ?_⟩) (by assumption) ?_
      rotate_left 1
      · (intro w hSw; (try dsimp only at hSw); go_split_ands; go_simp; (try with_reducible rfl))
      try simp only [Act.put, List.setIfInBounds_toArray, List.set_cons_zero, List.set_cons_succ]
      refine wpAnyH_take (i := 4) (oi := ⟨some 28, _, _, _, _, _⟩) (v := ?_) rfl (by kernel_rfl) (by kernel_rfl) (by kernel_rfl) (fun _ _ _ h => h) (Or.inl ⟨by rfl, ?_⟩) (by assumption) ?_
      rotate_left 1
      · (intro w hSw; (try dsimp only at hSw); go_split_ands; go_simp; (try with_reducible rfl))
      try simp only [Act.put, List.setIfInBounds_toArray, List.set_cons_zero, List.set_cons_succ]
      refine wpAnyH_take (i := 5) (oi := ⟨some 29, _, _, _, _, _⟩) (v := ?_) rfl (by kernel_rfl) (by kernel_rfl) (by kernel_rfl) (fun _ _ _ h => h) (Or.inl ⟨by rfl, ?_⟩) (by assumption) ?_
      rotate_left 1
      · (intro w hSw; (try dsimp only at hSw); go_split_ands; go_simp; (try with_reducible rfl))
      try simp only [Act.put, List.setIfInBounds_toArray, List.set_cons_zero, List.set_cons_succ]
      refine wpAnyH_take (i := 6) (oi := ⟨some 30, _, _, _, _, _⟩) (v := ?_) rfl (by kernel_rfl) (by kernel_rfl) (by kernel_rfl) (fun _ _ _ h => h) (Or.inl ⟨by rfl, ?_⟩) (by assumption) ?_
      rotate_left 1
      · (intro w hSw; (try dsimp only at hSw); go_split_ands; go_simp; (try with_reducible rfl))
      try simp only [Act.put, List.setIfInBounds_toArray, List.set_cons_zero, List.set_cons_succ]
      refine wpAnyH_ready (rs := [7]) (by kernel_rfl) (by simp) ?_
      refine AllReadyH.cons (o := ⟨some 31, _, _, _, _, _⟩) rfl (fun K hK => ?_) AllReadyH.nil
      go_simp
      refine (HS1.out _ x0).mono ?_
      rintro e W7 ⟨u6, rfl, h6, x6⟩
      go_simp
      have hk := x0.trans x6
      refine hK.out _ _ hk (fun _ => ?_)
      clear hK K
      try simp only [Act.put, List.setIfInBounds_toArray, List.set_cons_zero, List.set_cons_succ]
      refine wpAnyH_ready (rs := [8]) (by kernel_rfl) (by simp) ?_
      refine AllReadyH.cons (o := ⟨some 32, _, _, _, _, _⟩) rfl (fun K hK => ?_) AllReadyH.nil
      go_simp
      refine (HLEAF.out u6 s1 _ h6.reads (by omega)).mono ?_
      rintro e W8 ⟨u7, rfl, h7, x7⟩
      go_simp
      have hk := (x0.trans x6).trans x7
      have hl7 : (sumOf s1).length = 32 := sumOf_length _
      generalize sumOf s1 = l1 at *
      obtain ⟨g7, rfl, B7, hg7, -⟩ := h7
      have hown7 := owns_ext hown4 (((Ext.refl _ _).drew).trans (x6.trans x7)) (by simp)
      refine hK.out _ _ hk (fun _ => ?_)
      clear hK K
      try simp only [Act.put, List.setIfInBounds_toArray, List.set_cons_zero, List.set_cons_succ]
      refine wpAnyH_ready (rs := [9]) (by kernel_rfl) (by simp) ?_
      refine AllReadyH.cons (o := ⟨some 33, _, _, _, _, _⟩) rfl (fun K hK => ?_) AllReadyH.nil
      refine step_app _ rfl (.tmp 24) (.tmp 32) 22 rfl 5 i0 (.int .u8 0) 1 1 Tryd.underlying22 hi hz0 hz1 hz2 rfl (by decide) (.slice a4 (L.length + 32) c4) (L.length + 32) (bytesV (L ++ s0)) rfl hown7 (.slice (some ⟨g7, 0, none⟩) 32 32) 32 (bytesV l1) rfl (blk_reads B7 32 (by rw [bytesV_length, hl7])) (bytesV_one l1) (by unfold maxLen; omega) (by omega) ?_
      intro v8 w8 hown8 hgrow8 hfr8 _
      have x67 := (x0.trans x6).trans x7
      have fr8 := own_fresh x67 fr4 hgrow8 hfr8
      have x8 := x67.grown hgrow8 (by intro g hg; exact .inr (fr4 g hg))
      rw [← bytesV_append, show L.length + 32 + 32 = (L ++ s0 ++ l1).length by rw [List.length_append, List.length_append, hl7, hs0], ← HKS.out] at hown8
      clear hgrow8 hfr8
      refine hK.out _ _ x8 (fun _ => ?_)
      clear hK K
      try simp only [Act.put, List.setIfInBounds_toArray, List.set_cons_zero, List.set_cons_succ]
      refine wpAnyH_take (i := 10) (oi := ⟨some 7, _, _, _, _, _⟩) (v := ?_) rfl (by kernel_rfl) (by kernel_rfl) (by kernel_rfl) (fun _ _ _ h => h) (Or.inl ⟨by rfl, ?_⟩) (by assumption) ?_
      rotate_left 1
      · (intro w hSw; (try dsimp only at hSw); go_split_ands; go_simp; (try with_reducible rfl))
      try simp only [Act.put, List.setIfInBounds_toArray, List.set_cons_zero, List.set_cons_succ]
      refine wpAnyH_done (by kernel_rfl) ?_ _
      go_wp2_with fail
      go_roundw
      case rel => exact ⟨k + 1, by omega, by go_num, hown8, x8, fr8⟩
      case measure => simp [intOf]; omega
--A>
    · obtain rfl : k = 32 := by omega
      clear hkl
      go_wp2_with fail
      go_ret
      exact HPOST.out _ _ hown x fr
end Go.Proofs.YtlgihbbcieceoaaDoor
