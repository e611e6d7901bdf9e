/- The law LamportLengths: the walk. -/
import Derived.Test.YtlgihbbcieceoaaDoorLamF
import Derived.Test.YtlgihbbcieceoaaDoorLamG
namespace Go.Proofs.YtlgihbbcieceoaaDoor
open Go.RowKit
set_option maxRecDepth 100000

/-- 'make([]T, n)' at a step of a region that draws. -/
theorem step_mk {P : Program} {w : World} {ops : Array Oper} {o : Oper} {a : Act} {K : Act → World → Prop} {Q : Exit → Act → World → Prop} {E : Prop}
    (hw : Region.wanted o (yielded ops a.tmps) = true) (l c : Operand) (t : TypeId) (hop : o.op = Op.makeSlice t l c)
    (e : TypeId) (i : TypeInfo) (z : Value) (h1 : P.underlying t = some (.slice e)) (h2 : P.info? e = some i) (h3 : i.zero = some z) (hs : i.size = 1) (hzc : z.cells = #[z])
    (kl kc : IntKind) (n : Nat) (hl : a.eval l = .int kl (n : Int)) (hc : a.eval c = .int kc (n : Int)) (b2 : i.bytes * n ≤ 281474976710656) (b3 : n ≤ maxLen)
    (hK : K (a.put o.dst (.slice (some ⟨w.heap.size, 0, none⟩) n n)) (w.alloc (.cells (List.replicate n z).toArray e))) :
    if Region.wanted o (yielded ops a.tmps) = true then Oper.wp P o a w K Q else E := by
  rw [if_pos hw]
  have h63' : (n : Int) ≤ 9223372036854775807 := by
    have h := b3
    simp [maxLen] at h
    omega
  have hb' : (i.bytes : Int) * (n : Int) ≤ 281474976710656 := by
    have h : ((i.bytes * n : Nat) : Int) ≤ 281474976710656 := by omega
    rwa [Int.natCast_mul] at h
  have hrun := run_make (P := P) w t e i z h1 h2 h3 kl kc n n (by omega) (Int.le_refl _) hb' h63'
  have hm : madeCells z.cells n = (List.replicate n z).toArray := by
    rw [hzc, ← toList_madeCells_one]
  simp only [Int.toNat_natCast, hs, Nat.mul_one, hm] at hrun
  unfold Oper.wp
  simp [execOp, hop, hl, hc, hrun, Result.andThen]
  show K _ _
  simpa using hK

theorem blk_new_at {a W : World} (_ : Ext [] a W) (T : TypeId) (cs : Array Value) : Blk (W.alloc (.cells cs T)) W.heap.size T cs.toList := Blk.new W T cs
theorem zeros_at {w : World} {g k : Nat} (h : Blk w g 5 (List.replicate k (.int .u8 0))) (j : Nat) (hj : j < k) : w.cell? ⟨g, 0 + j, none⟩ = some (.int .u8 (((List.replicate k (0 : UInt8)).getD j 0).toNat : Int)) := by
  rw [Nat.zero_add, h.cellAt (by simpa using hj)]
  simp [List.getD, hj]

set_option maxHeartbeats 8000000 in
theorem llengths_walk (key sum : List UInt8) (n : Int) (w : World) (G : DigG w) (hkl : key.length = 32) (hsl : sum.length = 32) :
    Calls Tryd.prog 7 #[.agg (bytesV key).toArray, .agg (bytesV sum).toArray, .int .i64 n] w fun e w' => e = .returned (.bool true) ∧ Ext [] w w' := by
  obtain ⟨i0, hi, hz0, hz1, hz2⟩ := info_parts info_byte
  have HG := Lib.hid (fun w' (x' : Ext [] w w') => G.ext x' (by simp) (by simp))
  clear G
  obtain ⟨k, hk, hk5⟩ := mod_nat n 5000 (by omega) (by omega)
  have HK := Lib.hid hk
  clear hk
  have hkv : (bytesV key).length = 32 := by rw [bytesV_length, hkl]
  have hsv : (bytesV sum).length = 32 := by rw [bytesV_length, hsl]
  have HNO := Lib.hid (fun a c w' (hn : k ≠ 2048) => verify_no key sum a k c w' hn)
  have HVER := Lib.hid (fun g w' (G : DigG w') (hk : k = 2048) (hb : Blk w' g 5 (List.replicate k (.int .u8 0))) => (show Calls Tryd.prog 14 #[.agg (bytesV key).toArray, .agg (bytesV sum).toArray, .slice (some ⟨g, 0, none⟩) k k] w' fun e w'' => e = .returned (.int .i64 (verR key sum (List.replicate k 0))) ∧ Ext [] w' w'' from by
    have hz := zeros_at hb
    have hbl := hb.lt
    clear hb
    subst hk
    exact verify_any key sum (List.replicate 2048 0) g 0 2048 w' G hkl hsl (by simp) (by omega) hbl hz))
  have HFIT := Lib.hid (fun g w' (hk : k = 2048) (hb : Blk w' g 5 (List.replicate k (.int .u8 0))) => (show Calls Tryd.prog 15 #[.agg (V32 (Ks ++ begin0.list)).toArray, .agg (bytesV key).toArray, .agg (bytesV sum).toArray, .slice (some ⟨g, 0, none⟩) k k] w' fun e w'' => e = .returned (.bool (decide (sumOf (fitL sum (List.replicate k 0) 32) = key))) ∧ Ext [] w' w'' from by
    have hz := zeros_at hb
    have hbl := hb.lt
    clear hb
    subst hk
    exact r2fits key sum (List.replicate 2048 0) g 0 2048 w' hkl hsl (by simp) (by omega) (by omega) hbl hz))
  have HVR := Lib.hid (show verR key sum (List.replicate k 0) = if sumOf (fitL sum (List.replicate k 0) 32) = key then 0 else 129 from rfl)
  have HMK := Lib.hid make_ref
  generalize verR key sum (List.replicate k 0) = R at *
  generalize sumOf (fitL sum (List.replicate k 0) 32) = F at *
  obtain ⟨B, hB⟩ : ∃ B, B = decide (F = key) := ⟨_, rfl⟩
  rw [← hB] at HFIT
  have HBR := Lib.hid (show (B = true ∧ R = 0) ∨ (B = false ∧ R = 129) by
    by_cases h : F = key
    · left; exact ⟨by rw [hB]; exact decide_eq_true h, by rw [HVR.out, if_pos h]⟩
    · right; exact ⟨by rw [hB]; exact decide_eq_false h, by rw [HVR.out, if_neg h]⟩)
  clear hB HVR hkl hsl
  generalize V32 (Ks ++ begin0.list) = rt at *
  generalize bytesV key = kv at *
  generalize bytesV sum = sv at *
  have hu3 := Tryd.underlying23
  have hsz3 : (Tryd.prog.info? 23).map (·.size) = some sv.length := by rw [hsv]; kernel_rfl
  have hsz4 : (Tryd.prog.info? 23).map (·.size) = some kv.length := by rw [hkv]; kernel_rfl
  go_enter Tryd.func7, Tryd.ntmps7
  go_upto_region 1 with (fail)
  show Code.wp _ _ _ _ ((w.alloc (.cells kv.toArray 23)).alloc (.cells sv.toArray 23))
  have BK : Blk ((w.alloc (.cells kv.toArray 23)).alloc (.cells sv.toArray 23)) w.heap.size 23 kv := (Blk.new w _ kv.toArray).alloc _
  have BM : Blk ((w.alloc (.cells kv.toArray 23)).alloc (.cells sv.toArray 23)) (w.heap.size + 1) 23 sv := Blk.new' _ _ sv.toArray _ (by simp)
  have x1 : Ext [] w ((w.alloc (.cells kv.toArray 23)).alloc (.cells sv.toArray 23)) := ((Ext.refl _ _).alloc _).alloc _
  generalize ((w.alloc (.cells kv.toArray 23)).alloc (.cells sv.toArray 23)) = w1 at *
  go_upto_region 2 with (fail)
  rw [show wrap64 ((IntKind.u64.wrap n).tmod 5000) = (k : Int) from HK.out]
  clear HK
  have z1 : Ext [] w1 w1.drew := (Ext.refl _ _).drew
  refine wp_region_held_drew (S := fun w' => Ext [] w1 w') (by kernel_rfl) z1 (fun hS => ?_)
  by_cases hk8 : k = 2048
  · have HK8 := Lib.hid hk8
    have h1 : ((k : Int) != 2048) = false := by rw [bne_eq_false_iff_eq]; omega
    clear hk8
    refine wpAnyH_take (i := 0) (oi := ⟨some 13, _, _, _, _, _⟩) (v := .agg kv.toArray) rfl (by kernel_rfl) (by kernel_rfl) (by kernel_rfl) (fun _ _ _ h => h) (yieldsIf_load_mid (by rfl) _ _ rfl w.heap.size 0 rfl kv _ (fun w h => range_of_blk3 (BK.ext h (by simp))) hu3 rfl hsz4) (by assumption) ?_
    try simp only [Act.put, List.setIfInBounds_toArray, List.set_cons_zero, List.set_cons_succ]
    refine wpAnyH_take (i := 1) (oi := ⟨some 14, _, _, _, _, _⟩) (v := .agg sv.toArray) rfl (by kernel_rfl) (by kernel_rfl) (by kernel_rfl) (fun _ _ _ h => h) (yieldsIf_load_mid (by rfl) _ _ rfl (w.heap.size + 1) 0 rfl sv _ (fun w h => range_of_blk3 (BM.ext h (by simp))) hu3 rfl hsz3) (by assumption) ?_
    try simp only [Act.put, List.setIfInBounds_toArray, List.set_cons_zero, List.set_cons_succ]
    refine wpAnyH_take (i := 2) (oi := ⟨some 15, _, _, _, _, _⟩) (v := ?_) rfl (by kernel_rfl) (by kernel_rfl) (by kernel_rfl) (fun _ _ _ h => h) (Or.inl ⟨by rfl, ?_⟩) (by assumption) ?_
    rotate_left 1
    · (intro w hSw; (try dsimp only at hSw); go_split_ands; go_simp; (try with_reducible rfl))
    try simp only [Act.put, List.setIfInBounds_toArray, List.set_cons_zero, List.set_cons_succ]
    refine wpAnyH_ready (rs := [3]) (by kernel_rfl) (by simp) ?_
    refine AllReadyH.cons (o := ⟨some 16, _, _, _, _, _⟩) rfl (fun K hK => ?_) AllReadyH.nil
    refine step_mk rfl (.tmp 15) (.tmp 15) 22 rfl 5 i0 (.int .u8 0) Tryd.underlying22 hi hz0 hz1 rfl .i64 .i64 k rfl rfl (by rw [hz2]; omega) (by unfold maxLen; omega) ?_
    have BZ := Blk.new w1.drew 5 (List.replicate k (Value.int .u8 0)).toArray
    have x3 : Ext [] w1 (w1.drew.alloc (.cells (List.replicate k (Value.int .u8 0)).toArray 5)) := hS.alloc _
    refine hK.out _ _ x3 (fun hS => ?_)
    clear hK K
    try simp only [Act.put, List.setIfInBounds_toArray, List.set_cons_zero, List.set_cons_succ]
    refine wpAnyH_ready (rs := [4]) (by kernel_rfl) (by simp) ?_
    refine AllReadyH.cons (o := ⟨some 17, _, _, _, _, _⟩) rfl (fun K hK => ?_) AllReadyH.nil
    go_simp
    refine (HVER.out _ _ (HG.out _ (x1.trans x3)) HK8.out BZ).mono ?_
    rintro e W4 ⟨rfl, x4⟩
    go_simp
    have hk := x3.trans x4
    refine hK.out _ _ hk (fun hS => ?_)
    clear hK K
    try simp only [Act.put, List.setIfInBounds_toArray, List.set_cons_zero, List.set_cons_succ]
    refine wpAnyH_take (i := 5) (oi := ⟨some 8, _, _, _, _, _⟩) (v := ?_) rfl (by kernel_rfl) (by kernel_rfl) (by kernel_rfl) (fun _ _ _ h => h) (Or.inl ⟨by rfl, ?_⟩) (by assumption) ?_
    rotate_left 1
    · (intro w hSw; (try dsimp only at hSw); go_split_ands; go_simp; (try with_reducible rfl))
    try simp only [Act.put, List.setIfInBounds_toArray, List.set_cons_zero, List.set_cons_succ]
    refine wpAnyH_done (by kernel_rfl) ?_ _
    have x34 := x3.trans x4
    clear BZ x3 x4
    have z4 : Ext [] w1 W4.drew := x34.drew
    rcases HBR.out with ⟨rfl, rfl⟩ | ⟨rfl, rfl⟩
    all_goals
      go_upto_region 5 with (fail)
      refine wp_region_held_drew (S := fun w' => Ext [] w1 w') (by kernel_rfl) z4 (fun hS => ?_)
      refine wpAnyH_ready (rs := [0]) (by kernel_rfl) (by simp) ?_
      refine AllReadyH.cons (o := ⟨some 25, _, _, _, _, _⟩) rfl (fun K hK => ?_) AllReadyH.nil
      go_simp
      refine (lsigns_any _ (HG.out _ (x1.trans hS))).mono ?_
      rintro e W0 ⟨rfl, x5⟩
      go_simp
      have hk := hS.trans x5
      refine hK.out _ _ hk (fun hS => ?_)
      clear hK K
      try simp only [Act.put, List.setIfInBounds_toArray, List.set_cons_zero, List.set_cons_succ]
      refine wpAnyH_take (i := 1) (oi := ⟨some 26, _, _, _, _, _⟩) (v := ?_) rfl (by kernel_rfl) (by kernel_rfl) (by kernel_rfl) (fun _ _ _ h => h) (Or.inl ⟨by rfl, ?_⟩) (by assumption) ?_
      rotate_left 1
      · (intro w hSw; (try dsimp only at hSw); go_split_ands; go_simp; (try with_reducible rfl))
      try simp only [Act.put, List.setIfInBounds_toArray, List.set_cons_zero, List.set_cons_succ]
      refine wpAnyH_take (i := 2) (oi := ⟨some 27, _, _, _, _, _⟩) (v := ?_) rfl (by kernel_rfl) (by kernel_rfl) (by kernel_rfl) (fun _ _ _ h => h) (Or.inl ⟨by rfl, ?_⟩) (by assumption) ?_
      rotate_left 1
      · (intro w hSw; (try dsimp only at hSw); go_split_ands; go_simp; (try with_reducible rfl))
      try simp only [Act.put, List.setIfInBounds_toArray, List.set_cons_zero, List.set_cons_succ]
      refine wpAnyH_take (i := 3) (oi := ⟨some 28, _, _, _, _, _⟩) (v := ?_) rfl (by kernel_rfl) (by kernel_rfl) (by kernel_rfl) (fun _ _ _ h => h) (Or.inl ⟨by rfl, ?_⟩) (by assumption) ?_
      rotate_left 1
      · (intro w hSw; (try dsimp only at hSw); go_split_ands; go_simp; (try with_reducible rfl))
      try simp only [Act.put, List.setIfInBounds_toArray, List.set_cons_zero, List.set_cons_succ]
      refine wpAnyH_take (i := 5) (oi := ⟨some 30, _, _, _, _, _⟩) (v := .agg kv.toArray) rfl (by kernel_rfl) (by kernel_rfl) (by kernel_rfl) (fun _ _ _ h => h) (yieldsIf_load_mid (by rfl) _ _ rfl w.heap.size 0 rfl kv _ (fun w h => range_of_blk3 (BK.ext h (by simp))) hu3 rfl hsz4) (by assumption) ?_
      try simp only [Act.put, List.setIfInBounds_toArray, List.set_cons_zero, List.set_cons_succ]
      refine wpAnyH_take (i := 6) (oi := ⟨some 31, _, _, _, _, _⟩) (v := .agg sv.toArray) rfl (by kernel_rfl) (by kernel_rfl) (by kernel_rfl) (fun _ _ _ h => h) (yieldsIf_load_mid (by rfl) _ _ rfl (w.heap.size + 1) 0 rfl sv _ (fun w h => range_of_blk3 (BM.ext h (by simp))) hu3 rfl hsz3) (by assumption) ?_
      try simp only [Act.put, List.setIfInBounds_toArray, List.set_cons_zero, List.set_cons_succ]
      refine wpAnyH_take (i := 7) (oi := ⟨some 32, _, _, _, _, _⟩) (v := ?_) rfl (by kernel_rfl) (by kernel_rfl) (by kernel_rfl) (fun _ _ _ h => h) (Or.inl ⟨by rfl, ?_⟩) (by assumption) ?_
      rotate_left 1
      · (intro w hSw; (try dsimp only at hSw); go_split_ands; go_simp; (try with_reducible rfl))
      try simp only [Act.put, List.setIfInBounds_toArray, List.set_cons_zero, List.set_cons_succ]
      refine wpAnyH_ready (rs := [4, 8]) (by kernel_rfl) (by simp) ?_
      refine AllReadyH.cons (o := ⟨some 29, _, _, _, _, _⟩) rfl (fun K hK => ?_) (AllReadyH.cons (o := ⟨some 33, _, _, _, _, _⟩) rfl (fun K hK => ?_) AllReadyH.nil)
      · skip
        go_simp
        refine (HMK.out _).mono ?_
        rintro e W4 ⟨rfl, x6⟩
        go_simp
        have hk := hS.trans x6
        try have BZ := BZ.ext x6 (by simp)
        refine hK.out _ _ hk (fun hS => ?_)
        clear hK K
        try simp only [Act.put, List.setIfInBounds_toArray, List.set_cons_zero, List.set_cons_succ]
        refine wpAnyH_ready (rs := [8]) (by kernel_rfl) (by simp) ?_
        refine AllReadyH.cons (o := ⟨some 33, _, _, _, _, _⟩) rfl (fun K hK => ?_) AllReadyH.nil
        refine step_mk rfl (.tmp 32) (.tmp 32) 22 rfl 5 i0 (.int .u8 0) Tryd.underlying22 hi hz0 hz1 rfl .i64 .i64 k rfl rfl (by rw [hz2]; omega) (by unfold maxLen; omega) ?_
        have BZ := blk_new_at hS 5 (List.replicate k (Value.int .u8 0)).toArray
        refine hK.out _ _ (hS.alloc _) (fun hS => ?_)
        clear hK K
        try simp only [Act.put, List.setIfInBounds_toArray, List.set_cons_zero, List.set_cons_succ]
        refine wpAnyH_ready (rs := [9]) (by kernel_rfl) (by simp) ?_
        refine AllReadyH.cons (o := ⟨some 34, _, _, _, _, _⟩) rfl (fun K hK => ?_) AllReadyH.nil
        go_simp
        refine (HFIT.out _ _ HK8.out BZ).mono ?_
        rintro e W9 ⟨rfl, x7⟩
        go_simp
        have hk := hS.trans x7
        refine hK.out _ _ hk (fun hS => ?_)
        clear hK K
        try simp only [Act.put, List.setIfInBounds_toArray, List.set_cons_zero, List.set_cons_succ]
        refine wpAnyH_take (i := 10) (oi := ⟨some 35, _, _, _, _, _⟩) (v := ?_) rfl (by kernel_rfl) (by kernel_rfl) (by kernel_rfl) (fun _ _ _ h => h) (Or.inl ⟨by rfl, ?_⟩) (by assumption) ?_
        rotate_left 1
        · (intro w hSw; (try dsimp only at hSw); go_split_ands; go_simp; (try with_reducible rfl))
        try simp only [Act.put, List.setIfInBounds_toArray, List.set_cons_zero, List.set_cons_succ]
        refine wpAnyH_take (i := 11) (oi := ⟨some 36, _, _, _, _, _⟩) (v := ?_) rfl (by kernel_rfl) (by kernel_rfl) (by kernel_rfl) (fun _ _ _ h => h) (Or.inl ⟨by rfl, ?_⟩) (by assumption) ?_
        rotate_left 1
        · (intro w hSw; (try dsimp only at hSw); go_split_ands; go_simp; (try with_reducible rfl))
        try simp only [Act.put, List.setIfInBounds_toArray, List.set_cons_zero, List.set_cons_succ]
        refine wpAnyH_take (i := 12) (oi := ⟨some 6, _, _, _, _, _⟩) (v := ?_) rfl (by kernel_rfl) (by kernel_rfl) (by kernel_rfl) (fun _ _ _ h => h) (Or.inl ⟨by rfl, ?_⟩) (by assumption) ?_
        rotate_left 1
        · (intro w hSw; (try dsimp only at hSw); go_split_ands; go_simp; (try with_reducible rfl))
        try simp only [Act.put, List.setIfInBounds_toArray, List.set_cons_zero, List.set_cons_succ]
        refine wpAnyH_done (by kernel_rfl) ?_ _
        go_wp2_with fail
        go_ret
        exact ⟨rfl, x1.trans hS⟩
      · skip
        refine step_mk rfl (.tmp 32) (.tmp 32) 22 rfl 5 i0 (.int .u8 0) Tryd.underlying22 hi hz0 hz1 rfl .i64 .i64 k rfl rfl (by rw [hz2]; omega) (by unfold maxLen; omega) ?_
        have BZ := blk_new_at hS 5 (List.replicate k (Value.int .u8 0)).toArray
        refine hK.out _ _ (hS.alloc _) (fun hS => ?_)
        clear hK K
        try simp only [Act.put, List.setIfInBounds_toArray, List.set_cons_zero, List.set_cons_succ]
        refine wpAnyH_ready (rs := [4]) (by kernel_rfl) (by simp) ?_
        refine AllReadyH.cons (o := ⟨some 29, _, _, _, _, _⟩) rfl (fun K hK => ?_) AllReadyH.nil
        go_simp
        refine (HMK.out _).mono ?_
        rintro e W4 ⟨rfl, x6⟩
        go_simp
        have hk := hS.trans x6
        try have BZ := BZ.ext x6 (by simp)
        refine hK.out _ _ hk (fun hS => ?_)
        clear hK K
        try simp only [Act.put, List.setIfInBounds_toArray, List.set_cons_zero, List.set_cons_succ]
        refine wpAnyH_ready (rs := [9]) (by kernel_rfl) (by simp) ?_
        refine AllReadyH.cons (o := ⟨some 34, _, _, _, _, _⟩) rfl (fun K hK => ?_) AllReadyH.nil
        go_simp
        refine (HFIT.out _ _ HK8.out BZ).mono ?_
        rintro e W9 ⟨rfl, x7⟩
        go_simp
        have hk := hS.trans x7
        refine hK.out _ _ hk (fun hS => ?_)
        clear hK K
        try simp only [Act.put, List.setIfInBounds_toArray, List.set_cons_zero, List.set_cons_succ]
        refine wpAnyH_take (i := 10) (oi := ⟨some 35, _, _, _, _, _⟩) (v := ?_) rfl (by kernel_rfl) (by kernel_rfl) (by kernel_rfl) (fun _ _ _ h => h) (Or.inl ⟨by rfl, ?_⟩) (by assumption) ?_
        rotate_left 1
        · (intro w hSw; (try dsimp only at hSw); go_split_ands; go_simp; (try with_reducible rfl))
        try simp only [Act.put, List.setIfInBounds_toArray, List.set_cons_zero, List.set_cons_succ]
        refine wpAnyH_take (i := 11) (oi := ⟨some 36, _, _, _, _, _⟩) (v := ?_) rfl (by kernel_rfl) (by kernel_rfl) (by kernel_rfl) (fun _ _ _ h => h) (Or.inl ⟨by rfl, ?_⟩) (by assumption) ?_
        rotate_left 1
        · (intro w hSw; (try dsimp only at hSw); go_split_ands; go_simp; (try with_reducible rfl))
        try simp only [Act.put, List.setIfInBounds_toArray, List.set_cons_zero, List.set_cons_succ]
        refine wpAnyH_take (i := 12) (oi := ⟨some 6, _, _, _, _, _⟩) (v := ?_) rfl (by kernel_rfl) (by kernel_rfl) (by kernel_rfl) (fun _ _ _ h => h) (Or.inl ⟨by rfl, ?_⟩) (by assumption) ?_
        rotate_left 1
        · (intro w hSw; (try dsimp only at hSw); go_split_ands; go_simp; (try with_reducible rfl))
        try simp only [Act.put, List.setIfInBounds_toArray, List.set_cons_zero, List.set_cons_succ]
        refine wpAnyH_done (by kernel_rfl) ?_ _
        go_wp2_with fail
        go_ret
        exact ⟨rfl, x1.trans hS⟩
  · have HNK := Lib.hid hk8
    have h1 : ((k : Int) != 2048) = true := by rw [bne_iff_ne]; omega
    clear hk8
    refine wpAnyH_take (i := 0) (oi := ⟨some 13, _, _, _, _, _⟩) (v := .agg kv.toArray) rfl (by kernel_rfl) (by kernel_rfl) (by kernel_rfl) (fun _ _ _ h => h) (yieldsIf_load_mid (by rfl) _ _ rfl w.heap.size 0 rfl kv _ (fun w h => range_of_blk3 (BK.ext h (by simp))) hu3 rfl hsz4) (by assumption) ?_
    try simp only [Act.put, List.setIfInBounds_toArray, List.set_cons_zero, List.set_cons_succ]
    refine wpAnyH_take (i := 1) (oi := ⟨some 14, _, _, _, _, _⟩) (v := .agg sv.toArray) rfl (by kernel_rfl) (by kernel_rfl) (by kernel_rfl) (fun _ _ _ h => h) (yieldsIf_load_mid (by rfl) _ _ rfl (w.heap.size + 1) 0 rfl sv _ (fun w h => range_of_blk3 (BM.ext h (by simp))) hu3 rfl hsz3) (by assumption) ?_
    try simp only [Act.put, List.setIfInBounds_toArray, List.set_cons_zero, List.set_cons_succ]
    refine wpAnyH_take (i := 2) (oi := ⟨some 15, _, _, _, _, _⟩) (v := ?_) rfl (by kernel_rfl) (by kernel_rfl) (by kernel_rfl) (fun _ _ _ h => h) (Or.inl ⟨by rfl, ?_⟩) (by assumption) ?_
    rotate_left 1
    · (intro w hSw; (try dsimp only at hSw); go_split_ands; go_simp; (try with_reducible rfl))
    try simp only [Act.put, List.setIfInBounds_toArray, List.set_cons_zero, List.set_cons_succ]
    refine wpAnyH_ready (rs := [3]) (by kernel_rfl) (by simp) ?_
    refine AllReadyH.cons (o := ⟨some 16, _, _, _, _, _⟩) rfl (fun K hK => ?_) AllReadyH.nil
    refine step_mk rfl (.tmp 15) (.tmp 15) 22 rfl 5 i0 (.int .u8 0) Tryd.underlying22 hi hz0 hz1 rfl .i64 .i64 k rfl rfl (by rw [hz2]; omega) (by unfold maxLen; omega) ?_
    refine hK.out _ _ (hS.alloc _) (fun hS => ?_)
    clear hK K
    try simp only [Act.put, List.setIfInBounds_toArray, List.set_cons_zero, List.set_cons_succ]
    refine wpAnyH_ready (rs := [4]) (by kernel_rfl) (by simp) ?_
    refine AllReadyH.cons (o := ⟨some 17, _, _, _, _, _⟩) rfl (fun K hK => ?_) AllReadyH.nil
    go_simp
    refine (HNO.out _ _ _ HNK.out).mono ?_
    rintro e W4 ⟨rfl, x4⟩
    go_simp
    have hk := hS.trans x4
    refine hK.out _ _ hk (fun hS => ?_)
    clear hK K
    try simp only [Act.put, List.setIfInBounds_toArray, List.set_cons_zero, List.set_cons_succ]
    refine wpAnyH_take (i := 5) (oi := ⟨some 8, _, _, _, _, _⟩) (v := ?_) rfl (by kernel_rfl) (by kernel_rfl) (by kernel_rfl) (fun _ _ _ h => h) (Or.inl ⟨by rfl, ?_⟩) (by assumption) ?_
    rotate_left 1
    · (intro w hSw; (try dsimp only at hSw); go_split_ands; go_simp; (try with_reducible rfl))
    try simp only [Act.put, List.setIfInBounds_toArray, List.set_cons_zero, List.set_cons_succ]
    refine wpAnyH_done (by kernel_rfl) ?_ _
    go_wp2_with fail
    refine (lsigns_any _ (HG.out _ (x1.trans hS))).mono ?_
    rintro e w5 ⟨rfl, x5⟩
    go_wp2_with fail
    go_ret
    exact ⟨rfl, x1.trans (hS.trans x5)⟩
end Go.Proofs.YtlgihbbcieceoaaDoor
