/- The document's answer of layer 2: joined, Leaf, Secret, Bit. -/
import Derived.Deep.RegionHeld3
import Derived.Test.YtlgihbbcieceoaaDoorLamA
import Derived.Test.YtlgihbbcieceoaaDoorRefR
namespace Go.Proofs.YtlgihbbcieceoaaDoor
open Go.RowKit
set_option maxRecDepth 100000

theorem range_of_blk' {w : World} {b : Nat} {T : TypeId} {cs : List Value} (h : Blk w b T cs) : w.rangeAt b 0 cs := fun j v hv => by
  rw [Nat.zero_add, h.cell]; exact hv
theorem be8_v (n : Nat) (h : n < 65536) : bytesV (be8 n) = [.int .u8 0, .int .u8 0, .int .u8 0, .int .u8 0, .int .u8 0, .int .u8 0, .int .u8 ((n : Int) / 256), .int .u8 ((n : Int) % 256)] := by
  have e : be8 n = [0, 0, 0, 0, 0, 0, UInt8.ofNat (n / 256), UInt8.ofNat (n % 256)] := by
    have z : ∀ m, 16 ≤ m → n / 2 ^ m = 0 := fun m hm => Nat.div_eq_of_lt (Nat.lt_of_lt_of_le h (Nat.pow_le_pow_right (by omega) hm : 2 ^ 16 ≤ 2 ^ m))
    simp only [be8, List.range, List.range.loop, List.map_cons, List.map_nil]
    rw [z _ (by omega), z _ (by omega), z _ (by omega), z _ (by omega), z _ (by omega), z _ (by omega)]
    simp
    apply UInt8.toNat_inj.1
    simp
  rw [e]
  show [Value.int .u8 _, Value.int .u8 _, Value.int .u8 _, Value.int .u8 _, Value.int .u8 _, Value.int .u8 _, Value.int .u8 _, Value.int .u8 _] = _
  rw [byte_val, byte_val, show (((n / 256 : Nat) : Int) % 256) = (n : Int) / 256 by omega, show (((n % 256 : Nat) : Int) % 256) = (n : Int) % 256 by omega]
  rfl

set_option maxHeartbeats 8000000 in
theorem r2joined (va vb : Value) (a b : List UInt8) (w : World) (ha : Reads w va 1 a.length (bytesV a)) (hb : Reads w vb 1 b.length (bytesV b)) (hal : a.length ≤ 1000) (hbl : b.length ≤ 1000) :
    Calls Tryd.prog 34 #[.agg (V32 (Ks ++ begin0.list)).toArray, va, vb] w fun e w' => e = .returned (.agg (bytesV (sumOf (joinB [a, b]))).toArray) ∧ Ext [] w w' := by
  obtain ⟨i0, hi, hz0, hz1, hz2⟩ := info_parts info_byte
  have HSUM := Lib.hid (fun v w' (h : Reads w' v 1 (joinB [a, b]).length (bytesV (joinB [a, b]))) => roots_sum v (joinB [a, b]) w' h (by simp [joinB, be8_length]; omega))
  have HJ := Lib.hid (show joinB [a, b] = ((be8 a.length ++ a) ++ be8 b.length) ++ b by simp [joinB])
  have HRA := Lib.hid (fun w' (x : Ext [] w w') => ha.ext x)
  have HRB := Lib.hid (fun w' (x : Ext [] w w') => hb.ext x)
  obtain ⟨aa, ac, rfl, -, -, -⟩ := ha
  obtain ⟨ba, bc, rfl, -, -, -⟩ := hb
  have hol : (bytesV (sumOf (joinB [a, b]))).length = 32 := by rw [bytesV_length, sumOf_length]
  have hob := bytesV_one (sumOf (joinB [a, b]))
  have hRl : (V32 (Ks ++ begin0.list)).length = 72 := rfl
  generalize bytesV (sumOf (joinB [a, b])) = ov at *
  generalize V32 (Ks ++ begin0.list) = rt at *
  have HBA := Lib.hid (fun (w' : World) => (show Reads (w'.alloc (.cells #[.int .u8 0, .int .u8 0, .int .u8 0, .int .u8 0, .int .u8 0, .int .u8 0, .int .u8 ((a.length : Int) / 256), .int .u8 ((a.length : Int) % 256)] 5)) (.slice (some ⟨w'.heap.size, 0, none⟩) 8 8) 1 8 (bytesV (be8 a.length)) by
    rw [be8_v _ (by omega)]; exact blk_reads (Blk.new w' _ _) 8 rfl))
  have HBB := Lib.hid (fun (w' : World) => (show Reads (w'.alloc (.cells #[.int .u8 0, .int .u8 0, .int .u8 0, .int .u8 0, .int .u8 0, .int .u8 0, .int .u8 ((b.length : Int) / 256), .int .u8 ((b.length : Int) % 256)] 5)) (.slice (some ⟨w'.heap.size, 0, none⟩) 8 8) 1 8 (bytesV (be8 b.length)) by
    rw [be8_v _ (by omega)]; exact blk_reads (Blk.new w' _ _) 8 rfl))
  have h8a := be8_length a.length
  have h8b := be8_length b.length
  generalize be8 a.length = ea at *
  generalize be8 b.length = eb at *
  go_enter Tryd.func34, Tryd.ntmps34
  go_upto_region 1 with (fail)
  show Code.wp _ _ _ _ ((w.alloc (.cells rt.toArray 28)).alloc (.cells (bytesV (List.replicate 32 0)).toArray 23))
  have BR : Blk ((w.alloc (.cells rt.toArray 28)).alloc (.cells (bytesV (List.replicate 32 0)).toArray 23)) w.heap.size 28 rt := (Blk.new w _ rt.toArray).alloc _
  have BO : Blk ((w.alloc (.cells rt.toArray 28)).alloc (.cells (bytesV (List.replicate 32 0)).toArray 23)) (w.heap.size + 1) 23 (bytesV (List.replicate 32 0)) := Blk.new' _ _ (bytesV (List.replicate 32 0)).toArray _ (by simp)
  have x1 : Ext [] w ((w.alloc (.cells rt.toArray 28)).alloc (.cells (bytesV (List.replicate 32 0)).toArray 23)) := ((Ext.refl _ _).alloc _).alloc _
  generalize ((w.alloc (.cells rt.toArray 28)).alloc (.cells (bytesV (List.replicate 32 0)).toArray 23)) = w1 at *
  have HRA1 := Lib.hid (fun w' (x : Ext [] w1 w') => HRA.out w' (x1.trans x))
  have HRB1 := Lib.hid (fun w' (x : Ext [] w1 w') => HRB.out w' (x1.trans x))
  clear HRA HRB
  go_upto_region 3 with (at_builtin; go_must (refine wpList_app _ rfl (.tmp 8) (.tmp 17) 22 rfl 5 i0 (.int .u8 0) 1 1 Tryd.underlying22 hi hz0 hz1 hz2 rfl (by decide) (.slice none 0 0) 0 [] rfl (World.ownsRow_nil _ _ _ _) _ 8 (bytesV ea) rfl (HBA.out _) (bytesV_one ea) (by unfold maxLen; omega) (by omega) ?_); intro v2 w2 hown2 hgrow2 hfr2 _)
  have x2 : Ext [] w1 w2 := ((Ext.refl [] w1).alloc _).grown hgrow2 (by intro g hg; cases hg)
  have fr2 : ∀ g, v2.ownBlock = some g → w1.heap.size ≤ g := by
    intro g hg
    rcases hfr2 with h | ⟨g', h, hle⟩
    · rw [h] at hg; cases hg
    · rw [h] at hg; obtain rfl := Option.some.inj hg; simp at hle; omega
  clear hgrow2 hfr2
  simp only [Nat.zero_add, List.nil_append] at hown2
  obtain ⟨a2, c2, rfl⟩ := owns_slice hown2
  go_upto_region 4 with (at_builtin; go_must (refine wpList_app _ rfl (.tmp 19) (.tmp 20) 22 rfl 5 i0 (.int .u8 0) 1 1 Tryd.underlying22 hi hz0 hz1 hz2 rfl (by decide) (.slice a2 8 c2) 8 (bytesV ea) rfl hown2 (.slice aa a.length ac) a.length (bytesV a) rfl (HRA1.out _ x2) (bytesV_one a) (by unfold maxLen; omega) (by omega) ?_); intro v3 w3 hown3 hgrow3 hfr3 _)
  have fr3 := own_fresh x2 fr2 hgrow3 hfr3
  have x3 := x2.grown hgrow3 (by intro g hg; exact .inr (fr2 g hg))
  rw [← bytesV_append] at hown3
  obtain ⟨a3, c3, rfl⟩ := owns_slice hown3
  clear hgrow3 hfr3 x2 fr2 hown2
  go_upto_region 5 with (at_builtin; go_must (refine wpList_app _ rfl (.tmp 22) (.tmp 31) 22 rfl 5 i0 (.int .u8 0) 1 1 Tryd.underlying22 hi hz0 hz1 hz2 rfl (by decide) (.slice a3 (8 + a.length) c3) (8 + a.length) (bytesV (ea ++ a)) rfl (owns_ext hown3 ((Ext.refl [] w3).alloc _) (by simp)) _ 8 (bytesV eb) rfl (HBB.out _) (bytesV_one eb) (by unfold maxLen; omega) (by omega) ?_); intro v4 w4 hown4 hgrow4 hfr4 _)
  have x34 : Ext [] w1 (w3.alloc (.cells #[.int .u8 0, .int .u8 0, .int .u8 0, .int .u8 0, .int .u8 0, .int .u8 0, .int .u8 ((b.length : Int) / 256), .int .u8 ((b.length : Int) % 256)] 5)) := x3.alloc _
  have fr4 := own_fresh x34 fr3 hgrow4 hfr4
  have x4 := x34.grown hgrow4 (by intro g hg; exact .inr (fr3 g hg))
  rw [← bytesV_append] at hown4
  obtain ⟨a4, c4, rfl⟩ := owns_slice hown4
  clear hgrow4 hfr4 x3 x34 fr3 hown3
  have hu := Tryd.underlying28
  have hsz : (Tryd.prog.info? 28).map (·.size) = some rt.length := by rw [hRl]; kernel_rfl
  have x4d : Ext [] w1 w4.drew := x4.drew
  have e9 : (bytesV (List.replicate 32 0)).take 0 ++ ov ++ (bytesV (List.replicate 32 0)).drop (0 + ov.length) = ov := by
    rw [hol, List.take_zero, List.nil_append, List.drop_of_length_le (by simp [bytesV]), List.append_nil]
  have hu32 := Tryd.underlying23
  have hsz32 : (Tryd.prog.info? 23).map (·.size) = some ov.length := by rw [hol]; kernel_rfl
  have H9 := Lib.hid e9
  clear e9
  refine wp_region_held_drew (S := fun w' => Ext [w.heap.size + 1] w1 w') (by kernel_rfl) (x4d.sub (by simp)) (fun _ => ?_)
  refine wpAnyH_take (i := 0) (oi := ⟨some 33, _, _, _, _, _⟩) (v := .agg rt.toArray) rfl (by kernel_rfl) (by kernel_rfl) (by kernel_rfl) (fun _ _ _ h => h) (yieldsIf_load_mid (by rfl) _ _ rfl w.heap.size 0 rfl rt _ (fun w h => range_of_blk' (BR.ext h (by simp))) hu rfl hsz) (by assumption) ?_
  try simp only [Act.put, List.setIfInBounds_toArray, List.set_cons_zero, List.set_cons_succ]
  refine wpAnyH_take (i := 1) (oi := ⟨some 34, _, _, _, _, _⟩) (v := ?_) rfl (by kernel_rfl) (by kernel_rfl) (by kernel_rfl) (fun _ _ _ h => h) (Or.inl ⟨by rfl, ?_⟩) (by assumption) ?_
  rotate_left 1
  · (intro w hSw; (try dsimp only at hSw); go_split_ands; go_simp; (try with_reducible rfl))
  try simp only [Act.put, List.setIfInBounds_toArray, List.set_cons_zero, List.set_cons_succ]
  refine wpAnyH_take (i := 2) (oi := ⟨some 35, _, _, _, _, _⟩) (v := ?_) rfl (by kernel_rfl) (by kernel_rfl) (by kernel_rfl) (fun _ _ _ h => h) (Or.inl ⟨by rfl, ?_⟩) (by assumption) ?_
  rotate_left 1
  · (intro w hSw; (try dsimp only at hSw); go_split_ands; go_simp; (try with_reducible rfl))
  try simp only [Act.put, List.setIfInBounds_toArray, List.set_cons_zero, List.set_cons_succ]
  refine wpAnyH_ready (rs := [3]) (by kernel_rfl) (by simp) ?_
  refine AllReadyH.cons (o := ⟨some 36, _, _, _, _, _⟩) rfl (fun K hK => ?_) AllReadyH.nil
  refine step_app _ rfl (.tmp 34) (.tmp 35) 22 rfl 5 i0 (.int .u8 0) 1 1 Tryd.underlying22 hi hz0 hz1 hz2 rfl (by decide) (.slice a4 (8 + a.length + 8) c4) (8 + a.length + 8) (bytesV (ea ++ a ++ eb)) rfl (owns_ext hown4 ((Ext.refl [] w4).drew) (by simp)) (.slice ba b.length bc) b.length (bytesV b) rfl (HRB1.out _ x4d) (bytesV_one b) (by unfold maxLen; omega) (by omega) ?_
  intro v5 w5 hown5 hgrow5 hfr5 _
  have x5 := x4d.grown hgrow5 (by intro g hg; exact .inr (fr4 g hg))
  rw [← bytesV_append, ← HJ.out, show 8 + a.length + 8 + b.length = (joinB [a, b]).length by rw [HJ.out]; simp only [List.length_append, h8a, h8b]] at hown5
  clear hgrow5 hfr5
  refine hK.out _ _ (x5.sub (by simp)) (fun _ => ?_)
  clear hK K
  try simp only [Act.put, List.setIfInBounds_toArray, List.set_cons_zero, List.set_cons_succ]
  refine wpAnyH_ready (rs := [4]) (by kernel_rfl) (by simp) ?_
  refine AllReadyH.cons (o := ⟨some 37, _, _, _, _, _⟩) rfl (fun K hK => ?_) AllReadyH.nil
  go_simp
  refine (HSUM.out v5 w5 (owns_reads hown5)).mono ?_
  rintro e W4 ⟨rfl, x6⟩
  go_simp
  have x16 := x5.trans x6
  have hk : Ext [w.heap.size + 1] w1 W4 := x16.sub (by simp)
  refine hK.out _ _ hk (fun _ => ?_)
  clear hK K
  try simp only [Act.put, List.setIfInBounds_toArray, List.set_cons_zero, List.set_cons_succ]
  refine wpAnyH_ready (rs := [5]) (by kernel_rfl) (by simp) ?_
  refine AllReadyH.cons (o := ⟨none, _, _, _, _, _⟩) rfl (fun K hK => ?_) AllReadyH.nil
  refine step_strow rfl 23 (.tmp 6) (.tmp 37) rfl (w.heap.size + 1) 0 rfl 23 (bytesV (List.replicate 32 0)) ov rfl (BO.ext x16 (by simp)) (by rw [hol]; simp [bytesV]) hob hsz32 ?_
  intro w7 H7 x7 _
  rw [H9.out] at H7
  refine hK.out _ _ (hk.trans' x7 (by simp)) (fun _ => ?_)
  clear hK K
  try simp only [Act.put]
  refine wpAnyH_done (by kernel_rfl) ?_ _
  go_wp2_with fail
  refine bodyPost_ret (results_blk Tryd.results34 _ _ (w.heap.size + 1) 23 ov _ rfl H7 hu32 rfl hsz32) rfl ?_
  exact ⟨rfl, (x1.trans x16).trans' x7 (by simp)⟩
end Go.Proofs.YtlgihbbcieceoaaDoor
