/- Layer 2: what a seed signs fits its key; Verify of a row of the call's own; signs. -/
import Derived.Deep.RegionHeld3
import Derived.Test.YtlgihbbcieceoaaDoorLamC
import Derived.Test.YtlgihbbcieceoaaDoorLamP
import Derived.Lib.SlBytesConst
namespace Go.Proofs.YtlgihbbcieceoaaDoor
open Go.RowKit
set_option maxRecDepth 100000

/-! ### What a seed signs fits its key -/
def sigP (seed sum : List UInt8) (k : Nat) : List UInt8 := secB seed k (bitM sum k) ++ sumOf (secB seed k (1 - bitM sum k))
theorem sigP_length (seed sum : List UInt8) (k : Nat) : (sigP seed sum k).length = 64 := by simp [sigP, secB_length, sumOf_length]
theorem signL_split (seed sum : List UInt8) (k : Nat) : ∀ n, k < n → ∃ r, signL seed sum n = signL seed sum k ++ (sigP seed sum k ++ r)
  | 0, h => absurd h (by omega)
  | n + 1, h => by
    have e : signL seed sum (n + 1) = signL seed sum n ++ sigP seed sum n := by rw [signL_succ, List.append_assoc]; rfl
    by_cases hk : k = n
    · subst hk; exact ⟨[], by rw [e, List.append_nil]⟩
    · obtain ⟨r, hr⟩ := signL_split seed sum k n (by omega)
      exact ⟨r ++ sigP seed sum n, by rw [e, hr]; simp only [List.append_assoc]⟩
theorem fit_sign (seed sum : List UInt8) (k : Nat) (hk : k < 32) (t : List UInt8) (ht : bitM t k = bitM sum k) : fitQ t (signL seed sum 32) k k = sumOf (secB seed k 0) ++ sumOf (secB seed k 1) := by
  obtain ⟨r, hr⟩ := signL_split seed sum k 32 hk
  have hl := signL_length seed sum k
  have h1 : ((signL seed sum 32).drop (64 * k)).take 32 = secB seed k (bitM sum k) := by
    rw [hr, ← hl, List.drop_left]
    unfold sigP
    rw [List.append_assoc, List.take_append_of_le_length (by rw [secB_length]; omega), List.take_of_length_le (by rw [secB_length]; omega)]
  have h2 : ((signL seed sum 32).drop (64 * k + 32)).take 32 = sumOf (secB seed k (1 - bitM sum k)) := by
    rw [hr, ← List.drop_drop, ← hl, List.drop_left]
    unfold sigP
    rw [List.append_assoc, List.drop_append_of_le_length (by rw [secB_length]; omega), List.drop_of_length_le (by rw [secB_length]; omega), List.nil_append, List.take_append_of_le_length (by rw [sumOf_length]; omega), List.take_of_length_le (by rw [sumOf_length]; omega)]
  unfold fitQ
  rw [h1, h2, ht]
  have hb := bitM_lt sum k
  by_cases h : bitM sum k = 1
  · rw [if_pos h, h]
  · rw [if_neg h, show bitM sum k = 0 by omega]
theorem fitL_sign (seed sum t : List UInt8) (ht : ∀ i, i < 32 → bitM t i = bitM sum i) : ∀ k, k ≤ 32 → fitL t (signL seed sum 32) k = keyL seed k
  | 0, _ => rfl
  | k + 1, h => by rw [fitL_succ, keyL_succ, fitL_sign seed sum t ht k (by omega), fit_sign seed sum k (by omega) t (ht k (by omega)), List.append_assoc]
theorem ver_sign (seed sum t : List UInt8) (ht : ∀ i, i < 32 → bitM t i = bitM sum i) (key : List UInt8) : verR key t (signL seed sum 32) = if keyB seed = key then 0 else 129 := by
  unfold verR
  rw [fitL_sign seed sum t ht 32 (Nat.le_refl _)]; rfl

theorem range_of_blk3 {w : World} {b : Nat} {T : TypeId} {cs : List Value} (h : Blk w b T cs) : w.rangeAt b 0 cs := fun j v hv => by
  rw [Nat.zero_add, h.cell]; exact hv
theorem keyB_length (seed : List UInt8) : (keyB seed).length = 32 := sumOf_length _
theorem eq_b32 (a b : List UInt8) (ha : a.length = 32) (hb : b.length = 32) : ∀ w, (Op.equalIn 10000 23 (.agg (bytesV a).toArray) (.agg (bytesV b).toArray)).run Tryd.prog w = .ok (decide (a = b)) w :=
  run_equal_bytes (P := Tryd.prog) 9998 Tryd.underlying23 Tryd.underlying5 (by kernel_rfl) (by kernel_rfl) a b ha hb

theorem verify_own (key sum s : List UInt8) (v : Value) (w : World) (G : DigG w) (hkl : key.length = 32) (hsl : sum.length = 32) (hs : s.length = 2048) (h : w.ownsRow 0 5 1 v 2048 (bytesV s)) :
    Calls Tryd.prog 14 #[.agg (bytesV key).toArray, .agg (bytesV sum).toArray, v] w fun e w' => e = .returned (.int .i64 (verR key sum s)) ∧ Ext [] w w' := by
  obtain ⟨g, cap, cur, rfl, hb, hc, -, -, -⟩ := owns_some h (by omega)
  refine verify_any key sum s g 0 cap w G hkl hsl hs hc hb.lt ?_
  intro j hj
  rw [Nat.zero_add, h.cellAt j (by omega), bytesV_at s j (by omega)]

/-- A text of one byte, laid by a conversion. -/
theorem one_byte (w : World) (x : UInt8) : Reads (w.alloc (.cells #[.int .u8 (x.toNat : Int)] 5 (1, 2))) (.slice (some ⟨w.heap.size, 0, none⟩) 1 1) 1 1 (bytesV [x]) := by
  refine ⟨_, _, rfl, rfl, (fun e => by cases e), fun ad e j u hu => ?_⟩
  obtain rfl := Option.some.inj e
  rw [Addr.add_lit, Nat.zero_add]
  simp [World.cell?, World.alloc, -World.alloc_eq]
  exact hu
def s5 : List UInt8 := 5 :: List.replicate 31 0
theorem keyS_ne : decide (keyB [115] = List.replicate 32 0) = false := by
  rw [decide_eq_false_iff_not]
  intro h
  have h1 := key_head [115] 44 key_s
  rw [h] at h1
  revert h1
  decide

set_option maxHeartbeats 8000000 in
theorem lsigns_core (w : World) (K SG : List UInt8)
    (HKEY : Hid (∀ v w', Ext [] w w' → Reads w' v 1 1 (bytesV [115]) → Calls Tryd.prog 9 #[v] w' fun e w'' => e = .returned (.agg (bytesV K).toArray) ∧ Ext [] w' w''))
    (HSIGN : Hid (∀ v w', Ext [] w w' → Reads w' v 1 1 (bytesV [115]) → Calls Tryd.prog 10 #[v, .agg #[.int .u8 5, .int .u8 0, .int .u8 0, .int .u8 0, .int .u8 0, .int .u8 0, .int .u8 0, .int .u8 0, .int .u8 0, .int .u8 0, .int .u8 0, .int .u8 0, .int .u8 0, .int .u8 0, .int .u8 0, .int .u8 0, .int .u8 0, .int .u8 0, .int .u8 0, .int .u8 0, .int .u8 0, .int .u8 0, .int .u8 0, .int .u8 0, .int .u8 0, .int .u8 0, .int .u8 0, .int .u8 0, .int .u8 0, .int .u8 0, .int .u8 0, .int .u8 0]] w' fun e w'' => BytesPost w' SG e w'')) (hsl : SG.length = 2048)
    (HV : Hid (∀ v w', Ext [] w w' → w'.ownsRow 0 5 1 v 2048 (bytesV SG) → Calls Tryd.prog 14 #[.agg (bytesV K).toArray, .agg #[.int .u8 5, .int .u8 0, .int .u8 0, .int .u8 0, .int .u8 0, .int .u8 0, .int .u8 0, .int .u8 0, .int .u8 0, .int .u8 0, .int .u8 0, .int .u8 0, .int .u8 0, .int .u8 0, .int .u8 0, .int .u8 0, .int .u8 0, .int .u8 0, .int .u8 0, .int .u8 0, .int .u8 0, .int .u8 0, .int .u8 0, .int .u8 0, .int .u8 0, .int .u8 0, .int .u8 0, .int .u8 0, .int .u8 0, .int .u8 0, .int .u8 0, .int .u8 0], v] w' fun e w'' => e = .returned (.int .i64 0) ∧ Ext [] w' w''))
    (HN : Hid (∀ (a : Option Addr) (n c : Nat) (w' : World), n ≠ 2048 → Calls Tryd.prog 14 #[.agg (bytesV K).toArray, .agg #[.int .u8 5, .int .u8 0, .int .u8 0, .int .u8 0, .int .u8 0, .int .u8 0, .int .u8 0, .int .u8 0, .int .u8 0, .int .u8 0, .int .u8 0, .int .u8 0, .int .u8 0, .int .u8 0, .int .u8 0, .int .u8 0, .int .u8 0, .int .u8 0, .int .u8 0, .int .u8 0, .int .u8 0, .int .u8 0, .int .u8 0, .int .u8 0, .int .u8 0, .int .u8 0, .int .u8 0, .int .u8 0, .int .u8 0, .int .u8 0, .int .u8 0, .int .u8 0], .slice a n c] w' fun e w'' => e = .returned (.int .i64 22) ∧ Ext [] w' w''))
    (HE : Hid (∀ w, (Op.equalIn 10000 23 (.agg (bytesV K).toArray) (.agg #[.int .u8 0, .int .u8 0, .int .u8 0, .int .u8 0, .int .u8 0, .int .u8 0, .int .u8 0, .int .u8 0, .int .u8 0, .int .u8 0, .int .u8 0, .int .u8 0, .int .u8 0, .int .u8 0, .int .u8 0, .int .u8 0, .int .u8 0, .int .u8 0, .int .u8 0, .int .u8 0, .int .u8 0, .int .u8 0, .int .u8 0, .int .u8 0, .int .u8 0, .int .u8 0, .int .u8 0, .int .u8 0, .int .u8 0, .int .u8 0, .int .u8 0, .int .u8 0])).run Tryd.prog w = .ok false w)) (hkl : K.length = 32) :
    Calls Tryd.prog 11 #[] w fun e w' => e = .returned (.bool true) ∧ Ext [] w w' := by
  have hol : (bytesV K).length = 32 := by rw [bytesV_length, hkl]
  have hob := bytesV_one K
  generalize bytesV K = ov at *
  clear hkl
  have HB := Lib.hid (fun (w' : World) => one_byte w' 115)
  have kc := fun (w : World) => Lib.run_convert_bytes_const (P := Tryd.prog) w 22 5 #[Value.int IntKind.u8 115] 1 1 Tryd.underlying22 Tryd.underlying5
  go_enter Tryd.func11, Tryd.ntmps11
  go_wp2_with fail
  have x0 : Ext [] w (w.alloc (.cells #[.int .u8 115] 5 (1, 2))) := (Ext.refl _ _).alloc _
  refine (HKEY.out _ _ x0 (HB.out w)).mono ?_
  rintro e w1 ⟨rfl, x1⟩
  go_wp2_with fail
  refine upon_strow w1.heap.size 0 23 _ ov (Blk.new w1 23 (bytesV (List.replicate 32 0)).toArray) (by rw [hol]; simp [bytesV]) hob ?_
  intro w2 H2 x2 hs2
  clear hs2
  have e9 : (bytesV (List.replicate 32 0)).take 0 ++ ov ++ (bytesV (List.replicate 32 0)).drop (0 + ov.length) = ov := by
    rw [hol, List.take_zero, List.nil_append, List.drop_of_length_le (by simp [bytesV]), List.append_nil]
  have H2 : Blk w2 w1.heap.size 23 ov := e9 ▸ H2
  have y2 : Ext [] w w2 := (x0.trans x1).trans (((Ext.refl [] w1).alloc _).trans' x2 (by simp))
  clear e9 x2 x0 x1
  generalize w1.heap.size = bk at *
  go_wp2_with fail
  have y2' : Ext [] w (w2.alloc (.cells #[.int .u8 115] 5 (1, 2))) := y2.alloc _
  refine (HSIGN.out _ _ y2' (HB.out w2)).mono ?_
  rintro e w3 ⟨v3, rfl, hown3, x3, -⟩
  have H3 := H2.ext (((Ext.refl _ _).alloc _).trans x3) (by simp)
  have y3 := y2'.trans x3
  rw [hsl] at hown3
  obtain ⟨g3, c3, cur3, rfl, -, hc3, hcm3, -, -⟩ := owns_some hown3 (by omega)
  unfold maxLen at hcm3
  clear y2 y2' x3 H2
  have hu := Tryd.underlying23
  have hsz : (Tryd.prog.info? 23).map (·.size) = some ov.length := by rw [hol]; kernel_rfl
  have HOW := Lib.hid (fun w' (x : Ext [] w3 w') => owns_ext hown3 x (by simp))
  clear hown3
  have z3 : Ext [] w3 w3.drew := (Ext.refl _ _).drew
  go_wp2_with fail
  refine wp_region_held_drew (S := fun w' => Ext [] w3 w') (by kernel_rfl) z3 (fun _ => ?_)
  refine wpAnyH_take (i := 0) (oi := ⟨some 10, _, _, _, _, _⟩) (v := ?_) rfl (by kernel_rfl) (by kernel_rfl) (by kernel_rfl) (fun _ _ _ h => h) (Or.inl ⟨by rfl, ?_⟩) (by assumption) ?_
  rotate_left 1
  · (intro w hSw; (try dsimp only at hSw); go_split_ands; go_simp; (try with_reducible rfl))
  try simp only [Act.put, List.setIfInBounds_toArray, List.set_cons_zero, List.set_cons_succ]
  refine wpAnyH_take (i := 1) (oi := ⟨some 11, _, _, _, _, _⟩) (v := ?_) rfl (by kernel_rfl) (by kernel_rfl) (by kernel_rfl) (fun _ _ _ h => h) (Or.inl ⟨by rfl, ?_⟩) (by assumption) ?_
  rotate_left 1
  · (intro w hSw; (try dsimp only at hSw); go_split_ands; go_simp; (try with_reducible rfl))
  try simp only [Act.put, List.setIfInBounds_toArray, List.set_cons_zero, List.set_cons_succ]
  refine wpAnyH_take (i := 2) (oi := ⟨some 12, _, _, _, _, _⟩) (v := ?_) rfl (by kernel_rfl) (by kernel_rfl) (by kernel_rfl) (fun _ _ _ h => h) (Or.inl ⟨by rfl, ?_⟩) (by assumption) ?_
  rotate_left 1
  · (intro w hSw; (try dsimp only at hSw); go_split_ands; go_simp; (try with_reducible rfl))
  try simp only [Act.put, List.setIfInBounds_toArray, List.set_cons_zero, List.set_cons_succ]
  refine wpAnyH_take (i := 3) (oi := ⟨some 13, _, _, _, _, _⟩) (v := ?_) rfl (by kernel_rfl) (by kernel_rfl) (by kernel_rfl) (fun _ _ _ h => h) (Or.inl ⟨by rfl, ?_⟩) (by assumption) ?_
  rotate_left 1
  · (intro w hSw; (try dsimp only at hSw); go_split_ands; go_simp; (try with_reducible rfl))
  try simp only [Act.put, List.setIfInBounds_toArray, List.set_cons_zero, List.set_cons_succ]
  refine wpAnyH_take (i := 4) (oi := ⟨some 14, _, _, _, _, _⟩) (v := .agg ov.toArray) rfl (by kernel_rfl) (by kernel_rfl) (by kernel_rfl) (fun _ _ _ h => h) (yieldsIf_load_mid (by rfl) _ _ rfl bk 0 rfl ov _ (fun w h => range_of_blk3 (H3.ext h (by simp))) hu rfl hsz) (by assumption) ?_
  try simp only [Act.put, List.setIfInBounds_toArray, List.set_cons_zero, List.set_cons_succ]
  refine wpAnyH_take (i := 5) (oi := ⟨some 15, _, _, _, _, _⟩) (v := ?_) rfl (by kernel_rfl) (by kernel_rfl) (by kernel_rfl) (fun _ _ _ h => h) (Or.inl ⟨by rfl, ?_⟩) (by assumption) ?_
  rotate_left 1
  · (intro w hSw; (try dsimp only at hSw); go_split_ands; go_simp; (try with_reducible rfl))
  try simp only [Act.put, List.setIfInBounds_toArray, List.set_cons_zero, List.set_cons_succ]
  refine wpAnyH_take (i := 6) (oi := ⟨some 16, _, _, _, _, _⟩) (v := ?_) rfl (by kernel_rfl) (by kernel_rfl) (by kernel_rfl) (fun _ _ _ h => h) (Or.inl ⟨by rfl, ?_⟩) (by assumption) ?_
  rotate_left 1
  · (intro w hSw; (try dsimp only at hSw); go_split_ands; have heq := HE.out; go_simp; (try with_reducible rfl))
  try simp only [Act.put, List.setIfInBounds_toArray, List.set_cons_zero, List.set_cons_succ]
  refine wpAnyH_take (i := 7) (oi := ⟨some 17, _, _, _, _, _⟩) (v := ?_) rfl (by kernel_rfl) (by kernel_rfl) (by kernel_rfl) (fun _ _ _ h => h) (Or.inl ⟨by rfl, ?_⟩) (by assumption) ?_
  rotate_left 1
  · (intro w hSw; (try dsimp only at hSw); go_split_ands; go_simp; (try with_reducible rfl))
  try simp only [Act.put, List.setIfInBounds_toArray, List.set_cons_zero, List.set_cons_succ]
  refine wpAnyH_take (i := 8) (oi := ⟨some 18, _, _, _, _, _⟩) (v := ?_) rfl (by kernel_rfl) (by kernel_rfl) (by kernel_rfl) (fun _ _ _ h => h) (Or.inl ⟨by rfl, ?_⟩) (by assumption) ?_
  rotate_left 1
  · (intro w hSw; (try dsimp only at hSw); go_split_ands; go_simp; (try with_reducible rfl))
  try simp only [Act.put, List.setIfInBounds_toArray, List.set_cons_zero, List.set_cons_succ]
  refine wpAnyH_take (i := 9) (oi := ⟨some 19, _, _, _, _, _⟩) (v := .agg ov.toArray) rfl (by kernel_rfl) (by kernel_rfl) (by kernel_rfl) (fun _ _ _ h => h) (yieldsIf_load_mid (by rfl) _ _ rfl bk 0 rfl ov _ (fun w h => range_of_blk3 (H3.ext h (by simp))) hu rfl hsz) (by assumption) ?_
  try simp only [Act.put, List.setIfInBounds_toArray, List.set_cons_zero, List.set_cons_succ]
  refine wpAnyH_take (i := 10) (oi := ⟨some 20, _, _, _, _, _⟩) (v := ?_) rfl (by kernel_rfl) (by kernel_rfl) (by kernel_rfl) (fun _ _ _ h => h) (Or.inl ⟨by rfl, ?_⟩) (by assumption) ?_
  rotate_left 1
  · (intro w hSw; (try dsimp only at hSw); go_split_ands; go_simp; (try with_reducible rfl))
  try simp only [Act.put, List.setIfInBounds_toArray, List.set_cons_zero, List.set_cons_succ]
  refine wpAnyH_take (i := 11) (oi := ⟨some 21, _, _, _, _, _⟩) (v := ?_) rfl (by kernel_rfl) (by kernel_rfl) (by kernel_rfl) (fun _ _ _ h => h) (Or.inl ⟨by rfl, ?_⟩) (by assumption) ?_
  rotate_left 1
  · (intro w hSw; (try dsimp only at hSw); go_split_ands; go_simp; (try with_reducible rfl))
  try simp only [Act.put, List.setIfInBounds_toArray, List.set_cons_zero, List.set_cons_succ]
  refine wpAnyH_ready (rs := [12]) (by kernel_rfl) (by simp) ?_
  refine AllReadyH.cons (o := ⟨some 22, _, _, _, _, _⟩) rfl (fun K hK => ?_) AllReadyH.nil
  go_simp
  refine (HV.out _ _ (y3.trans z3) (HOW.out _ z3)).mono ?_
  rintro e W12 ⟨rfl, x12⟩
  go_simp
  have hk := z3.trans x12
  refine hK.out _ _ hk (fun _ => ?_)
  clear hK K
  try simp only [Act.put, List.setIfInBounds_toArray, List.set_cons_zero, List.set_cons_succ]
  refine wpAnyH_take (i := 13) (oi := ⟨some 23, _, _, _, _, _⟩) (v := ?_) rfl (by kernel_rfl) (by kernel_rfl) (by kernel_rfl) (fun _ _ _ h => h) (Or.inl ⟨by rfl, ?_⟩) (by assumption) ?_
  rotate_left 1
  · (intro w hSw; (try dsimp only at hSw); go_split_ands; go_simp; (try with_reducible rfl))
  try simp only [Act.put, List.setIfInBounds_toArray, List.set_cons_zero, List.set_cons_succ]
  refine wpAnyH_take (i := 14) (oi := ⟨some 24, _, _, _, _, _⟩) (v := ?_) rfl (by kernel_rfl) (by kernel_rfl) (by kernel_rfl) (fun _ _ _ h => h) (Or.inl ⟨by rfl, ?_⟩) (by assumption) ?_
  rotate_left 1
  · (intro w hSw; (try dsimp only at hSw); go_split_ands; go_simp; (try with_reducible rfl))
  try simp only [Act.put, List.setIfInBounds_toArray, List.set_cons_zero, List.set_cons_succ]
  refine wpAnyH_take (i := 15) (oi := ⟨some 25, _, _, _, _, _⟩) (v := ?_) rfl (by kernel_rfl) (by kernel_rfl) (by kernel_rfl) (fun _ _ _ h => h) (Or.inl ⟨by rfl, ?_⟩) (by assumption) ?_
  rotate_left 1
  · (intro w hSw; (try dsimp only at hSw); go_split_ands; go_simp; (try with_reducible rfl))
  try simp only [Act.put, List.setIfInBounds_toArray, List.set_cons_zero, List.set_cons_succ]
  refine wpAnyH_take (i := 16) (oi := ⟨some 26, _, _, _, _, _⟩) (v := .agg ov.toArray) rfl (by kernel_rfl) (by kernel_rfl) (by kernel_rfl) (fun _ _ _ h => h) (yieldsIf_load_mid (by rfl) _ _ rfl bk 0 rfl ov _ (fun w h => range_of_blk3 (H3.ext h (by simp))) hu rfl hsz) (by assumption) ?_
  try simp only [Act.put, List.setIfInBounds_toArray, List.set_cons_zero, List.set_cons_succ]
  refine wpAnyH_take (i := 17) (oi := ⟨some 27, _, _, _, _, _⟩) (v := ?_) rfl (by kernel_rfl) (by kernel_rfl) (by kernel_rfl) (fun _ _ _ h => h) (Or.inl ⟨by rfl, ?_⟩) (by assumption) ?_
  rotate_left 1
  · (intro w hSw; (try dsimp only at hSw); go_split_ands; go_simp; (try with_reducible rfl))
  try simp only [Act.put, List.setIfInBounds_toArray, List.set_cons_zero, List.set_cons_succ]
  refine wpAnyH_take (i := 18) (oi := ⟨some 28, _, _, _, _, _⟩) (v := ?_) rfl (by kernel_rfl) (by kernel_rfl) (by kernel_rfl) (fun _ _ _ h => h) (Or.inl ⟨by rfl, ?_⟩) (by assumption) ?_
  rotate_left 1
  · (intro w hSw; (try dsimp only at hSw); go_split_ands; go_simp; (try with_reducible rfl))
  try simp only [Act.put, List.setIfInBounds_toArray, List.set_cons_zero, List.set_cons_succ]
  refine wpAnyH_take (i := 19) (oi := ⟨some 29, _, _, _, _, _⟩) (v := ?_) rfl (by kernel_rfl) (by kernel_rfl) (by kernel_rfl) (fun _ _ _ h => h) (Or.inl ⟨by rfl, ?_⟩) (by assumption) ?_
  rotate_left 1
  · (intro w hSw; (try dsimp only at hSw); go_split_ands; go_simp; (try with_reducible rfl))
  try simp only [Act.put, List.setIfInBounds_toArray, List.set_cons_zero, List.set_cons_succ]
  refine wpAnyH_ready (rs := [20]) (by kernel_rfl) (by simp) ?_
  refine AllReadyH.cons (o := ⟨some 30, _, _, _, _, _⟩) rfl (fun K hK => ?_) AllReadyH.nil
  go_simp
  refine (HN.out _ _ _ _ (by omega)).mono ?_
  rintro e W20 ⟨rfl, x20⟩
  go_simp
  have hk := (z3.trans x12).trans x20
  refine hK.out _ _ hk (fun _ => ?_)
  clear hK K
  try simp only [Act.put, List.setIfInBounds_toArray, List.set_cons_zero, List.set_cons_succ]
  refine wpAnyH_take (i := 21) (oi := ⟨some 31, _, _, _, _, _⟩) (v := ?_) rfl (by kernel_rfl) (by kernel_rfl) (by kernel_rfl) (fun _ _ _ h => h) (Or.inl ⟨by rfl, ?_⟩) (by assumption) ?_
  rotate_left 1
  · (intro w hSw; (try dsimp only at hSw); go_split_ands; go_simp; (try with_reducible rfl))
  try simp only [Act.put, List.setIfInBounds_toArray, List.set_cons_zero, List.set_cons_succ]
  refine wpAnyH_take (i := 22) (oi := ⟨some 32, _, _, _, _, _⟩) (v := ?_) rfl (by kernel_rfl) (by kernel_rfl) (by kernel_rfl) (fun _ _ _ h => h) (Or.inl ⟨by rfl, ?_⟩) (by assumption) ?_
  rotate_left 1
  · (intro w hSw; (try dsimp only at hSw); go_split_ands; go_simp; (try with_reducible rfl))
  try simp only [Act.put, List.setIfInBounds_toArray, List.set_cons_zero, List.set_cons_succ]
  refine wpAnyH_take (i := 23) (oi := ⟨some 0, _, _, _, _, _⟩) (v := ?_) rfl (by kernel_rfl) (by kernel_rfl) (by kernel_rfl) (fun _ _ _ h => h) (Or.inl ⟨by rfl, ?_⟩) (by assumption) ?_
  rotate_left 1
  · (intro w hSw; (try dsimp only at hSw); go_split_ands; go_simp; (try with_reducible rfl))
  try simp only [Act.put, List.setIfInBounds_toArray, List.set_cons_zero]
  refine wpAnyH_done (by kernel_rfl) ?_ _
  go_wp2_with fail
  go_ret
  exact ⟨rfl, y3.trans ((z3.trans x12).trans x20)⟩

theorem lsigns_any (w : World) (G : DigG w) : Calls Tryd.prog 11 #[] w fun e w' => e = .returned (.bool true) ∧ Ext [] w w' := by
  obtain ⟨K, hK⟩ : ∃ K, K = keyB [115] := ⟨_, rfl⟩
  obtain ⟨SG, hSG⟩ : ∃ SG, SG = signL [115] s5 32 := ⟨_, rfl⟩
  have hKl : K.length = 32 := by rw [hK]; exact keyB_length _
  have hsl : SG.length = 2048 := by rw [hSG]; exact signL_length [115] s5 32
  have hne : decide (K = List.replicate 32 0) = false := by rw [hK]; exact keyS_ne
  have hver : verR K s5 SG = 0 := by rw [hSG, ver_sign [115] s5 s5 (fun _ _ => rfl) K, if_pos hK.symm]
  refine lsigns_core w K SG (Lib.hid fun v w' x' hr => ?_) (Lib.hid fun v w' x' hr => ?_) hsl (Lib.hid fun v w' x' h => ?_) (Lib.hid fun a n c w' hn => verify_no K s5 a n c w' hn) (Lib.hid fun w' => ?_) hKl
  · have h := lkey_any v [115] w' (G.ext x' (by simp) (by simp)) hr (by simp)
    rw [← hK] at h
    exact h
  · have h := lsign_any v [115] s5 w' (G.ext x' (by simp) (by simp)) hr (by simp) rfl
    rw [← hSG] at h
    exact h
  · have h1 := verify_own K s5 SG v w' (G.ext x' (by simp) (by simp)) hKl rfl hsl h
    rw [hver] at h1
    exact h1
  · have h := eq_b32 K (List.replicate 32 0) hKl rfl w'
    rw [hne] at h
    exact h
end Go.Proofs.YtlgihbbcieceoaaDoor
