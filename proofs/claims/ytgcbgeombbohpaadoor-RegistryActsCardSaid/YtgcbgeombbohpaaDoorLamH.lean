/- Layer 2: what a seed signs fits its key; Verify of a row of the call's own. -/
import Derived.Deep.RegionHeld3
import Derived.Test.YtgcbgeombbohpaaDoorLamC
import Derived.Test.YtgcbgeombbohpaaDoorLamP
import Derived.Lib.SlBytesConst
namespace Go.Proofs.YtgcbgeombbohpaaDoor
open Go.RowKit
set_option maxRecDepth 100000

/-! ### What a seed signs fits its key -/
def sigP (seed sum : List UInt8) (k : Nat) : List UInt8 := secB seed k (bitM sum k) ++ sumOf (secB seed k (1 - bitM sum k))
theorem sigP_length (seed sum : List UInt8) (k : Nat) : (sigP seed sum k).length = 64 := by simp [sigP, secB_length, sumOf_length]
theorem signL_split (seed sum : List UInt8) (k : Nat) : ∀ n, k < n → ∃ r, signL seed sum n = signL seed sum k ++ (sigP seed sum k ++ r)
  | 0, h => absurd h (by omega)
  | n + 1, h => by
    have e : signL seed sum (n + 1) = signL seed sum n ++ sigP seed sum n := by rw [signL_succ, List.append_assoc]; rfl
    by_cases hk : k = n
    · subst hk; exact ⟨[], by rw [e, List.append_nil]⟩
    · obtain ⟨r, hr⟩ := signL_split seed sum k n (by omega)
      exact ⟨r ++ sigP seed sum n, by rw [e, hr]; simp only [List.append_assoc]⟩
theorem fit_sign (seed sum : List UInt8) (k : Nat) (hk : k < 32) (t : List UInt8) (ht : bitM t k = bitM sum k) : fitQ t (signL seed sum 32) k k = sumOf (secB seed k 0) ++ sumOf (secB seed k 1) := by
  obtain ⟨r, hr⟩ := signL_split seed sum k 32 hk
  have hl := signL_length seed sum k
  have h1 : ((signL seed sum 32).drop (64 * k)).take 32 = secB seed k (bitM sum k) := by
    rw [hr, ← hl, List.drop_left]
    unfold sigP
    rw [List.append_assoc, List.take_append_of_le_length (by rw [secB_length]; omega), List.take_of_length_le (by rw [secB_length]; omega)]
  have h2 : ((signL seed sum 32).drop (64 * k + 32)).take 32 = sumOf (secB seed k (1 - bitM sum k)) := by
    rw [hr, ← List.drop_drop, ← hl, List.drop_left]
    unfold sigP
    rw [List.append_assoc, List.drop_append_of_le_length (by rw [secB_length]; omega), List.drop_of_length_le (by rw [secB_length]; omega), List.nil_append, List.take_append_of_le_length (by rw [sumOf_length]; omega), List.take_of_length_le (by rw [sumOf_length]; omega)]
  unfold fitQ
  rw [h1, h2, ht]
  have hb := bitM_lt sum k
  by_cases h : bitM sum k = 1
  · rw [if_pos h, h]
  · rw [if_neg h, show bitM sum k = 0 by omega]
theorem fitL_sign (seed sum t : List UInt8) (ht : ∀ i, i < 32 → bitM t i = bitM sum i) : ∀ k, k ≤ 32 → fitL t (signL seed sum 32) k = keyL seed k
  | 0, _ => rfl
  | k + 1, h => by rw [fitL_succ, keyL_succ, fitL_sign seed sum t ht k (by omega), fit_sign seed sum k (by omega) t (ht k (by omega)), List.append_assoc]
theorem ver_sign (seed sum t : List UInt8) (ht : ∀ i, i < 32 → bitM t i = bitM sum i) (key : List UInt8) : verR key t (signL seed sum 32) = if keyB seed = key then 0 else 129 := by
  unfold verR
  rw [fitL_sign seed sum t ht 32 (Nat.le_refl _)]; rfl

theorem range_of_blk3 {w : World} {b : Nat} {T : TypeId} {cs : List Value} (h : Blk w b T cs) : w.rangeAt b 0 cs := fun j v hv => by
  rw [Nat.zero_add, h.cell]; exact hv
theorem keyB_length (seed : List UInt8) : (keyB seed).length = 32 := sumOf_length _
theorem eq_b32 (a b : List UInt8) (ha : a.length = 32) (hb : b.length = 32) : ∀ w, (Op.equalIn 10000 22 (.agg (bytesV a).toArray) (.agg (bytesV b).toArray)).run Tryd.prog w = .ok (decide (a = b)) w :=
  run_equal_bytes (P := Tryd.prog) 9998 Tryd.underlying22 Tryd.underlying5 (by kernel_rfl) (by kernel_rfl) a b ha hb

theorem verify_own (key sum s : List UInt8) (v : Value) (w : World) (G : DigG w) (hkl : key.length = 32) (hsl : sum.length = 32) (hs : s.length = 2048) (h : w.ownsRow 0 5 1 v 2048 (bytesV s)) :
    Calls Tryd.prog 26 #[.agg (bytesV key).toArray, .agg (bytesV sum).toArray, v] w fun e w' => e = .returned (.int .i64 (verR key sum s)) ∧ Ext [] w w' := by
  obtain ⟨g, cap, cur, rfl, hb, hc, -, -, -⟩ := owns_some h (by omega)
  refine verify_any key sum s g 0 cap w G hkl hsl hs hc hb.lt ?_
  intro j hj
  rw [Nat.zero_add, h.cellAt j (by omega), bytesV_at s j (by omega)]

/-- A text of one byte, laid by a conversion. -/
theorem one_byte (w : World) (x : UInt8) : Reads (w.alloc (.cells #[.int .u8 (x.toNat : Int)] 5 (1, 2))) (.slice (some ⟨w.heap.size, 0, none⟩) 1 1) 1 1 (bytesV [x]) := by
  refine ⟨_, _, rfl, rfl, (fun e => by cases e), fun ad e j u hu => ?_⟩
  obtain rfl := Option.some.inj e
  rw [Addr.add_lit, Nat.zero_add]
  simp [World.cell?, World.alloc, -World.alloc_eq]
  exact hu
end Go.Proofs.YtgcbgeombbohpaaDoor
