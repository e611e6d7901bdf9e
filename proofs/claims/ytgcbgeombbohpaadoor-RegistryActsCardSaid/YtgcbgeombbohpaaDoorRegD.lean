/- Package registry: Spend, Find. -/
import Derived.Test.YtgcbgeombbohpaaDoorRegC
namespace Go.Proofs.YtgcbgeombbohpaaDoor
open Go.RowKit
set_option maxRecDepth 100000

theorem rowE_set : ∀ (es : List RE) (k : Nat) (_ : ∀ e ∈ es, e.1.length = 32) (hk : k < es.length), (rowE es).set (k * 33 + 32) (.bool true) = rowE (es.set k (es[k].1, true))
  | [], _, _, hk => by simp at hk
  | e :: es, 0, h, _ => by
    have e1 : ∀ (x : RE) l, rowE (x :: l) = entV x ++ rowE l := fun x l => by simp [rowE]
    have hl := h e (by simp)
    rw [List.set_cons_zero, e1, e1, List.set_append_left _ _ (by rw [entV_length e hl]; omega)]
    congr 1
    unfold entV
    rw [List.set_append_right _ _ (by rw [bytesV_length, hl]; omega), bytesV_length, hl]; rfl
  | e :: es, k + 1, h, hk => by
    have e1 : ∀ (x : RE) l, rowE (x :: l) = entV x ++ rowE l := fun x l => by simp [rowE]
    have h2 := entV_length e (h e (by simp))
    have ih := rowE_set es k (fun x hx => h x (by simp [hx])) (by simpa using hk)
    rw [List.set_cons_succ, e1, e1, List.set_append_right _ _ (by rw [h2]; omega), h2, show (k + 1) * 33 + 32 - 33 = k * 33 + 32 by omega, ih]
    simp

theorem RegAt.spent {w : World} {b g c : Nat} {es : List RE} (h : RegAt w b (.slice (some ⟨g, 0, none⟩) es.length c) es) (k : Nat) (hk : k < es.length) : w.cell? ⟨g, k * 33 + 32, none⟩ = some (.bool (es.getD k ([], false)).2) := by
  have hl := h.len _ (List.getElem_mem hk)
  rw [h.entry k hk 32 (by rw [entV_length _ hl]; omega)]
  have e1 : es.getD k ([], false) = es[k] := by simp [List.getD, hk]
  rw [e1]
  unfold entV
  rw [List.getElem?_append_right (by rw [bytesV_length, hl]; omega), bytesV_length, hl]; rfl

theorem RegAt.spend {w : World} {b g c : Nat} {es : List RE} (h : RegAt w b (.slice (some ⟨g, 0, none⟩) es.length c) es) (k : Nat) (hk : k < es.length) :
    RegAt (w.setCell ⟨g, k * 33 + 32, none⟩ (.bool true)) b (.slice (some ⟨g, 0, none⟩) es.length c) (es.set k ((es.getD k ([], false)).1, true)) := by
  obtain ⟨g', c', cur, he, hb, hc, hm, hl, ht⟩ := owns_some h.own (by omega)
  cases he
  have hne := blk_not_row h.hd (by decide) h.own
  have hne' : b ≠ g := fun e => hne (by rw [e]; rfl)
  have hrl := rowE_length es h.len
  have e1 : es.getD k ([], false) = es[k] := by simp [List.getD, hk]
  refine ⟨h.hd.setOther hne' _, ?_, ?_⟩
  · rw [List.length_set]
    refine ⟨?_, .inr ⟨g, c, (cur.set (k * 33 + 32) (.bool true)).toArray, rfl, Nat.zero_le _, hb.set _ _, hc, hm, by simpa using hl, ?_⟩⟩
    · rw [e1, ← rowE_set es k h.len hk, List.length_set, hrl]
    · rw [e1, ← rowE_set es k h.len hk, ← ht, List.take_set]
  · intro e he
    rcases List.mem_or_eq_of_mem_set he with h1 | h1
    · exact h.len e h1
    · rw [h1, e1]; exact h.len es[k] (List.getElem_mem hk)

set_option maxHeartbeats 4000000 in
theorem rspend_any (b : Nat) (v : Value) (es : List RE) (i : Int) (w : World) (h : RegAt w b v es) (hn : es.length ≤ 1000) :
    Calls Tryd.prog 13 #[.pointer (some ⟨b, 0, none⟩), .int .i64 i] w fun e' w' => RegPost w b v (spE es i) (spL es i) e' w' := by
  have HSAME := Lib.hid (fun E => RegPost.same (E := E) h (Ext.refl _ _))
  have hc := h.hd.cell 0
  by_cases h0 : i < 0
  · have HE := Lib.hid (show spE es i = 2 ∧ spL es i = es from ⟨if_pos (.inl h0), if_pos (.inl h0)⟩)
    obtain ⟨va, vc, rfl⟩ := owns_slice h.own
    generalize spE es i = E at *
    generalize spL es i = L at *
    clear h
    go_enter Tryd.func13, Tryd.ntmps13
    go_wp2
    go_ret
    rw [HE.out.1, HE.out.2]
    exact HSAME.out 2
  · by_cases h1 : (es.length : Int) ≤ i
    · have HE := Lib.hid (show spE es i = 2 ∧ spL es i = es from ⟨if_pos (.inr h1), if_pos (.inr h1)⟩)
      obtain ⟨va, vc, rfl⟩ := owns_slice h.own
      generalize spE es i = E at *
      generalize spL es i = L at *
      have h2 : 0 ≤ i := by omega
      clear h h0
      go_enter Tryd.func13, Tryd.ntmps13
      go_wp2
      go_ret
      rw [HE.out.1, HE.out.2]
      exact HSAME.out 2
    · obtain ⟨k, rfl⟩ := Int.eq_ofNat_of_zero_le (show 0 ≤ i by omega)
      have hk : k < es.length := by omega
      obtain ⟨g, c', cur, rfl, hb9, hcc, hcm, -, -⟩ := owns_some h.own (by omega)
      unfold maxLen at hcm
      have hsp := h.spent k hk
      have HSP := Lib.hid (h.spend k hk)
      have hf := hb9.frozen (k * 33 + 32)
      by_cases hB : (es.getD k ([], false)).2 = true
      · have HE := Lib.hid (show spE es (k : Int) = 129 ∧ spL es (k : Int) = es from ⟨by unfold spE; rw [if_neg (by omega), Int.toNat_natCast, if_pos hB], by unfold spL; rw [if_neg (by omega), Int.toNat_natCast, if_pos hB]⟩)
        rw [hB] at hsp
        generalize spE es (k : Int) = E at *
        generalize spL es (k : Int) = L at *
        clear h h0 h1 hb9 hB
        go_enter Tryd.func13, Tryd.ntmps13
        go_wp2
        go_ret
        rw [HE.out.1, HE.out.2]
        exact HSAME.out 129
      · have HE := Lib.hid (show spE es (k : Int) = 0 ∧ spL es (k : Int) = es.set k ((es.getD k ([], false)).1, true) from ⟨by unfold spE; rw [if_neg (by omega), Int.toNat_natCast, if_neg hB], by unfold spL; rw [if_neg (by omega), Int.toNat_natCast, if_neg hB]⟩)
        rw [show (es.getD k ([], false)).2 = false by simpa using hB] at hsp
        generalize spE es (k : Int) = E at *
        generalize spL es (k : Int) = L at *
        generalize es.set k ((es.getD k ([], false)).1, true) = L' at *
        clear h h0 h1 hb9 hB
        go_enter Tryd.func13, Tryd.ntmps13
        go_wp2
        go_ret
        rw [HE.out.1, HE.out.2]
        exact ⟨_, rfl, HSP.out, (Ext.refl _ _).setCell (p := ⟨g, k * 33 + 32, none⟩) (.inl (by simp [Value.ownBlock])) _, fun g hg => .inl hg⟩

/-! ### Find -/
def fsP (sum s : List UInt8) (e : RE) : Bool := !e.2 && decide (verR e.1 sum s = 0)
def fsN (es : List RE) (sum s : List UInt8) : Nat := es.findIdx (fsP sum s)
/-- What Find answers. -/
def fsV (es : List RE) (sum s : List UInt8) : Value := if s.length = 2048 then (if fsN es sum s < es.length then .tuple #[.int .i64 (fsN es sum s : Int), .int .i64 0] else .tuple #[.int .i64 0, .int .i64 129]) else .tuple #[.int .i64 0, .int .i64 22]
theorem fsN_at (es : List RE) (sum s : List UInt8) (k : Nat) (hk : k < es.length) (h : ∀ j, j < k → (es[j]?.map (fsP sum s)) ≠ some true) (he : fsP sum s es[k] = true) : fsN es sum s = k := by
  unfold fsN
  rw [List.findIdx_eq hk]
  refine ⟨he, fun j hj => ?_⟩
  have := h j hj
  rw [List.getElem?_eq_getElem (by omega)] at this
  simpa using this
theorem fsN_none (es : List RE) (sum s : List UInt8) (h : ∀ j, j < es.length → (es[j]?.map (fsP sum s)) ≠ some true) : fsN es sum s = es.length := by
  unfold fsN
  rw [List.findIdx_eq_length]
  intro e he
  obtain ⟨j, hj, rfl⟩ := List.getElem_of_mem he
  have := h j hj
  rw [List.getElem?_eq_getElem hj] at this
  simpa using this
end Go.Proofs.YtgcbgeombbohpaaDoor
