/- slices.Reverse at []int: the row of the call's own, turned round. -/
import Derived.Test.YtbjkfgfiifnjoaaDoorBase
import Derived.Test.YtbjkfgfiifnjoaaDoorRows
namespace Go.Proofs.YtbjkfgfiifnjoaaDoor
open Go.RowKit
set_option maxRecDepth 100000

/-- The first i and the last i turned round. -/
def revTo {α : Type} (l : List α) (i : Nat) : List α :=
  (List.range l.length).attach.map fun ⟨j, hj⟩ => have : j < l.length := by simpa using hj
    if j < i ∨ l.length - 1 - j < i then l[l.length - 1 - j] else l[j]

theorem revTo_length {α : Type} (l : List α) (i : Nat) : (revTo l i).length = l.length := by simp [revTo]
theorem revTo_get {α : Type} (l : List α) (i j : Nat) (hj : j < l.length) : (revTo l i)[j]'(by rw [revTo_length]; exact hj) = if j < i ∨ l.length - 1 - j < i then l[l.length - 1 - j] else l[j] := by
  simp [revTo]
theorem revTo_zero {α : Type} (l : List α) : revTo l 0 = l := by
  apply List.ext_getElem
  · simp [revTo_length]
  · intro j h1 h2
    rw [revTo_get l 0 j h2, if_neg (by omega)]
theorem revTo_all {α : Type} (l : List α) (i : Nat) (h : l.length ≤ 2 * i + 1) : revTo l i = l.reverse := by
  apply List.ext_getElem
  · simp [revTo_length]
  · intro j h1 h2
    rw [revTo_length] at h1
    rw [revTo_get l i j h1, List.getElem_reverse]
    split
    · rfl
    · rename_i hn
      have : j = l.length - 1 - j := by omega
      congr 1
theorem revTo_succ {α : Type} (l : List α) (i : Nat) (h : 2 * i + 1 < l.length) :
    ((revTo l i).set i (l[l.length - 1 - i])).set (l.length - 1 - i) (l[i]) = revTo l (i + 1) := by
  apply List.ext_getElem
  · simp [revTo_length]
  · intro j h1 h2
    simp only [List.length_set, revTo_length] at h1
    rw [revTo_get l (i + 1) j h1]
    simp only [List.getElem_set]
    by_cases e1 : l.length - 1 - i = j
    · subst e1
      rw [if_pos rfl, if_pos (by omega)]
      congr 1; omega
    · rw [if_neg e1]
      by_cases e2 : i = j
      · subst e2
        rw [if_pos rfl, if_pos (by omega)]
      · rw [if_neg e2, revTo_get l i j h1]
        by_cases e3 : j < i ∨ l.length - 1 - j < i
        · rw [if_pos e3, if_pos (by omega)]
        · rw [if_neg e3, if_neg (by omega)]

set_option maxHeartbeats 1000000 in
theorem reverse_ints (b cap n : Nat) (zs : List Int) (rest : List Value) (w : World) (hlen : zs.length = n) (hm : n ≤ 9223372036854775807) (h : Blk w b 3 (zs.map (Value.int .i64) ++ rest)) :
    Calls Tryd.prog 171 #[.slice (some ⟨b, 0, none⟩) n cap] w fun e w' => e = .returned (.tuple #[]) ∧
      Blk w' b 3 (zs.reverse.map (Value.int .i64) ++ rest) ∧ Ext [b] w w' ∧ w'.heap.size = w.heap.size := by
  have HN := Lib.hid hlen
  clear hlen
  go_enter Tryd.func171, Tryd.ntmps171
  go_wp2
  go_loopw [2, 3] (fun x y wr => ∃ i : Nat, 2 * i ≤ n + 1 ∧ x = .int .i64 i ∧ y = .int .i64 ((n : Int) - 1 - i) ∧ Blk wr b 3 ((revTo zs i).map (Value.int .i64) ++ rest) ∧ Ext [b] w wr ∧ wr.heap.size = w.heap.size) (fun x _ _ => n - (intOf x).toNat)
  case atStart => exact ⟨0, by omega, rfl, by go_num, by rw [revTo_zero]; exact h, Ext.refl _ _, rfl⟩
  case round =>
    clear h
    obtain ⟨i, hi, rfl, rfl, H, x, hz⟩ := hrel
    by_cases hlt : 2 * i + 1 < n
    · have hn := HN.out
      have g1 := H.cell i
      have g2 := H.cell (n - 1 - i)
      have f1 := H.frozen i
      have f2 := H.frozen (n - 1 - i)
      have e1 : ((revTo zs i).map (Value.int .i64) ++ rest)[i]? = some (.int .i64 (zs[i]'(by omega))) := by
        rw [List.getElem?_append_left (by rw [List.length_map, revTo_length]; omega), List.getElem?_map, List.getElem?_eq_getElem (by rw [revTo_length]; omega), revTo_get _ _ _ (by omega), if_neg (by omega)]; rfl
      have e2 : ((revTo zs i).map (Value.int .i64) ++ rest)[n - 1 - i]? = some (.int .i64 (zs[n - 1 - i]'(by omega))) := by
        rw [List.getElem?_append_left (by rw [List.length_map, revTo_length]; omega), List.getElem?_map, List.getElem?_eq_getElem (by rw [revTo_length]; omega), revTo_get _ _ _ (by omega), if_neg (by omega)]; rfl
      rw [e1] at g1
      rw [e2] at g2
      have hs := revTo_succ zs i (by omega)
      simp only [hn] at hs
      generalize zs[i]'(by omega) = p at *
      generalize zs[n - 1 - i]'(by omega) = q at *
      clear e1 e2
      have HS := Lib.hid hs
      have HZ := Lib.hid hz
      clear hs hz hn
      go_wp2
      go_region
      go_wp2
      go_roundw
      case rel =>
        have hn := HN.out
        refine ⟨i + 1, by omega, by go_num, by go_num, ?_, ?_, ?_⟩
        · have := ((H.set i (Value.int .i64 q)).set (n - 1 - i) (Value.int .i64 p))
          rw [List.set_append_left _ _ (by rw [List.length_map, revTo_length]; omega), List.set_append_left _ _ (by rw [List.length_set, List.length_map, revTo_length]; omega), ← List.map_set, ← List.map_set, HS.out] at this
          exact this
        · exact ((x.drew.setCell (.inl (by simp)) _).setCell (.inl (by simp)) _)
        · simpa using HZ.out
      case measure => simp [intOf]; omega
    · go_wp2
      go_end0
      refine ⟨rfl, ?_, x, hz⟩
      have hn := HN.out
      rw [revTo_all _ _ (by omega)] at H
      simpa using H

theorem reverse_own (b cap n : Nat) (zs : List Int) (w : World) (hn : n = zs.length) (hm : zs.length ≤ 9223372036854775807) (h : w.ownsRow 0 3 1 (.slice (some ⟨b, 0, none⟩) n cap) n (zs.map (Value.int .i64))) :
    Calls Tryd.prog 171 #[.slice (some ⟨b, 0, none⟩) n cap] w fun e w' => e = .returned (.tuple #[]) ∧
      w'.ownsRow 0 3 1 (.slice (some ⟨b, 0, none⟩) n cap) n (zs.reverse.map (Value.int .i64)) ∧ Ext [b] w w' ∧ w'.heap.size = w.heap.size := by
  subst hn
  rcases h.2 with ⟨h', _⟩ | ⟨g, cp, cur, h', hb, hg, hnc, hcm, hcs, htake⟩
  · simp at h'
  · simp only [Value.slice.injEq, Option.some.injEq, Addr.mk.injEq, and_true, true_and] at h'
    obtain ⟨rfl, rfl⟩ := h'
    have hc : cur.toList = zs.map (Value.int .i64) ++ cur.toList.drop zs.length := by
      rw [Nat.mul_one] at htake
      rw [← htake, List.take_append_drop]
    have hblk : Blk w b 3 (zs.map (Value.int .i64) ++ cur.toList.drop zs.length) := by
      rw [← hc]; simpa [Blk] using hg
    refine (reverse_ints b cap _ zs _ w rfl hm hblk).mono ?_
    rintro e w' ⟨rfl, h1, h2, h3⟩
    refine ⟨rfl, ⟨by simp, .inr ⟨b, cap, _, rfl, hb, h1, hnc, hcm, ?_, ?_⟩⟩, h2, h3⟩
    · simp only [List.size_toArray, List.length_append, List.length_map, List.length_reverse, List.length_drop, Array.length_toList]; omega
    · rw [Nat.mul_one]
      exact List.take_left' (by simp)

end Go.Proofs.YtbjkfgfiifnjoaaDoor
