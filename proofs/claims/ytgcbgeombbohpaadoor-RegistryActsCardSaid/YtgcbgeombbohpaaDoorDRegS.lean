/- The reference of layer 3: DocSpend, DocAdd. -/
import Derived.Test.YtgcbgeombbohpaaDoorDReg
import Derived.Test.YtgcbgeombbohpaaDoorMark
import Derived.Test.YtgcbgeombbohpaaDoorRegD
namespace Go.Proofs.YtgcbgeombbohpaaDoor
open Go.RowKit
set_option maxRecDepth 100000

def DocPost (w : World) (bd : Nat) (vk vs : Value) (E : Int) (es : List RE) (e : Ending) (w' : World) : Prop :=
  ∃ vk' vs', e = .returned (.int .i64 E) ∧ DocR w' bd vk' vs' es ∧ Ext (bd :: (vk.ownBlock.toList ++ vs.ownBlock.toList)) w w' ∧ (∀ g, vk'.ownBlock = some g → vk.ownBlock = some g ∨ w.heap.size ≤ g) ∧ ∀ g, vs'.ownBlock = some g → vs.ownBlock = some g ∨ w.heap.size ≤ g
theorem DocPost.same {w w' : World} {bd : Nat} {vk vs : Value} {E : Int} {es : List RE} (h : DocR w bd vk vs es) (x : Ext [] w w') : DocPost w bd vk vs E es (.returned (.int .i64 E)) w' :=
  ⟨vk, vs, rfl, h.ext0 x, x.sub (by simp), fun _ hg => .inl hg, fun _ hg => .inl hg⟩

theorem keysV_set (es : List RE) (k : Nat) (hk : k < es.length) (b : Bool) : keysV (es.set k (es[k].1, b)) = keysV es := by
  unfold keysV
  congr 1
  apply List.ext_getElem (by simp)
  intro i h1 h2
  simp only [List.getElem_map, List.getElem_set]
  split
  · rename_i h; subst h; rfl
  · rfl
theorem spentV_set (es : List RE) (k : Nat) (x : List UInt8) (b : Bool) : spentV (es.set k (x, b)) = (spentV es).set k (.bool b) := by simp [spentV, List.map_set]

theorem DocR.spend {w : World} {bd g c : Nat} {vk : Value} {es : List RE} (d : DocR w bd vk (.slice (some ⟨g, 0, none⟩) es.length c) es) (k : Nat) (hk : k < es.length) :
    DocR (w.setCell ⟨g, k, none⟩ (.bool true)) bd vk (.slice (some ⟨g, 0, none⟩) es.length c) (es.set k ((es.getD k ([], false)).1, true)) := by
  obtain ⟨g', c', cur, he, hb, hc, hm, hl, ht⟩ := owns_some d.s (by omega)
  cases he
  have e1 : es.getD k ([], false) = es[k] := by simp [List.getD, hk]
  have hne : bd ≠ g := fun e => d.ns g rfl e.symm
  have x : Ext [g] w (w.setCell ⟨g, k, none⟩ (.bool true)) := (Ext.refl _ _).setCell (.inl (by simp)) _
  rw [e1]
  refine ⟨d.h.setOther hne _, ?_, ?_, ?_, d.nk, d.ns, d.ks⟩
  · rw [keysV_set es k hk, List.length_set]
    exact owns_ext d.k x (fun q hq => by have := d.ks q hq; simp [Value.ownBlock] at this; simp; omega)
  · rw [spentV_set, List.length_set]
    refine ⟨?_, .inr ⟨g, c, (cur.set k (.bool true)).toArray, rfl, Nat.zero_le _, hb.set _ _, hc, hm, by simpa using hl, ?_⟩⟩
    · rw [List.length_set]; simp [spentV]
    · rw [← ht, List.take_set]
  · intro e he
    rcases List.mem_or_eq_of_mem_set he with h1 | h1
    · exact d.len e h1
    · rw [h1]; exact d.len es[k] (List.getElem_mem hk)

set_option maxHeartbeats 4000000 in
theorem doc_spend (bd : Nat) (vk vs : Value) (es : List RE) (i : Int) (w : World) (D : DocR w bd vk vs es) (hn : es.length ≤ 1000) :
    Calls Tryd.prog 20 #[.pointer (some ⟨bd, 0, none⟩), .int .i64 i] w fun e' w' => DocPost w bd vk vs (spE es i) (spL es i) e' w' := by
  have HSAME := Lib.hid (fun E => DocPost.same (E := E) D (Ext.refl _ _))
  obtain ⟨ka, kc, rfl⟩ := owns_slice D.k
  obtain ⟨c72, c73, hbl⟩ := D.cells
  by_cases h0 : i < 0
  · have HE := Lib.hid (show spE es i = 2 ∧ spL es i = es from ⟨if_pos (.inl h0), if_pos (.inl h0)⟩)
    generalize spE es i = E at *
    generalize spL es i = L at *
    clear D
    go_enter Tryd.func20, Tryd.ntmps20
    go_wp2
    go_ret
    rw [HE.out.1, HE.out.2]
    exact HSAME.out 2
  · by_cases h1 : (es.length : Int) ≤ i
    · have HE := Lib.hid (show spE es i = 2 ∧ spL es i = es from ⟨if_pos (.inr h1), if_pos (.inr h1)⟩)
      generalize spE es i = E at *
      generalize spL es i = L at *
      have h2 : 0 ≤ i := by omega
      clear D h0
      go_enter Tryd.func20, Tryd.ntmps20
      go_wp2
      go_ret
      rw [HE.out.1, HE.out.2]
      exact HSAME.out 2
    · obtain ⟨k, rfl⟩ := Int.eq_ofNat_of_zero_le (show 0 ≤ i by omega)
      have hk : k < es.length := by omega
      obtain ⟨g, c', cur, rfl, hb9, hcc, hcm, -, -⟩ := owns_some D.s (by omega)
      have hsp := D.spent k hk
      have HSP := Lib.hid (D.spend k hk)
      have hf := hb9.frozen k
      have e1 : es.getD k ([], false) = es[k] := by simp [List.getD, hk]
      by_cases hB : (es.getD k ([], false)).2 = true
      · have HE := Lib.hid (show spE es (k : Int) = 129 ∧ spL es (k : Int) = es from ⟨by unfold spE; rw [if_neg (by omega), Int.toNat_natCast, if_pos hB], by unfold spL; rw [if_neg (by omega), Int.toNat_natCast, if_pos hB]⟩)
        rw [← e1, hB] at hsp
        generalize spE es (k : Int) = E at *
        generalize spL es (k : Int) = L at *
        clear D h0 h1 hb9 hB e1
        go_enter Tryd.func20, Tryd.ntmps20
        go_wp2
        go_ret
        rw [HE.out.1, HE.out.2]
        exact HSAME.out 129
      · have HE := Lib.hid (show spE es (k : Int) = 0 ∧ spL es (k : Int) = es.set k ((es.getD k ([], false)).1, true) from ⟨by unfold spE; rw [if_neg (by omega), Int.toNat_natCast, if_neg hB], by unfold spL; rw [if_neg (by omega), Int.toNat_natCast, if_neg hB]⟩)
        rw [← e1, show (es.getD k ([], false)).2 = false by simpa using hB] at hsp
        generalize spE es (k : Int) = E at *
        generalize spL es (k : Int) = L at *
        generalize es.set k ((es.getD k ([], false)).1, true) = L' at *
        clear D h0 h1 hb9 hB e1
        go_enter Tryd.func20, Tryd.ntmps20
        go_wp2
        go_ret
        rw [HE.out.1, HE.out.2]
        exact ⟨_, _, rfl, HSP.out, (Ext.refl _ _).setCell (p := ⟨g, k, none⟩) (.inl (by simp [Value.ownBlock])) _, fun g hg => .inl hg, fun g hg => .inl hg⟩

end Go.Proofs.YtgcbgeombbohpaaDoor
