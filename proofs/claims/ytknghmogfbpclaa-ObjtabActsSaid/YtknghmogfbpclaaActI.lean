/- The statement ObjtabActs: both tables side by side. -/
import Derived.Deep.CutRange
import Derived.Deep.CutBlock
import Derived.Test.YtknghmogfbpclaaObjLaw
import Derived.Test.YtknghmogfbpclaaObjLive
import Derived.Test.YtknghmogfbpclaaDocH
namespace Go.Proofs.Ytknghmogfbpclaa
open Go.RowKit
set_option maxRecDepth 100000

structure ActI (B : Nat) (w : World) (bt bm bd : Nat) (v : Value) (size next : Nat) (l : List Ent) : Prop where
  o : I.ObjAt w bt bm size next l
  d : DocAt w bd v size next l
  ints : ∀ x ∈ l, ∃ z : Int, x.x = .int .i64 z
  n1 : bd ≠ bt ∧ bd ≠ bm ∧ ∀ x ∈ l, x.b ≠ bd
  n2 : ∀ g, v.ownBlock = some g → g ≠ bt ∧ g ≠ bm ∧ ∀ x ∈ l, x.b ≠ g
  ap : B ≤ bt ∧ B ≤ bm ∧ B ≤ bd ∧ (∀ x ∈ l, B ≤ x.b) ∧ ∀ g, v.ownBlock = some g → B ≤ g
section
variable {B : Nat} {w w' w2 : World} {bt bm bd : Nat} {v v' : Value} {size next : Nat} {l : List Ent}
theorem ActI.ext0 (h : ActI B w bt bm bd v size next l) (x : Ext [] w w') : ActI B w' bt bm bd v size next l := ⟨h.o.ext0 x, h.d.ext0 x, h.ints, h.n1, h.n2, h.ap⟩
/-- All blocks that it lies in are there. -/
theorem ActI.lts (h : ActI B w bt bm bd v size next l) : bt < w.heap.size ∧ bm < w.heap.size ∧ bd < w.heap.size ∧ (∀ x ∈ l, x.b < w.heap.size) ∧ ∀ g, v.ownBlock = some g → g < w.heap.size :=
  ⟨h.o.t.lt, h.o.m.lt, h.d.h.lt, fun x hx => (h.o.e x hx).lt, fun _ hg => owns_lt h.d.own hg⟩
/-- The document's table is not touched by what the program's does. -/
theorem ActI.docP (h : ActI B w bt bm bd v size next l) {S : List Nat} (x : Ext S w w') (hS : ∀ i ∈ S, i = bt ∨ i = bm ∨ ∃ y ∈ l, i = y.b) : DocAt w' bd v size next l := by
  refine h.d.ext x (fun hm => ?_) (fun g hg hm => ?_)
  · rcases hS _ hm with e | e | ⟨y, hy, e⟩
    · exact h.n1.1 e
    · exact h.n1.2.1 e
    · exact h.n1.2.2 y hy e.symm
  · rcases hS _ hm with e | e | ⟨y, hy, e⟩
    · exact (h.n2 g hg).1 e
    · exact (h.n2 g hg).2.1 e
    · exact (h.n2 g hg).2.2 y hy e.symm
/-- Made in both. -/
theorem ActI.made (h : ActI B w bt bm bd v size next l) {b : Nat} {z : Int} (hB : B ≤ w.heap.size) (hb : w.heap.size ≤ b) (ho : I.ObjAt w' bt bm size (next + 1) (l ++ [⟨next + 1, b, .int .i64 z, 1⟩])) (x : Ext [bt, bm] w w')
    (hd : ∀ b, DocAt w2 bd v' size (next + 1) (l ++ [⟨next + 1, b, .int .i64 z, 1⟩])) (y : Ext (bd :: v.ownBlock.toList) w' w2) (hf : v'.ownBlock = v.ownBlock ∨ ∃ g, v'.ownBlock = some g ∧ w'.heap.size ≤ g) :
    ActI B w2 bt bm bd v' size (next + 1) (l ++ [⟨next + 1, b, .int .i64 z, 1⟩]) := by
  obtain ⟨l1, l2, l3, l4, l5⟩ := h.lts
  have hb' : b < w'.heap.size := (ho.e ⟨next + 1, b, .int .i64 z, 1⟩ (by simp)).lt
  have hsz := x.size
  have hin : ∀ i, i ∈ bd :: v.ownBlock.toList → i = bd ∨ v.ownBlock = some i := by
    intro i hi
    rcases List.mem_cons.1 hi with e | e
    · exact .inl e
    · exact .inr (by simpa using e)
  have hv : ∀ g, v'.ownBlock = some g → v.ownBlock = some g ∨ w'.heap.size ≤ g := by
    intro g hg
    rcases hf with e | ⟨g', e, e2⟩
    · exact .inl (e ▸ hg)
    · rw [e] at hg; cases hg; exact .inr e2
  refine ⟨ho.ext y ?_ ?_ ?_, hd b, ?_, ⟨h.n1.1, h.n1.2.1, ?_⟩, ?_, ⟨h.ap.1, h.ap.2.1, h.ap.2.2.1, ?_, ?_⟩⟩
  · intro hm
    rcases hin _ hm with e | e
    · exact h.n1.1 e.symm
    · exact (h.n2 _ e).1 rfl
  · intro hm
    rcases hin _ hm with e | e
    · exact h.n1.2.1 e.symm
    · exact (h.n2 _ e).2.1 rfl
  · intro q hq hm
    rcases List.mem_append.1 hq with hq | hq
    · rcases hin _ hm with e | e
      · exact h.n1.2.2 q hq e
      · exact (h.n2 _ e).2.2 q hq rfl
    · simp at hq
      subst hq
      rcases hin _ hm with e | e
      · simp at e; omega
      · have := l5 _ e; simp at this; omega
  · intro q hq
    rcases List.mem_append.1 hq with hq | hq
    · exact h.ints q hq
    · simp at hq; subst hq; exact ⟨z, rfl⟩
  · intro q hq
    rcases List.mem_append.1 hq with hq | hq
    · exact h.n1.2.2 q hq
    · simp at hq; subst hq; show b ≠ bd; omega
  · intro g hg
    rcases hv g hg with e | e
    · refine ⟨(h.n2 g e).1, (h.n2 g e).2.1, fun q hq => ?_⟩
      rcases List.mem_append.1 hq with hq | hq
      · exact (h.n2 g e).2.2 q hq
      · simp at hq; subst hq; have := l5 g e; show b ≠ g; omega
    · refine ⟨by omega, by omega, fun q hq => ?_⟩
      rcases List.mem_append.1 hq with hq | hq
      · have := l4 q hq; omega
      · simp at hq; subst hq; show b ≠ g; omega
  · intro q hq
    rcases List.mem_append.1 hq with hq | hq
    · exact h.ap.2.2.2.1 q hq
    · simp at hq; subst hq; show B ≤ b; omega
  · intro g hg
    rcases hv g hg with e | e
    · exact h.ap.2.2.2.2 g e
    · omega
/-- One is held otherwise, in both. -/
theorem ActI.setH (h : ActI B w bt bm bd v size next l) (j : Nat) (hj : j < l.length) (h' : Nat) (ho : I.ObjAt w2 bt bm size next (l.set j { l[j] with h := h' })) (hd : DocAt w2 bd v size next (l.set j { l[j] with h := h' })) :
    ActI B w2 bt bm bd v size next (l.set j { l[j] with h := h' }) := by
  have hm : ∀ y ∈ l.set j { l[j] with h := h' }, ∃ x ∈ l, y.b = x.b ∧ y.x = x.x := by
    intro y hy
    rcases List.mem_or_eq_of_mem_set hy with e | e
    · exact ⟨y, e, rfl, rfl⟩
    · exact ⟨l[j], List.getElem_mem hj, by rw [e], by rw [e]⟩
  refine ⟨ho, hd, fun y hy => ?_, ⟨h.n1.1, h.n1.2.1, fun y hy => ?_⟩, fun g hg => ⟨(h.n2 g hg).1, (h.n2 g hg).2.1, fun y hy => ?_⟩, ⟨h.ap.1, h.ap.2.1, h.ap.2.2.1, fun y hy => ?_, h.ap.2.2.2.2⟩⟩
  all_goals obtain ⟨x, hx, e1, e2⟩ := hm y hy
  · rw [e2]; exact h.ints x hx
  · rw [e1]; exact h.n1.2.2 x hx
  · rw [e1]; exact (h.n2 g hg).2.2 x hx
  · rw [e1]; exact h.ap.2.2.2.1 x hx
/-- One is gone, in both. -/
theorem ActI.gone (h : ActI B w bt bm bd v size next l) (j : Nat) (hB : B ≤ w.heap.size) (ho : I.ObjAt w2 bt bm size next (l.eraseIdx j)) (hd : DocAt w2 bd v' size next (l.eraseIdx j)) (hf : ∀ g, v'.ownBlock = some g → w.heap.size ≤ g) :
    ActI B w2 bt bm bd v' size next (l.eraseIdx j) := by
  have hsub : (l.eraseIdx j).Sublist l := List.eraseIdx_sublist ..
  obtain ⟨l1, l2, l3, l4, l5⟩ := h.lts
  refine ⟨ho, hd, fun y hy => h.ints y (hsub.subset hy), ⟨h.n1.1, h.n1.2.1, fun y hy => h.n1.2.2 y (hsub.subset hy)⟩, fun g hg => ?_, ⟨h.ap.1, h.ap.2.1, h.ap.2.2.1, fun y hy => h.ap.2.2.2.1 y (hsub.subset hy), fun g hg => by have := hf g hg; omega⟩⟩
  have h1 := hf g hg
  exact ⟨by omega, by omega, fun y hy => by have := l4 y (hsub.subset hy); omega⟩
/-- The program's table is not touched by what the document's does. -/
theorem ActI.objP (h : ActI B w bt bm bd v size next l) {l2 : List Ent} (hl2 : ∀ y ∈ l2, ∃ x ∈ l, y.b = x.b) (ho : I.ObjAt w' bt bm size next l2) {S : List Nat} (x : Ext S w' w2) (hS : ∀ i ∈ S, i = bd ∨ v.ownBlock = some i) : I.ObjAt w2 bt bm size next l2 := by
  refine ho.ext x (fun hm => ?_) (fun hm => ?_) (fun y hy hm => ?_)
  · rcases hS _ hm with e | e
    · exact h.n1.1 e.symm
    · exact (h.n2 _ e).1 rfl
  · rcases hS _ hm with e | e
    · exact h.n1.2.1 e.symm
    · exact (h.n2 _ e).2.1 rfl
  · obtain ⟨q, hq, e1⟩ := hl2 y hy
    rcases hS _ hm with e | e
    · exact h.n1.2.2 q hq (e1 ▸ e)
    · exact (h.n2 _ e).2.2 q hq e1.symm
end
end Go.Proofs.Ytknghmogfbpclaa
