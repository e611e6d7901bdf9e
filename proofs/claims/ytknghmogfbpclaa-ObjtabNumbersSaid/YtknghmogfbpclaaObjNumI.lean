/- The statement ObjtabNumbers: what holds between its rounds. -/
import Derived.Deep.CutRange
import Derived.Deep.CutBlock
import Derived.Test.YtknghmogfbpclaaObjLaw
import Derived.Test.YtknghmogfbpclaaObjLive
import Derived.Test.YtknghmogfbpclaaStrs
import Derived.Test.YtknghmogfbpclaaObjNumR
namespace Go.Proofs.Ytknghmogfbpclaa
open Go.RowKit
set_option maxRecDepth 100000

/-- What holds between two rounds: the table, the row of numbers, the row of texts, all apart and younger than B. -/
structure NumInv (B : Nat) (w : World) (bt bm next : Nat) (l : List Ent) (v8 v9 : Value) : Prop where
  o : S.ObjAt w bt bm 8 next l
  ones : ∀ x ∈ l, x.h = 1
  strs : ∀ x ∈ l, ∃ s : ByteArray, x.x = .string s
  r8 : w.ownsRow 0 3 1 v8 l.length (l.map fun e => Value.int .i64 (e.id : Int))
  r9 : w.ownsRow 0 9 1 v9 l.length (l.map fun e => e.x)
  a8 : ∀ g, v8.ownBlock = some g → B ≤ g ∧ g ≠ bt ∧ g ≠ bm ∧ (∀ x ∈ l, x.b ≠ g)
  a9 : ∀ g, v9.ownBlock = some g → B ≤ g ∧ g ≠ bt ∧ g ≠ bm ∧ (∀ x ∈ l, x.b ≠ g)
  a89 : ∀ g, v8.ownBlock = some g → v9.ownBlock ≠ some g
  ap : B ≤ bt ∧ B ≤ bm ∧ ∀ x ∈ l, B ≤ x.b
theorem NumInv.ext {B : Nat} {w w' : World} {bt bm next : Nat} {l : List Ent} {v8 v9 : Value} (h : NumInv B w bt bm next l v8 v9) (x : Ext [] w w') : NumInv B w' bt bm next l v8 v9 :=
  ⟨h.o.ext0 x, h.ones, h.strs, owns_ext h.r8 x (by simp), owns_ext h.r9 x (by simp), h.a8, h.a9, h.a89, h.ap⟩

/-- One object more in the table; the rows are still the elder ones. -/
structure NumMid (B : Nat) (w : World) (bt bm next : Nat) (l : List Ent) (e : Ent) (n8 : List Value) (v8 v9 : Value) : Prop where
  o : S.ObjAt w bt bm 8 next (l ++ [e])
  r8 : w.ownsRow 0 3 1 v8 n8.length n8
  r9 : w.ownsRow 0 9 1 v9 l.length (l.map fun e => e.x)
  a8 : ∀ g, v8.ownBlock = some g → B ≤ g ∧ g ≠ bt ∧ g ≠ bm ∧ (∀ x ∈ l ++ [e], x.b ≠ g)
  a9 : ∀ g, v9.ownBlock = some g → B ≤ g ∧ g ≠ bt ∧ g ≠ bm ∧ (∀ x ∈ l ++ [e], x.b ≠ g)
  a89 : ∀ g, v8.ownBlock = some g → v9.ownBlock ≠ some g
  lt : bt < w.heap.size ∧ bm < w.heap.size ∧ (∀ x ∈ l ++ [e], x.b < w.heap.size) ∧ B ≤ w.heap.size
theorem NumMid.ext {B : Nat} {w w' : World} {bt bm next : Nat} {l : List Ent} {e : Ent} {n8 : List Value} {v8 v9 : Value} (h : NumMid B w bt bm next l e n8 v8 v9) (x : Ext [] w w') : NumMid B w' bt bm next l e n8 v8 v9 :=
  ⟨h.o.ext0 x, owns_ext h.r8 x (by simp), owns_ext h.r9 x (by simp), h.a8, h.a9, h.a89, ⟨Nat.lt_of_lt_of_le h.lt.1 x.size, Nat.lt_of_lt_of_le h.lt.2.1 x.size, fun y hy => Nat.lt_of_lt_of_le (h.lt.2.2.1 y hy) x.size, Nat.le_trans h.lt.2.2.2 x.size⟩⟩

/-- The row of numbers grew. -/
theorem NumMid.grow8 {B : Nat} {w w' : World} {bt bm next : Nat} {l : List Ent} {e : Ent} {n8 m8 : List Value} {v8 v9 v8' : Value} (h : NumMid B w bt bm next l e n8 v8 v9)
    (hown : w'.ownsRow 0 3 1 v8' m8.length m8) (hg : w.grownBy w' v8.ownBlock) (hf : v8'.ownBlock = v8.ownBlock ∨ ∃ g, v8'.ownBlock = some g ∧ w.heap.size ≤ g) : NumMid B w' bt bm next l e m8 v8' v9 ∧ Ext v8.ownBlock.toList w w' := by
  have x : Ext v8.ownBlock.toList w w' := (Ext.refl _ _).grown hg (fun k hk => .inl (by simp [hk]))
  have hn : ∀ g, v8.ownBlock = some g → g ∈ v8.ownBlock.toList := fun g hg => by simp [hg]
  refine ⟨⟨h.o.ext x ?_ ?_ ?_, hown, owns_ext h.r9 x ?_, ?_, h.a9, ?_, ⟨Nat.lt_of_lt_of_le h.lt.1 x.size, Nat.lt_of_lt_of_le h.lt.2.1 x.size, fun y hy => Nat.lt_of_lt_of_le (h.lt.2.2.1 y hy) x.size, Nat.le_trans h.lt.2.2.2 x.size⟩⟩, x⟩
  · intro hb; have := h.a8 bt (by simpa using hb); omega
  · intro hb; have := h.a8 bm (by simpa using hb); omega
  · intro y hy hb; exact (h.a8 y.b (by simpa using hb)).2.2.2 y hy rfl
  · intro k hk hb; exact h.a89 k (by simpa using hb) hk
  · intro g hg'
    rcases hf with h1 | ⟨g', h1, h2⟩
    · exact h.a8 g (h1 ▸ hg')
    · rw [h1] at hg'
      obtain rfl := Option.some.inj hg'
      have h3 := h.lt
      exact ⟨by omega, by omega, by omega, fun y hy => by have := h3.2.2.1 y hy; omega⟩
  · intro g hg' h9
    rcases hf with h1 | ⟨g', h1, h2⟩
    · exact h.a89 g (h1 ▸ hg') h9
    · rw [h1] at hg'
      obtain rfl := Option.some.inj hg'
      have := owns_lt h.r9 h9
      omega

/-- The row of texts grew. -/
theorem NumMid.grow9 {B : Nat} {w w' : World} {bt bm next : Nat} {l : List Ent} {e : Ent} {n8 : List Value} {v8 v9 v9' : Value} (h : NumMid B w bt bm next l e n8 v8 v9) (hB : B ≤ bt ∧ B ≤ bm ∧ ∀ x ∈ l ++ [e], B ≤ x.b)
    (ho : ∀ x ∈ l ++ [e], x.h = 1) (hs : ∀ x ∈ l ++ [e], ∃ s : ByteArray, x.x = .string s) (h8 : n8 = (l ++ [e]).map fun e => Value.int .i64 (e.id : Int))
    (hown : w'.ownsRow 0 9 1 v9' (l.length + 1) ((l.map fun e => e.x) ++ [e.x])) (hg : w.grownBy w' v9.ownBlock) (hf : v9'.ownBlock = v9.ownBlock ∨ ∃ g, v9'.ownBlock = some g ∧ w.heap.size ≤ g) : NumInv B w' bt bm next (l ++ [e]) v8 v9' ∧ Ext v9.ownBlock.toList w w' := by
  have x : Ext v9.ownBlock.toList w w' := (Ext.refl _ _).grown hg (fun k hk => .inl (by simp [hk]))
  subst h8
  refine ⟨⟨h.o.ext x ?_ ?_ ?_, ho, hs, ?_, ?_, h.a8, ?_, ?_, hB⟩, x⟩
  · intro hb; have := h.a9 bt (by simpa using hb); omega
  · intro hb; have := h.a9 bm (by simpa using hb); omega
  · intro y hy hb; exact (h.a9 y.b (by simpa using hb)).2.2.2 y hy rfl
  · have := owns_ext h.r8 x (fun k hk hb => h.a89 k hk (by simpa using hb))
    simpa using this
  · simpa using hown
  · intro g hg'
    rcases hf with h1 | ⟨g', h1, h2⟩
    · exact h.a9 g (h1 ▸ hg')
    · rw [h1] at hg'
      obtain rfl := Option.some.inj hg'
      have h3 := h.lt
      exact ⟨by omega, by omega, by omega, fun y hy => by have := h3.2.2.1 y hy; omega⟩
  · intro g h8 hg'
    rcases hf with h1 | ⟨g', h1, h2⟩
    · exact h.a89 g h8 (h1 ▸ hg')
    · rw [h1] at hg'
      obtain rfl := Option.some.inj hg'
      have := owns_lt h.r8 h8
      omega
/-- Behind a Make with room. -/
theorem NumInv.made {B : Nat} {w w' : World} {bt bm next b : Nat} {l : List Ent} {v8 v9 z : Value} (h : NumInv B w bt bm next l v8 v9) (hB : B ≤ w.heap.size) (x : Ext [bt, bm] w w')
    (ho : S.ObjAt w' bt bm 8 (next + 1) (l ++ [⟨next + 1, b, z, 1⟩])) (hb : w.heap.size ≤ b) :
    NumMid B w' bt bm (next + 1) l ⟨next + 1, b, z, 1⟩ (l.map fun e => Value.int .i64 (e.id : Int)) v8 v9 := by
  have hne : ∀ g, v8.ownBlock = some g → g < w.heap.size := fun g hg => owns_lt h.r8 hg
  have hne9 : ∀ g, v9.ownBlock = some g → g < w.heap.size := fun g hg => owns_lt h.r9 hg
  refine ⟨ho, ?_, ?_, ?_, ?_, h.a89, ?_⟩
  · rw [List.length_map]
    refine owns_ext h.r8 x (fun k hk hm => ?_)
    have := h.a8 k hk
    simp at hm
    omega
  · refine owns_ext h.r9 x (fun k hk hm => ?_)
    have := h.a9 k hk
    simp at hm
    omega
  · intro g hg
    have h1 := h.a8 g hg
    refine ⟨h1.1, h1.2.1, h1.2.2.1, fun y hy => ?_⟩
    rcases List.mem_append.1 hy with hy | hy
    · exact h1.2.2.2 y hy
    · simp at hy
      subst hy
      have := hne g hg
      dsimp only
      omega
  · intro g hg
    have h1 := h.a9 g hg
    refine ⟨h1.1, h1.2.1, h1.2.2.1, fun y hy => ?_⟩
    rcases List.mem_append.1 hy with hy | hy
    · exact h1.2.2.2 y hy
    · simp at hy
      subst hy
      have := hne9 g hg
      dsimp only
      omega
  · refine ⟨ho.t.lt, ho.m.lt, fun y hy => (ho.e y hy).lt, Nat.le_trans hB x.size⟩
end Go.Proofs.Ytknghmogfbpclaa
