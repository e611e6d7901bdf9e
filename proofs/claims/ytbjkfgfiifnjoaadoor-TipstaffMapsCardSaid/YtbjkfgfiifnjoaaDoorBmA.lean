/- Package bmap: a map in memory. -/
import Derived.Test.YtbjkfgfiifnjoaaDoorBmL
import Derived.Test.YtbjkfgfiifnjoaaDoorDigest
namespace Go.Proofs.YtbjkfgfiifnjoaaDoor
open Go.RowKit
set_option maxRecDepth 100000

theorem blk_off_row {W : World} {b : Nat} {T e : TypeId} {cs : List Value} (h : Blk W b T cs) (hte : T ≠ e) {base size k : Nat} {v : Value} {xs : List Value} (hr : W.ownsRow base e size v k xs) : some b ≠ v.ownBlock := by
  rcases hr.2 with ⟨rfl, _⟩ | ⟨g, cap, cur, rfl, _, hgb, _⟩
  · simp [Value.ownBlock]
  · intro e'
    obtain rfl : b = g := by simpa [Value.ownBlock] using e'
    have := (show W.heap[b]? = _ from h).symm.trans hgb
    simp at this
    exact hte this.2
def keyB4 (k : Nat) : List UInt8 := [UInt8.ofNat k, 0, 0, 0]
def strB (l : List UInt8) : ByteArray := ⟨l.toArray⟩
def keyS (k : Nat) : ByteArray := strB (keyB4 k)
def ptrE (es : List BE) : List Value := es.map fun x => .pointer (some ⟨x.e, 0, none⟩)
/-- All blocks of a map. -/
def foot (b : Nat) (l : Value) (es : List BE) : List Nat := b :: (l.ownBlock.toList ++ es.flatMap fun x => [x.e, x.c, x.p])

/-- A map of type t (keys of four bytes, values of two, eight entries). -/
structure MapAt (w : World) (b : Nat) (t : Int) (l : Value) (ck : Nat) (es : List BE) : Prop where
  h : Blk w b 115 [.int .i64 t, .int .i64 4, .int .i64 2, .int .i64 8, l, .bool false, .int .i64 (ck : Int)]
  own : w.ownsRow 0 116 1 l es.length (ptrE es)
  en : ∀ x ∈ es, Blk w x.e 122 [.string (keyS x.k), .pointer (some ⟨x.c, 0, none⟩), .int .i64 (x.u : Int)]
  ce : ∀ x ∈ es, Blk w x.c 120 [.slice (some ⟨x.p, 0, none⟩) 2 2]
  vb : ∀ x ∈ es, Blk w x.p 5 (bytesV [x.v0, x.v1])
  ks : Apart1 es
  k8 : ∀ x ∈ es, x.k < 8
  ne : es.Pairwise fun a c => a.e ≠ c.e ∧ a.c ≠ c.c ∧ a.p ≠ c.p

section
variable {w w' : World} {b : Nat} {t : Int} {l : Value} {ck : Nat} {es : List BE}
theorem foot_b : b ∈ foot b l es := by simp [foot]
theorem foot_l {g : Nat} (h : l.ownBlock = some g) : g ∈ foot b l es := by simp [foot, h]
theorem foot_e {x : BE} (h : x ∈ es) : x.e ∈ foot b l es ∧ x.c ∈ foot b l es ∧ x.p ∈ foot b l es := by
  simp only [foot, List.mem_cons, List.mem_append, List.mem_flatMap, List.not_mem_nil, or_false]
  exact ⟨.inr (.inr ⟨x, h, .inl rfl⟩), .inr (.inr ⟨x, h, .inr (.inl rfl)⟩), .inr (.inr ⟨x, h, .inr (.inr rfl)⟩)⟩
theorem foot_iff {g : Nat} : g ∈ foot b l es ↔ g = b ∨ l.ownBlock = some g ∨ ∃ x ∈ es, g = x.e ∨ g = x.c ∨ g = x.p := by
  simp [foot]
theorem MapAt.ext {S : List Nat} (h : MapAt w b t l ck es) (x : Ext S w w') (hS : ∀ g ∈ foot b l es, g ∉ S) : MapAt w' b t l ck es :=
  ⟨h.h.ext x (hS _ foot_b), owns_ext h.own x (fun _ hg => hS _ (foot_l hg)), fun y hy => (h.en y hy).ext x (hS _ (foot_e hy).1), fun y hy => (h.ce y hy).ext x (hS _ (foot_e hy).2.1), fun y hy => (h.vb y hy).ext x (hS _ (foot_e hy).2.2), h.ks, h.k8, h.ne⟩
theorem MapAt.ext0 (h : MapAt w b t l ck es) (x : Ext [] w w') : MapAt w' b t l ck es := h.ext x (by simp)
theorem MapAt.lt (h : MapAt w b t l ck es) : ∀ g ∈ foot b l es, g < w.heap.size := by
  intro g hg
  rcases foot_iff.1 hg with rfl | hg | ⟨x, hx, rfl | rfl | rfl⟩
  · exact h.h.lt
  · exact owns_lt h.own hg
  · exact (h.en x hx).lt
  · exact (h.ce x hx).lt
  · exact (h.vb x hx).lt
/-- No key is new beyond eight. -/
theorem nodup_lt : ∀ (n : Nat) (l : List Nat), l.Nodup → (∀ x ∈ l, x < n) → l.length ≤ n
  | 0, l, _, h => by
    cases l with
    | nil => simp
    | cons a r => have := h a (by simp); omega
  | n + 1, l, hn, h => by
    have h1 := nodup_lt n (l.erase n) (hn.erase n) (fun x hx => by
      have hx' := (hn.mem_erase_iff.1 hx)
      have := h x hx'.2
      omega)
    have h2 := List.length_erase (a := n) (l := l)
    split at h2 <;> omega
theorem MapAt.le8 (h : MapAt w b t l ck es) : es.length ≤ 8 := by
  have := nodup_lt 8 (es.map (·.k)) (by unfold List.Nodup; rw [List.pairwise_map]; exact h.ks) (by
    intro x hx
    obtain ⟨y, hy, rfl⟩ := List.mem_map.1 hx
    exact h.k8 y hy)
  simpa using this
theorem MapAt.lt8 (h : MapAt w b t l ck es) (k : Nat) (hk : k < 8) (hno : ∀ x ∈ es, x.k ≠ k) : es.length < 8 := by
  have := nodup_lt 8 (k :: es.map (·.k)) (List.nodup_cons.2 ⟨by
    intro hm
    obtain ⟨y, hy, e⟩ := List.mem_map.1 hm
    exact hno y hy e, by unfold List.Nodup; rw [List.pairwise_map]; exact h.ks⟩) (by
    intro x hx
    rcases List.mem_cons.1 hx with rfl | hx
    · exact hk
    · obtain ⟨y, hy, rfl⟩ := List.mem_map.1 hx
      exact h.k8 y hy)
  simp at this
  omega
end
theorem keyB4_inj : ∀ a b : Fin 8, keyB4 a.val = keyB4 b.val → a = b := by decide +kernel
theorem keyS_inj {a b : Nat} (ha : a < 8) (hb : b < 8) : keyS a = keyS b ↔ a = b := by
  constructor
  · intro h
    have h1 : keyB4 a = keyB4 b := by
      have := congrArg (fun x : ByteArray => x.data.toList) h
      simpa [keyS, strB] using this
    have := keyB4_inj ⟨a, ha⟩ ⟨b, hb⟩ h1
    exact congrArg Fin.val this
  · rintro rfl; rfl
end Go.Proofs.YtbjkfgfiifnjoaaDoor
