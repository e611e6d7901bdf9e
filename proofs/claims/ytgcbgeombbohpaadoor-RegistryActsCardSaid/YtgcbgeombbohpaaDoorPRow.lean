/- Rows of slices of bytes that a call puts together. -/
import Derived.Test.YtgcbgeombbohpaaDoorJoined
namespace Go.Proofs.YtgcbgeombbohpaaDoor
open Go.RowKit
set_option maxRecDepth 100000

theorem info_sl : (Tryd.prog.info? 30).map (fun i => (i.zero, i.size, i.bytes)) = some (some (.slice none 0 0), 1, 24) := by kernel_rfl

theorem Reads.grown {w w' : World} {v : Value} {s n : Nat} {cs : List Value} {row : Option Nat} (h : Reads w v s n cs) (hg : w.grownBy w' row) (hne : ∀ g, v.ownBlock = some g → row ≠ some g) : Reads w' v s n cs := by
  obtain ⟨ao, c, rfl, hvl, hnone, hcells⟩ := h
  refine ⟨ao, c, rfl, hvl, hnone, fun ad had j u hu => ?_⟩
  subst had
  have h := hcells ad rfl j u hu
  have hb : (ad.add j).block = ad.block := by unfold Addr.add; split <;> rfl
  have hlt := World.block_lt_of_cell? w _ h
  rw [World.cell?_of_block (w := w) (hg.block _ hlt (by rw [hb]; intro e; exact hne ad.block rfl e.symm))]; exact h

/-- A row of slices of bytes: the row the call's own, the parts elsewhere. -/
structure PRow (w : World) (v : Value) (vs : List Value) (bs : List (List UInt8)) : Prop where
  own : w.ownsRow 0 30 1 v vs.length vs
  same : vs.length = bs.length
  each : ∀ i u, vs[i]? = some u → Reads w u 1 (bs.getD i []).length (bytesV (bs.getD i [])) ∧ (∀ g, u.ownBlock = some g → g < w.heap.size ∧ v.ownBlock ≠ some g)

theorem PRow.parts {w : World} {v : Value} {vs : List Value} {bs : List (List UInt8)} (h : PRow w v vs bs) : PartsIn w v vs bs :=
  ⟨owns_reads h.own, h.same, fun i u hu => (h.each i u hu).1⟩
theorem PRow.ext {w w' : World} {v : Value} {vs : List Value} {bs : List (List UInt8)} (h : PRow w v vs bs) (x : Ext [] w w') : PRow w' v vs bs :=
  ⟨owns_ext h.own x (by simp), h.same, fun i u hu => ⟨(h.each i u hu).1.ext x, fun g hg => ⟨Nat.lt_of_lt_of_le ((h.each i u hu).2 g hg).1 x.size, ((h.each i u hu).2 g hg).2⟩⟩⟩
theorem PRow.app {w w' : World} {v v' u : Value} {vs : List Value} {bs : List (List UInt8)} {b : List UInt8} (h : PRow w v vs bs) (hu : Reads w u 1 b.length (bytesV b)) (hub : ∀ g, u.ownBlock = some g → g < w.heap.size ∧ v.ownBlock ≠ some g)
    (ho : w'.ownsRow 0 30 1 v' (vs.length + 1) (vs ++ [u])) (hg : w.grownBy w' v.ownBlock) (hf : v'.ownBlock = v.ownBlock ∨ ∃ g, v'.ownBlock = some g ∧ w.heap.size ≤ g) : PRow w' v' (vs ++ [u]) (bs ++ [b]) := by
  have apart : ∀ g, g < w.heap.size ∧ v.ownBlock ≠ some g → g < w'.heap.size ∧ v'.ownBlock ≠ some g := by
    intro g hgg
    refine ⟨Nat.lt_of_lt_of_le hgg.1 hg.size, ?_⟩
    rcases hf with e | ⟨g', e, hle⟩
    · rw [e]; exact hgg.2
    · rw [e]; intro h'; have := Option.some.inj h'; omega
  refine ⟨by rw [List.length_append]; exact ho, by rw [List.length_append, List.length_append, h.same]; rfl, fun i z hz => ?_⟩
  by_cases hi : i < vs.length
  · rw [List.getElem?_append_left hi] at hz
    have hb : (bs ++ [b]).getD i [] = bs.getD i [] := by rw [List.getD_eq_getElem?_getD, List.getElem?_append_left (by rw [← h.same]; exact hi), ← List.getD_eq_getElem?_getD]
    rw [hb]
    have hz' := h.each i z hz
    exact ⟨hz'.1.grown hg (fun g hgz => (hz'.2 g hgz).2), fun g hgz => apart g (hz'.2 g hgz)⟩
  · rw [List.getElem?_append_right (by omega)] at hz
    have hi0 : i = vs.length := by
      have := (List.getElem?_eq_some_iff.1 hz).1
      simp at this; omega
    subst hi0
    simp at hz
    subst hz
    have hb : (bs ++ [b]).getD vs.length [] = b := by rw [h.same]; simp [List.getD]
    rw [hb]
    exact ⟨hu.grown hg (fun g hgu => (hub g hgu).2), fun g hgu => apart g (hub g hgu)⟩

/-- Maps' sums: a row of arrays of 32 bytes. -/
def rowV (ms : List (List UInt8)) : List Value := (ms.map bytesV).flatten
theorem rowV_at : ∀ (ms : List (List UInt8)) (k j : Nat) (_ : ∀ m ∈ ms, m.length = 32) (hk : k < ms.length), j < 32 → (rowV ms)[k * 32 + j]? = (bytesV ms[k])[j]?
  | [], _, _, _, hk, _ => by simp at hk
  | x :: l, 0, j, h, _, hj => by
    have hx := h x (by simp)
    have e : rowV (x :: l) = bytesV x ++ rowV l := by simp [rowV]
    rw [e, List.getElem?_append_left (by rw [bytesV_length]; omega)]; simp
  | x :: l, k + 1, j, h, hk, hj => by
    have hx := h x (by simp)
    have e : rowV (x :: l) = bytesV x ++ rowV l := by simp [rowV]
    rw [e, List.getElem?_append_right (by rw [bytesV_length]; omega), bytesV_length, hx, show (k + 1) * 32 + j - 32 = k * 32 + j by omega, rowV_at l k j (fun m hm => h m (by simp [hm])) (by simpa using hk) hj]; simp

theorem rowV_part {w : World} {ao : Option Addr} {n c : Nat} {ms : List (List UInt8)} (h : Reads w (.slice ao n c) 32 n (rowV ms)) (hn : n = ms.length) (hall : ∀ m ∈ ms, m.length = 32) (h0 : 0 < n) :
    ∃ b o, ao = some ⟨b, o, none⟩ ∧ b < w.heap.size ∧ ∀ k (hk : k < ms.length), PartAt w b (o + k * 32) (bytesV ms[k]) := by
  obtain ⟨ao', c', he, -, hnn, hc⟩ := h
  cases he
  cases ao with
  | none => have := (hnn rfl).1; omega
  | some ad =>
    obtain ⟨b, o, spot⟩ := ad
    have hall2 : ∀ k (hk : k < ms.length) j, j < 32 → w.cell? ((⟨b, o, spot⟩ : Addr).add (k * 32 + j)) = (bytesV ms[k])[j]? := by
      intro k hk j hj
      have hm := hall _ (List.getElem_mem hk)
      have h := rowV_at ms k j hall hk hj
      rw [← h]
      obtain ⟨u, hu⟩ : ∃ u, (rowV ms)[k * 32 + j]? = some u := by
        rw [h]; exact ⟨_, List.getElem?_eq_getElem (by rw [bytesV_length]; omega)⟩
      rw [hu]; exact hc _ rfl _ u hu
    have hm0 := hall _ (List.getElem_mem (show 0 < ms.length by omega))
    have h00 := hall2 0 (by omega) 0 (by omega)
    have hs : spot = none := by
      have := World.cell?_spot (h00.trans (List.getElem?_eq_getElem (by rw [bytesV_length]; omega)))
      simpa [Addr.add] using this
    subst hs
    refine ⟨b, o, rfl, ?_, fun k hk j hj => ?_⟩
    · have := World.block_lt_of_cell? w _ (h00.trans (List.getElem?_eq_getElem (by rw [bytesV_length]; omega)))
      simpa [Addr.add] using this
    · have hm := hall _ (List.getElem_mem hk)
      rw [bytesV_length, hm] at hj
      have := hall2 k hk j hj
      rw [Addr.add_lit] at this
      rw [Nat.add_assoc]; exact this
end Go.Proofs.YtgcbgeombbohpaaDoor
