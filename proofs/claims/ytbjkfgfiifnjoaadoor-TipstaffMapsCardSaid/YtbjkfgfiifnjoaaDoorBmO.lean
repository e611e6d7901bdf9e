/- Package bmap: Sum. -/
import Derived.Test.YtbjkfgfiifnjoaaDoorBmN
namespace Go.Proofs.YtbjkfgfiifnjoaaDoor
open Go.RowKit
set_option maxRecDepth 100000

def hdrB (t : Int) : List UInt8 := [UInt8.ofNat t.toNat, 4, 2, 8]
/-- The sum of what a map of type t holds. -/
def sumC (t : Int) (c : Nat → Option (UInt8 × UInt8)) : List UInt8 := sumOf (joinB (hdrB t :: (List.range' 0 8).flatMap (conT c)))

theorem joinB_bound : ∀ (bs : List (List UInt8)), (∀ b ∈ bs, b.length ≤ 4) → (joinB bs).length ≤ 12 * bs.length
  | [], _ => by simp [joinB]
  | b :: r, h => by
    have ih := joinB_bound r (fun x hx => h x (by simp [hx]))
    have hb := h b (by simp)
    have e : joinB (b :: r) = be8 b.length ++ b ++ joinB r := by simp [joinB]
    rw [e, List.length_append, List.length_append, be8_length, List.length_cons]
    omega

/-- Parts: a row of slices, each in its row of bytes. -/
structure Parts (w : World) (v : Value) (vs : List Value) (bs : List (List UInt8)) : Prop where
  own : w.ownsRow 0 39 1 v vs.length vs
  same : vs.length = bs.length
  each : ∀ i u, vs[i]? = some u → PartB w u (bs.getD i [])
theorem Parts.ext0 {w w' : World} {v : Value} {vs : List Value} {bs : List (List UInt8)} (h : Parts w v vs bs) (x : Ext [] w w') : Parts w' v vs bs :=
  ⟨owns_ext h.own x (by simp), h.same, fun i u hu => (h.each i u hu).ext0 x⟩
theorem Parts.inn {w : World} {v : Value} {vs : List Value} {bs : List (List UInt8)} (h : Parts w v vs bs) : PartsIn w v vs bs :=
  ⟨owns_reads h.own, h.same, fun i u hu => (h.each i u hu).reads⟩
theorem Parts.snoc {w w' : World} {v v' : Value} {vs : List Value} {bs : List (List UInt8)} (h : Parts w v vs bs) {u1 u2 : Value} {b1 b2 : List UInt8} (p1 : PartB w u1 b1) (p2 : PartB w u2 b2)
    (x : Ext v.ownBlock.toList w w') (ho : w'.ownsRow 0 39 1 v' (vs.length + 2) (vs ++ [u1, u2])) : Parts w' v' (vs ++ [u1, u2]) (bs ++ [b1, b2]) := by
  have hn := row_notB h.own
  refine ⟨by simpa using ho, by simp [h.same], fun i u hu => ?_⟩
  rw [List.getElem?_append] at hu
  split at hu
  · rename_i hi
    rw [List.getD_eq_getElem?_getD, List.getElem?_append_left (by rw [← h.same]; exact hi), ← List.getD_eq_getElem?_getD]
    exact (h.each i u hu).ext x hn
  · rename_i hi
    have hi' : vs.length ≤ i := by omega
    rw [List.getD_eq_getElem?_getD, List.getElem?_append_right (by rw [← h.same]; exact hi'), ← h.same]
    obtain ⟨k, rfl⟩ : ∃ k, i = vs.length + k := ⟨i - vs.length, by omega⟩
    rw [Nat.add_sub_cancel_left] at hu ⊢
    match k, hu with
    | 0, hu => simp at hu; subst hu; exact p1.ext x hn
    | 1, hu => simp at hu; subst hu; exact p2.ext x hn
    | k + 2, hu => simp at hu

theorem bm_sortR (v : Value) (es : List BE) (w : World) (h : w.ownsRow 0 116 1 v es.length (ptrE es)) (hl : es.length ≤ 8) (hk : ∀ x ∈ es, KeyAt w x) (hks : Apart1 es) :
    Calls Tryd.prog 66 #[v, .func (.func 67) #[] #[]] w fun e w' => e = .returned (.tuple #[]) ∧
      ∃ ds, ds.Perm es ∧ (ds.Pairwise fun a b => a.k < b.k) ∧ w'.ownsRow 0 116 1 v es.length (ptrE ds) ∧ Ext v.ownBlock.toList w w' := by
  rcases Nat.eq_zero_or_pos es.length with h0 | h0
  · obtain ⟨a, c, rfl⟩ := owns_slice h
    have hes : es = [] := List.eq_nil_of_length_eq_zero h0
    subst hes
    refine bm_sort a 0 c _ w _ (by omega) ((bm_insert0 a c _ w).mono ?_)
    rintro e w' ⟨rfl, rfl⟩
    exact ⟨rfl, [], List.Perm.refl _, List.Pairwise.nil, h, Ext.refl _ _⟩
  · obtain ⟨g, c, cur, rfl, hb, hc, hm, hcl, ht⟩ := owns_some h h0
    rw [Nat.mul_one] at hcl ht
    have hcur : cur = ptrE es ++ cur.drop es.length := by
      conv => lhs; rw [← List.take_append_drop es.length cur]
      rw [ht]
    rw [hcur] at hb
    refine bm_sort (some ⟨g, 0, none⟩) es.length c _ w _ hl ((bm_insert g c es (cur.drop es.length) w hb hl hk hks).mono ?_)
    rintro e w' ⟨rfl, ds, hp, ho, hB, x⟩
    refine ⟨rfl, ds, hp, ho, ?_, by simpa [Value.ownBlock] using x⟩
    have hpl : (ptrE ds).length = es.length := by simp [ptrE, hp.length_eq]
    refine ⟨by rw [hpl, Nat.mul_one], .inr ⟨g, c, (ptrE ds ++ cur.drop es.length).toArray, rfl, Nat.zero_le _, hB, hc, hm, ?_, ?_⟩⟩
    · simp [hpl]; omega
    · simp [hpl]
end Go.Proofs.YtbjkfgfiifnjoaaDoor
