/- Package bmap, plainly: entries by number, what they hold, their order. No program in sight. -/
import Derived.Test.YtbjkfgfiifnjoaaDoorBase
namespace Go.Proofs.YtbjkfgfiifnjoaaDoor
open Go.RowKit

/-- An entry: its key's number, its block, its cell's, its bytes', the two bytes, when it was used. -/
structure BE where
  k : Nat
  e : Nat
  c : Nat
  p : Nat
  v0 : UInt8
  v1 : UInt8
  u : Nat

/-- What entries hold, by key. -/
def cont (es : List BE) (k : Nat) : Option (UInt8 × UInt8) := (es.find? fun x => decide (x.k = k)).map fun x => (x.v0, x.v1)
def Apart1 (es : List BE) : Prop := es.Pairwise fun a b => a.k ≠ b.k
theorem cont_iff {es : List BE} (h : Apart1 es) (k : Nat) (v : UInt8 × UInt8) : cont es k = some v ↔ ∃ x ∈ es, x.k = k ∧ (x.v0, x.v1) = v := by
  induction es with
  | nil => simp [cont]
  | cons a r ih =>
    have hr := List.Pairwise.of_cons h
    have ha := (List.pairwise_cons.1 h).1
    unfold cont at ih ⊢
    rw [List.find?_cons]
    by_cases hk : a.k = k
    · simp only [hk, decide_true, Option.map_some, Option.some.injEq]
      constructor
      · intro e; exact ⟨a, by simp, hk, e⟩
      · rintro ⟨x, hx, h1, h2⟩
        rcases List.mem_cons.1 hx with rfl | hx
        · exact h2
        · exact absurd (hk.trans h1.symm) (ha x hx)
    · simp only [hk, decide_false]
      rw [ih hr]
      constructor
      · rintro ⟨x, hx, h1⟩; exact ⟨x, by simp [hx], h1⟩
      · rintro ⟨x, hx, h1, h2⟩
        rcases List.mem_cons.1 hx with rfl | hx
        · exact absurd h1 hk
        · exact ⟨x, hx, h1, h2⟩
theorem cont_none {es : List BE} (k : Nat) : cont es k = none ↔ ∀ x ∈ es, x.k ≠ k := by
  unfold cont
  rw [Option.map_eq_none_iff, List.find?_eq_none]
  simp
theorem cont_perm {es ds : List BE} (h : Apart1 es) (h2 : Apart1 ds) (hp : ds.Perm es) : cont ds = cont es := by
  funext k
  apply Option.ext
  intro v
  rw [cont_iff h2, cont_iff h]
  constructor
  · rintro ⟨x, hx, h1⟩; exact ⟨x, hp.mem_iff.1 hx, h1⟩
  · rintro ⟨x, hx, h1⟩; exact ⟨x, hp.mem_iff.2 hx, h1⟩
theorem apart_perm {es ds : List BE} (h : Apart1 es) (hp : ds.Perm es) : Apart1 ds := (hp.pairwise_iff (fun h e => h e.symm)).2 h
theorem cont_set {es : List BE} (h : Apart1 es) (j : Nat) (hj : j < es.length) (y : BE) (hy : y.k = es[j].k) : cont (es.set j y) = fun k => if k = y.k then some (y.v0, y.v1) else cont es k := by
  have h2 : Apart1 (es.set j y) := by
    refine List.pairwise_iff_getElem.2 fun a b ha hb hab => ?_
    rw [List.length_set] at ha hb
    have hh : ∀ i (hi : i < es.length), ((es.set j y)[i]'(by simpa using hi)).k = es[i].k := by
      intro i hi
      rw [List.getElem_set]
      split
      · rename_i e; subst e; exact hy
      · rfl
    rw [hh a ha, hh b hb]
    exact List.pairwise_iff_getElem.1 h a b ha hb hab
  funext k
  apply Option.ext
  intro v
  rw [cont_iff h2]
  by_cases hk : k = y.k
  · rw [if_pos hk]
    constructor
    · rintro ⟨x, hx, h1, h3⟩
      rcases List.mem_or_eq_of_mem_set hx with hm | hm
      · obtain ⟨i, hi, e⟩ := List.mem_iff_getElem.1 hx
        rw [List.length_set] at hi
        rw [List.getElem_set] at e
        split at e
        · subst e; rw [← h3]
        · exfalso
          rename_i hne
          have := List.pairwise_iff_getElem.1 h
          subst e
          rcases Nat.lt_or_gt_of_ne hne with hlt | hlt
          · exact this j i hj hi hlt (by rw [h1, hk, hy])
          · exact this i j hi hj hlt (by rw [h1, hk, hy])
      · subst hm; rw [← h3]
    · intro e
      simp only [Option.some.injEq] at e
      exact ⟨y, List.mem_iff_getElem.2 ⟨j, by simpa using hj, by simp⟩, hk.symm, e⟩
  · rw [if_neg hk, cont_iff h]
    constructor
    · rintro ⟨x, hx, h1, h3⟩
      rcases List.mem_or_eq_of_mem_set hx with hm | hm
      · exact ⟨x, hm, h1, h3⟩
      · subst hm; exact absurd h1.symm hk
    · rintro ⟨x, hx, h1, h3⟩
      obtain ⟨i, hi, rfl⟩ := List.mem_iff_getElem.1 hx
      refine ⟨es[i], List.mem_iff_getElem.2 ⟨i, by simpa using hi, ?_⟩, h1, h3⟩
      rw [List.getElem_set, if_neg]
      rintro rfl
      exact hk (h1.symm.trans hy.symm)
theorem cont_app {es : List BE} (y : BE) (h : ∀ x ∈ es, x.k ≠ y.k) : cont (es ++ [y]) = fun k => if k = y.k then some (y.v0, y.v1) else cont es k := by
  funext k
  unfold cont
  rw [List.find?_append]
  by_cases hk : k = y.k
  · have : es.find? (fun x => decide (x.k = k)) = none := by
      rw [List.find?_eq_none]; intro x hx; simp; rw [hk]; exact h x hx
    rw [this, if_pos hk]
    simp [hk]
  · rw [if_neg hk]
    have : [y].find? (fun x => decide (x.k = k)) = none := by
      simp [Ne.symm hk]
    rw [this]
    simp

/-- The texts of one entry. -/
def beT (x : BE) : List (List UInt8) := [[UInt8.ofNat x.k, 0, 0, 0], [x.v0, x.v1]]
def conT (c : Nat → Option (UInt8 × UInt8)) (k : Nat) : List (List UInt8) := match c k with
  | some v => [[UInt8.ofNat k, 0, 0, 0], [v.1, v.2]]
  | none => []
theorem sorted_texts (c : Nat → Option (UInt8 × UInt8)) : ∀ (n lo : Nat) (es : List BE), (es.Pairwise fun a b => a.k < b.k) → (∀ x ∈ es, lo ≤ x.k ∧ x.k < lo + n) → (∀ k, lo ≤ k → c k = cont es k) →
    es.flatMap beT = (List.range' lo n).flatMap (conT c)
  | 0, lo, es, _, h2, _ => by
    cases es with
    | nil => rfl
    | cons x r => have := h2 x (by simp); omega
  | n + 1, lo, es, h1, h2, h3 => by
    rw [List.range'_succ, List.flatMap_cons]
    by_cases hk : ∃ x r, es = x :: r ∧ x.k = lo
    · obtain ⟨x, r, rfl, hx⟩ := hk
      have hr := List.Pairwise.of_cons h1
      have ha := (List.pairwise_cons.1 h1).1
      have hc : conT c lo = beT x := by
        unfold conT beT
        rw [h3 lo (Nat.le_refl _)]
        simp [cont, hx]
      rw [List.flatMap_cons, hc, sorted_texts c n (lo + 1) r hr]
      · intro y hy
        have h4 := ha y hy
        have h5 := h2 y (by simp [hy])
        omega
      · intro k hk
        rw [h3 k (by omega)]
        unfold cont
        rw [List.find?_cons]
        have : decide (x.k = k) = false := by simp; omega
        rw [this]
    · have hall : ∀ x ∈ es, lo + 1 ≤ x.k := by
        intro x hx
        cases es with
        | nil => cases hx
        | cons y r =>
          have hy : y.k ≠ lo := fun e => hk ⟨y, r, rfl, e⟩
          have hy2 := h2 y (by simp)
          rcases List.mem_cons.1 hx with rfl | hx
          · omega
          · have := List.rel_of_pairwise_cons h1 hx; omega
      have hc : conT c lo = [] := by
        unfold conT
        rw [h3 lo (Nat.le_refl _), (cont_none lo).2 (fun x hx => by have := hall x hx; omega)]
      rw [hc, List.nil_append, sorted_texts c n (lo + 1) es h1]
      · intro x hx
        have h4 := hall x hx
        have h5 := h2 x hx
        omega
      · intro k hk
        exact h3 k (by omega)

/-- In order up to n. -/
def Ord (f : Nat → Nat) (n : Nat) : Prop := ∀ p q, p < q → q < n → f p < f q
/-- In order up to i, but for what stands at j, which is below all that are behind it. -/
def OrdBut (f : Nat → Nat) (j i : Nat) : Prop := (∀ p q, p < q → q ≤ i → p ≠ j → q ≠ j → f p < f q) ∧ ∀ q, j < q → q ≤ i → f j < f q
theorem Ord.but {f : Nat → Nat} {i : Nat} (h : Ord f i) : OrdBut f i i := ⟨fun p q hpq hq _ hqi => h p q hpq (by omega), fun q h1 h2 => by omega⟩
theorem OrdBut.swap {f g : Nat → Nat} {j i : Nat} (h : OrdBut f (j + 1) i) (hj : j + 1 ≤ i) (hlt : f (j + 1) < f j) (h1 : g j = f (j + 1)) (h2 : g (j + 1) = f j) (h3 : ∀ p, p ≠ j → p ≠ j + 1 → g p = f p) : OrdBut g j i := by
  refine ⟨fun p q hpq hq hpj hqj => ?_, fun q hq1 hq2 => ?_⟩
  · by_cases hp : p = j + 1
    · subst hp
      rw [h2, h3 q (by omega) (by omega)]
      exact h.1 j q (by omega) hq (by omega) (by omega)
    · rw [h3 p hpj hp]
      by_cases hq' : q = j + 1
      · subst hq'
        rw [h2]
        exact h.1 p j (by omega) (by omega) (by omega) (by omega)
      · rw [h3 q hqj hq']
        exact h.1 p q hpq hq hp hq'
  · rw [h1]
    by_cases hq' : q = j + 1
    · subst hq'; rw [h2]; exact hlt
    · rw [h3 q (by omega) hq']
      exact h.2 q (by omega) hq2
theorem OrdBut.done {f : Nat → Nat} {j i : Nat} (h : OrdBut f j i) (hj : j = 0 ∨ f (j - 1) < f j) : Ord f (i + 1) := by
  intro p q hpq hq
  by_cases hp : p = j
  · subst hp; exact h.2 q hpq (by omega)
  · by_cases hq' : q = j
    · subst hq'
      rcases hj with h0 | h0
      · omega
      · by_cases hp' : p = q - 1
        · subst hp'; exact h0
        · exact Nat.lt_trans (h.1 p (q - 1) (by omega) (by omega) (by omega) (by omega)) h0
    · exact h.1 p q hpq (by omega) hp hq'
end Go.Proofs.YtbjkfgfiifnjoaaDoor
