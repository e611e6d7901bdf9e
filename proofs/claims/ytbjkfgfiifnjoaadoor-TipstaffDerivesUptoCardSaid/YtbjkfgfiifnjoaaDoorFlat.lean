/- Opening arguments that came in: what a reading tells of the cells. Flat types (integers, bools, structs and arrays of these), slices of flat elements, slices of slices. No program in sight. -/
import Derived.Test.YtbjkfgfiifnjoaaDoorBase
import Derived.Deep.Slices
import Derived.ChangeArms
import Derived.WideShapes
import Derived.OpenShut
namespace Go.Proofs.YtbjkfgfiifnjoaaDoor
open Go.RowKit
set_option maxRecDepth 100000

inductive Leaf where
  | int (k : IntKind)
  | bool
  deriving DecidableEq

def Leaf.ok : Leaf → Value → Prop
  | .int k, v => ∃ z, v = .int k z ∧ (Lit.int k z).wf = true
  | .bool, v => ∃ b, v = .bool b

/-- The cells cs hold such leaves. -/
def Flat : List Leaf → List Value → Prop
  | [], cs => cs = []
  | l :: ls, cs => ∃ v r, cs = v :: r ∧ l.ok v ∧ Flat ls r

theorem Flat.append : ∀ {k1 : List Leaf} {k2 : List Leaf} {c1 c2 : List Value}, Flat k1 c1 → Flat k2 c2 → Flat (k1 ++ k2) (c1 ++ c2)
  | [], _, _, _, h1, h2 => by cases h1; exact h2
  | _ :: _, _, _, _, ⟨v, r, e, hv, hr⟩, h2 => by subst e; exact ⟨v, _, rfl, hv, hr.append h2⟩

theorem Flat.length : ∀ {ks : List Leaf} {cs : List Value}, Flat ks cs → cs.length = ks.length
  | [], _, h => by cases h; rfl
  | _ :: _, _, ⟨_, _, e, _, hr⟩ => by subst e; simp [hr.length]

theorem Flat.get : ∀ {ks : List Leaf} {cs : List Value} (_ : Flat ks cs) (i : Nat) (l : Leaf), ks[i]? = some l → ∃ v, cs[i]? = some v ∧ l.ok v
  | [], _, _, i, l, h => by simp at h
  | k :: ks, _, ⟨v, r, e, hv, hr⟩, 0, l, h => by subst e; simp at h; subst h; exact ⟨v, rfl, hv⟩
  | k :: ks, _, ⟨v, r, e, hv, hr⟩, i + 1, l, h => by subst e; simp at h; simpa using hr.get i l h

def flatFields (P : Program) (f : TypeId → Option (List Leaf)) : List Field → Nat → Option (List Leaf)
  | [], _ => some []
  | fd :: r, off =>
    if fd.offset = off then
      match f fd.type with
      | some ks => if P.cellsOf fd.type = ks.length then (flatFields P f r (off + ks.length)).map (ks ++ ·) else none
      | none => none
    else none

def flatKinds (P : Program) : Nat → TypeId → Option (List Leaf)
  | 0, _ => none
  | n + 1, t =>
    match P.underlying t with
    | some (.int k) => some [.int k]
    | some .bool => some [.bool]
    | some (.struct fs) => match flatFields P (flatKinds P n) fs.toList 0 with
      | some ks => if P.cellsOf t = ks.length then some ks else none
      | none => none
    | some (.array m e) => match flatKinds P n e with
      | some ks => if P.cellsOf e = ks.length ∧ P.cellsOf t = m * ks.length then some (List.replicate m ks).flatten else none
      | none => none
    | _ => none

section
variable {H : Type} {enc : TypeId × Value → H} {P : Program} {w : World} {base : Nat} {spare : Nat → Bool} {held : Bool}

theorem flat_fields (f : TypeId → Option (List Leaf)) (T : TypeId → List Value → Prop) (hf : ∀ t cs ks, T t cs → f t = some ks → Flat ks cs) (cs : List Value) :
    ∀ (fs : List Field) (off : Nat) (ks : List Leaf), flatFields P f fs off = some ks → off + ks.length = cs.length → (∀ fd ∈ fs, T fd.type ((cs.drop fd.offset).take (P.cellsOf fd.type))) → Flat ks (cs.drop off)
  | [], off, ks, h, hl, _ => by
    simp [flatFields] at h; subst h
    show cs.drop off = []
    simp at hl; simp [hl]
  | fd :: r, off, ks, h, hl, hT => by
    unfold flatFields at h
    split at h
    · rename_i ho
      split at h
      · rename_i k1 hk1
        split at h
        · rename_i hc
          cases hr : flatFields P f r (off + k1.length) with
          | none => simp [hr] at h
          | some k2 =>
            simp [hr] at h
            subst h
            simp only [List.length_append] at hl
            have h1 := hf _ _ _ (hT fd (by simp)) hk1
            rw [hc, ho] at h1
            have h2 := flat_fields f T hf cs r (off + k1.length) k2 hr (by omega) (fun x hx => hT x (by simp [hx]))
            have e : cs.drop off = (cs.drop off).take k1.length ++ cs.drop (off + k1.length) := by
              rw [← List.drop_drop, List.take_append_drop]
            rw [e]
            exact h1.append h2
        · simp at h
      · simp at h
    · simp at h

theorem flat_array (ks : List Leaf) (cs : List Value) : ∀ (m : Nat), cs.length = m * ks.length → (∀ i, i < m → Flat ks ((cs.drop (i * ks.length)).take ks.length)) → Flat (List.replicate m ks).flatten cs := by
  have key : ∀ (d i m : Nat), i + d = m → cs.length = m * ks.length → (∀ i, i < m → Flat ks ((cs.drop (i * ks.length)).take ks.length)) → Flat (List.replicate d ks).flatten (cs.drop (i * ks.length)) := by
    intro d
    induction d with
    | zero => intro i m e hl _; subst e; simp at hl; show cs.drop _ = []; simp [hl]
    | succ d ih =>
      intro i m e hl hT
      have h1 := hT i (by omega)
      have h2 := ih (i + 1) m (by omega) hl hT
      have e1 : cs.drop (i * ks.length) = (cs.drop (i * ks.length)).take ks.length ++ cs.drop ((i + 1) * ks.length) := by
        rw [show (i + 1) * ks.length = i * ks.length + ks.length by rw [Nat.add_mul, Nat.one_mul], ← List.drop_drop, List.take_append_drop]
      rw [e1, List.replicate_succ, List.flatten_cons]
      exact h1.append h2
  intro m hl hT
  have := key m 0 m (by omega) hl hT
  simpa using this

theorem flat_of_trod : ∀ (n : Nat) (t : TypeId) (fuel : Nat) (cs : List Value) (x : DataW H × List MemPlace) (ks : List Leaf),
    DataW.trod enc P w base spare held fuel t cs = some x → flatKinds P n t = some ks → Flat ks cs := by
  intro n
  induction n with
  | zero => intro t fuel cs x ks _ h; simp [flatKinds] at h
  | succ n ih =>
    intro t fuel cs x ks hx h
    unfold flatKinds at h
    split at h
    · rename_i k hk
      obtain ⟨z, rfl, -, hz⟩ := DataW.trod_int hk hx
      simp at h; subst h
      exact ⟨_, _, rfl, ⟨z, rfl, hz⟩, rfl⟩
    · rename_i hk
      obtain ⟨z, rfl, -⟩ := DataW.trod_bool hk hx
      simp at h; subst h
      exact ⟨_, _, rfl, ⟨z, rfl⟩, rfl⟩
    · rename_i fs hk
      split at h
      · rename_i ks' hks
        split at h
        · rename_i hc
          simp at h; subst h
          obtain ⟨xs, m, -, -, hl, hn, hel⟩ := DataW.trod_struct hk hx
          have := flat_fields (P := P) (flatKinds P n) (fun t cs => ∃ y, DataW.trod enc P w base spare held m t cs = some y) (fun t cs ks ⟨y, hy⟩ hk => ih t m cs y ks hy hk) cs fs.toList 0 ks' hks (by omega) (by
            intro fd hfd
            obtain ⟨i, hi, rfl⟩ := List.mem_iff_getElem.1 hfd
            have hi' : i < fs.size := by simpa using hi
            have h2 := hel i fs[i] (by simp [hi'])
            rw [List.getElem?_eq_getElem (by omega)] at h2
            exact ⟨_, by simpa using h2⟩)
          simpa using this
        · simp at h
      · simp at h
    · rename_i m e hk
      split at h
      · rename_i ks' hks
        split at h
        · rename_i hc
          simp at h; subst h
          obtain ⟨xs, f, -, -, hl, hn, hel⟩ := DataW.trod_array hk hx
          refine flat_array ks' cs m (by rw [hl, hc.2]) (fun i hi => ?_)
          have h2 := hel i hi
          rw [List.getElem?_eq_getElem (by omega), hc.1] at h2
          exact ih e f _ _ ks' h2 hks
        · simp at h
      · simp at h
    · simp at h

/-- A flat argument by value (a struct, an array): its cells, written out. -/
theorem open_flat {r : Reach} {b0 : Nat} {t : TypeId} {v : Value} {d : DataW H} {p : List MemPlace} {ks : List Leaf} (n : Nat) (hk : flatKinds P n t = some ks)
    (ha : (P.underlying t).any (fun u => match u with | .struct _ => true | .array _ _ => true | _ => false) = true)
    (hv : Value.okWide P w r b0 t v) (h : DataW.Trod enc P w base spare held t v d p) : ∃ cs, v = .agg cs ∧ Flat ks cs.toList := by
  obtain ⟨fuel, hf⟩ := h
  have hag : ∃ cs, v = .agg cs := by
    unfold Value.okWide at hv
    split at hv
    · obtain ⟨cs, h, -⟩ := hv; exact ⟨cs, h⟩
    · obtain ⟨cs, h, -⟩ := hv; exact ⟨cs, h⟩
    · rename_i u h1 h2
      exfalso
      cases hu : P.underlying t with
      | none => simp [hu] at ha
      | some u =>
        cases u <;> simp [hu] at ha
        · exact h2 _ _ hu
        · exact h1 _ hu
  obtain ⟨cs, rfl⟩ := hag
  exact ⟨cs, rfl, flat_of_trod n t fuel _ _ ks hf hk⟩

/-- A slice that came in, its elements of so many cells each: nil, or a row of cap elements, each of the form ok. -/
def RowOf (ok : List Value → Prop) (size : Nat) (w : World) (a : Option Addr) (len cap : Nat) : Prop :=
  (a = none ∧ len = 0 ∧ cap = 0) ∨
  ∃ x, a = some x ∧ len ≤ cap ∧ cap ≤ maxLen ∧ ∀ i, i < cap → ∃ cs, cs.length = size ∧ ok cs ∧ ∀ j, j < size → w.cell? ((x.add (i * size)).add j) = cs[j]?

theorem cells_some {a : Addr} {n : Nat} {cs : List Value} (h : w.cells? base a n = some cs) : cs.length = n ∧ ∀ j, j < n → w.cell? (a.add j) = cs[j]? := by
  obtain ⟨_, hl, hc⟩ := World.cells?_some h
  refine ⟨hl, fun j hj => ?_⟩
  have := hc j hj
  first | exact this | (rw [this]) | simpa using this

theorem open_rowOf {r : Reach} {b0 : Nat} {t e : TypeId} {v : Value} {d : DataW H} {p : List MemPlace} (size : Nat) (ok : List Value → Prop) (ht : P.underlying t = some (.slice e)) (hc : P.cellsOf e = size)
    (hv : Value.okWide P w r b0 t v) (h : DataW.Trod enc P w base (fun _ => true) held t v d p)
    (hok : ∀ n cs x, DataW.trod enc P w base (fun _ => true) held n e cs = some x → ok cs) : ∃ a len cap, v = .slice a len cap ∧ RowOf ok size w a len cap := by
  obtain ⟨a, len, cap, rfl⟩ := Go.WideShapes.okWide_slice ht hv
  refine ⟨a, len, cap, rfl, ?_⟩
  obtain ⟨fuel, hf⟩ := h
  rcases Go.Deep.open_slice ht hf with ⟨hcs, -⟩ | ⟨x, l, c, m, n, D, Pl, hcs, -, hl, hm, hmm, -, hx⟩
  · simp [Value.cells] at hcs
    exact .inl ⟨hcs.1, hcs.2.1, hcs.2.2⟩
  · simp [Value.cells] at hcs
    obtain ⟨rfl, rfl, rfl⟩ := hcs
    simp at hmm
    subst hmm
    refine .inr ⟨x, rfl, hl, hm, fun i hi => ?_⟩
    obtain ⟨cs', h1, h2⟩ := hx i hi
    rw [hc] at h1
    obtain ⟨q1, q2⟩ := cells_some h1
    exact ⟨cs', q1, hok _ _ _ h2, q2⟩
end

end Go.Proofs.YtbjkfgfiifnjoaaDoor
