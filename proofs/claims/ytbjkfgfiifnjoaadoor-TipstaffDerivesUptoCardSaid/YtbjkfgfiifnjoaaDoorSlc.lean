/- Parts of rows: slice expressions; two rows that grow side by side. No program in sight. -/
import Derived.Test.YtbjkfgfiifnjoaaDoorBase
namespace Go.Proofs.YtbjkfgfiifnjoaaDoor
open Go.RowKit
set_option maxRecDepth 100000

section
variable {P : Program}
theorem addr_zero0 (a : Addr) : a.add 0 = a := by
  obtain ⟨b, o, s⟩ := a
  unfold Addr.add
  split <;> simp_all
theorem run_part_to (w : World) (t e : TypeId) (i : TypeInfo) (ht : P.underlying t = some (.slice e)) (hi : P.info? e = some i) (a : Option Addr) (n c k : Nat) (hk : k ≤ c) :
    (Instr.sliceAt t (.slice a n c) none (some (.int .i64 (k : Int))) none).run P w = .ok (.slice a k c) w := by
  have hel : P.elem t = e := by simp [Program.elem, ht]
  have ht' : P.underlying t = some (.slice (P.elem t)) := by rw [hel]; exact ht
  rw [run_sliceAt_slice (P := P) w t _ none _ none ht', run_slice_h (P := P) w t a n c ht' .i64 (k : Int) (by omega) (by omega)]
  simp [sizeOf, typeInfo, hel, hi, sliced, Result.andThen]
  cases a with
  | none => simp
  | some a => simp [addr_zero0]
theorem reads_to {w : World} {T : TypeId} {a : Option Addr} {n c s : Nat} {xs : List Value} (h : w.ownsRow 0 T s (.slice a n c) n xs) (k : Nat) (hk : k ≤ n) : Reads w (.slice a k c) s k (xs.take (k * s)) := by
  obtain ⟨ao, c', he, hl, hn, hc⟩ := owns_reads h
  cases he
  refine ⟨a, c, rfl, ?_, fun e => ?_, fun ad e j u hu => hc ad e j u ?_⟩
  · rw [List.length_take, hl]
    exact Nat.min_eq_left (Nat.mul_le_mul_right _ hk)
  · have := hn e; omega
  · rw [List.getElem?_take] at hu
    split at hu
    · exact hu
    · cases hu
/-- What is behind a place of a row. -/
theorem part_from (t e : TypeId) (i : TypeInfo) (s : Nat) (ht : P.underlying t = some (.slice e)) (hi : P.info? e = some i) (hs : i.size = s) (T : TypeId) (a : Option Addr) (n c k : Nat) (hk : k ≤ n) (xs : List Value) :
    ∃ u, (∀ w, (Instr.sliceAt t (.slice a n c) (some (.int .i64 (k : Int))) none none).run P w = .ok u w) ∧ ∀ w : World, w.ownsRow 0 T s (.slice a n c) n xs → Reads w u s (n - k) (xs.drop (k * s)) := by
  have hel : P.elem t = e := by simp [Program.elem, ht]
  have ht' : P.underlying t = some (.slice (P.elem t)) := by rw [hel]; exact ht
  refine ⟨sliced a k n c s, fun w => ?_, fun w h => ?_⟩
  · rw [run_sliceAt_slice (P := P) w t _ _ none none ht', run_slice_l (P := P) w t a n c ht' .i64 (k : Int) (by omega) (by omega)]
    simp [sizeOf, typeInfo, hel, hi, hs, Result.andThen]
  · have hlen := h.1
    unfold sliced
    rcases h.2 with ⟨he, h0⟩ | ⟨g, cap, cur, he, h0, hg, hr⟩
    · cases he
      obtain rfl : k = 0 := by omega
      refine ⟨none, 0, ?_, ?_, fun _ => ⟨by omega, rfl⟩, fun ad e => by cases e⟩
      · simp
      · rw [List.length_drop, hlen]; simp
    · cases he
      by_cases hck : c = k
      · refine ⟨some ⟨g, 0, none⟩, c - k, by rw [if_pos hck], ?_, (fun e => by cases e), fun ad e j u hu => ?_⟩
        · rw [List.length_drop, hlen]; rw [Nat.sub_mul]
        · have h1 := (List.getElem?_eq_some_iff.1 hu).1
          rw [List.length_drop, hlen] at h1
          have h2 : n ≤ c := hr.1
          have : n = k := by omega
          subst this
          omega
      · refine ⟨some ((⟨g, 0, none⟩ : Addr).add (k * s)), c - k, by rw [if_neg hck]; rfl, ?_, (fun e => by cases e), fun ad e j u hu => ?_⟩
        · rw [List.length_drop, hlen]; rw [Nat.sub_mul]
        · cases e
          rw [List.getElem?_drop] at hu
          rw [Addr.add_add]
          exact h.cells (g := g) rfl _ u hu
end

/-- Two fresh rows of elements of one cell, apart. -/
structure Two (w0 w : World) (TA : TypeId) (vA : Value) (nA : Nat) (xA : List Value) (TB : TypeId) (vB : Value) (nB : Nat) (xB : List Value) : Prop where
  x : Ext [] w0 w
  a : w.ownsRow 0 TA 1 vA nA xA
  fa : ∀ g, vA.ownBlock = some g → w0.heap.size ≤ g
  b : w.ownsRow 0 TB 1 vB nB xB
  fb : ∀ g, vB.ownBlock = some g → w0.heap.size ≤ g
  d : ∀ g, vA.ownBlock = some g → vB.ownBlock ≠ some g
section
variable {w0 w w' : World} {TA TB : TypeId} {vA vB v' : Value} {nA nB n' : Nat} {xA xB x' : List Value}
theorem Two.swap (h : Two w0 w TA vA nA xA TB vB nB xB) : Two w0 w TB vB nB xB TA vA nA xA := ⟨h.x, h.b, h.fb, h.a, h.fa, fun g h1 h2 => h.d g h2 h1⟩
theorem Two.start (w0 : World) (w : World) (x : Ext [] w0 w) (TA TB : TypeId) : Two w0 w TA (.slice none 0 0) 0 [] TB (.slice none 0 0) 0 [] :=
  ⟨x, World.ownsRow_nil _ _ _ _, (fun g h => by cases h), World.ownsRow_nil _ _ _ _, (fun g h => by cases h), (fun g h => by cases h)⟩
theorem Two.newA (h : Two w0 w TA vA nA xA TB vB nB xB) : Two w0 (w.alloc (.cells #[] TA)) TA (.slice (some ⟨w.heap.size, 0, none⟩) 0 0) 0 [] TB vB nB xB := by
  have x1 : Ext [] w (w.alloc (.cells #[] TA)) := (Ext.refl _ _).alloc _
  refine ⟨h.x.trans x1, (Blk.new w TA #[]).owns rfl (by unfold maxLen; omega), fun g e => ?_, owns_ext h.b x1 (by simp), h.fb, fun g e e2 => ?_⟩
  · cases e; exact h.x.size
  · cases e
    exact absurd (owns_lt h.b e2) (Nat.lt_irrefl _)
theorem Two.appA (h : Two w0 w TA vA nA xA TB vB nB xB) (hown : w'.ownsRow 0 TA 1 v' n' x') (hg : w.grownBy w' vA.ownBlock) (hf : v'.ownBlock = vA.ownBlock ∨ ∃ g, v'.ownBlock = some g ∧ w.heap.size ≤ g) : Two w0 w' TA v' n' x' TB vB nB xB := by
  have x1 : Ext vA.ownBlock.toList w w' := (Ext.refl _ _).grown hg (fun k hk => .inl (by simp [hk]))
  have hsz := h.x.size
  refine ⟨h.x.grown hg (fun g hk => .inr (h.fa g hk)), hown, fun g e => ?_, owns_ext h.b x1 (fun g hb hm => h.d g (by simpa using hm) hb), h.fb, fun g e e2 => ?_⟩
  · rcases hf with h1 | ⟨g', h1, h2⟩
    · exact h.fa g (h1 ▸ e)
    · rw [h1] at e; cases e; omega
  · rcases hf with h1 | ⟨g', h1, h2⟩
    · exact h.d g (h1 ▸ e) e2
    · rw [h1] at e; cases e
      have := owns_lt h.b e2
      omega
theorem Two.newB (h : Two w0 w TA vA nA xA TB vB nB xB) : Two w0 (w.alloc (.cells #[] TB)) TA vA nA xA TB (.slice (some ⟨w.heap.size, 0, none⟩) 0 0) 0 [] := h.swap.newA.swap
theorem Two.appB (h : Two w0 w TA vA nA xA TB vB nB xB) (hown : w'.ownsRow 0 TB 1 v' n' x') (hg : w.grownBy w' vB.ownBlock) (hf : v'.ownBlock = vB.ownBlock ∨ ∃ g, v'.ownBlock = some g ∧ w.heap.size ≤ g) : Two w0 w' TA vA nA xA TB v' n' x' := (h.swap.appA hown hg hf).swap
end

/-! ### Pieces of a function's code -/
def isReg (n : Nat) : Code → Bool
  | .region k _ _ => k == n
  | _ => false
/-- From the region n on, to the end of what it stands in. -/
def codeAt (n : Nat) : Code → Option Code
  | .region k a d => if k == n then some (.region k a d) else none
  | .seq a b => if isReg n a then some (.seq a b) else (codeAt n a).or (codeAt n b)
  | .cond _ a b => (codeAt n a).or (codeAt n b)
  | .block _ b => codeAt n b
  | .loop b => codeAt n b
  | .scope b => codeAt n b
  | _ => none
/-- The region n alone. -/
def regAt (n : Nat) : Code → Option Code
  | .region k a d => if k == n then some (.region k a d) else none
  | .seq a b => (regAt n a).or (regAt n b)
  | .cond _ a b => (regAt n a).or (regAt n b)
  | .block _ b => regAt n b
  | .loop b => regAt n b
  | .scope b => regAt n b
  | _ => none
def begins (n : Nat) : Code → Bool
  | .region k _ _ => k == n
  | .seq a _ => begins n a
  | _ => false
/-- All that begins with the region n, in what it stands in. -/
def tailAt (n : Nat) : Code → Option Code
  | .seq a b => if begins n a then some (.seq a b) else (tailAt n a).or (tailAt n b)
  | .cond _ a b => (tailAt n a).or (tailAt n b)
  | .block _ b => tailAt n b
  | .loop b => tailAt n b
  | .scope b => tailAt n b
  | _ => none

theorem own_get {w : World} {T : TypeId} {a : Option Addr} {n c : Nat} {xs : List Value} (h : w.ownsRow 0 T 1 (.slice a n c) n xs) (m : Nat) (hm : m < n) :
    ∃ g, a = some ⟨g, 0, none⟩ ∧ g < w.heap.size ∧ w.cell? ⟨g, m, none⟩ = xs[m]? ∧ w.frozen? ⟨g, m, none⟩ = false := by
  obtain ⟨g, cap, cur, he, hb, -, -, -, ht⟩ := owns_some h (by omega)
  cases he
  rw [Nat.mul_one] at ht
  refine ⟨g, rfl, hb.lt, ?_, hb.frozen m⟩
  rw [hb.cell, ← ht, List.getElem?_take, if_pos hm]
end Go.Proofs.YtbjkfgfiifnjoaaDoor
