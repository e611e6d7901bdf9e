/- TipstaffDerives, plainly: trees that are one way inward; chains of tokens that go inward. -/
import Derived.Test.YtbjkfgfiifnjoaaDoorTkG
namespace Go.Proofs.YtbjkfgfiifnjoaaDoor
open Go.RowKit
set_option maxRecDepth 100000

/-- Namespaces each within the one ahead. -/
def chainT : Nat → Tree
  | 0 => Tree.one
  | k + 1 => (chainT k).push k

theorem chainT_len : ∀ k, (chainT k).len = k + 1
  | 0 => rfl
  | k + 1 => by
    show (chainT k).len + 1 = k + 1 + 1
    rw [chainT_len k]

theorem chainT_make (k : Nat) (hk : k < 4) : (chainT k).make (k : Int) = (((k + 1 : Nat) : Int), 0, chainT (k + 1)) := by
  match k, hk with
  | 0, _ => rfl
  | 1, _ => rfl
  | 2, _ => rfl
  | 3, _ => rfl

theorem chainT_inR (d i : Nat) (h : i ≤ d) : inR (chainT d) (i : Int) = true := by
  unfold inR
  rw [chainT_len]
  simp
  omega

theorem chainT_in (d n : Nat) (h1 : 1 ≤ d) (h4 : d ≤ 4) (hn : n ≤ 2) : (chainT d).inside ((min (n + 1) d : Nat) : Int) ((min n d : Nat) : Int) = true := by
  have h : ∀ d : Fin 4, ∀ n : Fin 3, (chainT (d.val + 1)).inside ((min (n.val + 1) (d.val + 1) : Nat) : Int) ((min n.val (d.val + 1) : Nat) : Int) = true := by decide
  obtain ⟨d, rfl⟩ : ∃ d', d = d' + 1 := ⟨d - 1, by omega⟩
  exact h ⟨d, by omega⟩ ⟨n, by omega⟩

theorem chainT_out (d n : Nat) (h1 : 1 ≤ d) (h4 : d ≤ 4) (hn : n ≤ 2) : (chainT d).inside (((min (n + 1) d - 1 : Nat)) : Int) ((min (n + 1) d : Nat) : Int) = false := by
  have h : ∀ d : Fin 4, ∀ n : Fin 3, (chainT (d.val + 1)).inside ((min (n.val + 1) (d.val + 1) - 1 : Nat) : Int) ((min (n.val + 1) (d.val + 1) : Nat) : Int) = false := by decide
  obtain ⟨d, rfl⟩ : ∃ d', d = d' + 1 := ⟨d - 1, by omega⟩
  exact h ⟨d, by omega⟩ ⟨n, by omega⟩

/-! ### rights -/
theorem Rt.within_iff (a b : Rt) : a.within b = true ↔ a.common b = a := by unfold Rt.within; simp
theorem Rt.common_assoc (a b c : Rt) : (a.common b).common c = a.common (b.common c) := by
  unfold Rt.common
  simp [BitVec.and_assoc, Bool.and_assoc, Bool.or_assoc]
theorem Rt.common_self (a : Rt) : a.common a = a := by
  unfold Rt.common
  simp
theorem Rt.within_self (a : Rt) : a.within a = true := (Rt.within_iff _ _).2 a.common_self
theorem Rt.within_common (a b : Rt) : (a.common b).within b = true := (Rt.within_iff _ _).2 (by rw [Rt.common_assoc, Rt.common_self])
theorem Rt.within_trans {a b c : Rt} (h : a.within b = true) (k : b.within c = true) : a.within c = true := by
  rw [Rt.within_iff] at *
  rw [← h, Rt.common_assoc, k]

/-! ### chains, from the last token on -/
def Good (d : Nat) : List Tk → Prop
  | [] => False
  | [x] => x = (0, Rt.all)
  | x :: y :: rest => x.1 = ((min (rest.length + 1) d : Nat) : Int) ∧ x.2.within y.2 = true ∧ Good d (y :: rest)

theorem Good.at_ {d : Nat} {x : Tk} {xs : List Tk} (h : Good d (x :: xs)) : x.1 = ((min xs.length d : Nat) : Int) := by
  cases xs with
  | nil => rw [show x = (0, Rt.all) from h]; simp
  | cons y rest => exact h.1

theorem Good.within {d : Nat} : ∀ {x : Tk} {xs : List Tk}, Good d (x :: xs) → ∀ y ∈ x :: xs, x.2.within y.2 = true
  | x, [], _, y, hy => by rw [List.mem_singleton] at hy; subst hy; exact Rt.within_self _
  | x, z :: rest, h, y, hy => by
    rcases List.mem_cons.1 hy with rfl | hy
    · exact Rt.within_self _
    · exact Rt.within_trans h.2.1 (Good.within h.2.2 y hy)

theorem Good.sound {d : Nat} (h1 : 1 ≤ d) (h4 : d ≤ 4) : ∀ {ch : List Tk}, Good d ch → ch.length ≤ 4 → soundB (chainT d) ch = true
  | [], h, _ => h.elim
  | [x], h, _ => by
    rw [show x = (0, Rt.all) from h]
    unfold soundB
    rw [show ((0, Rt.all) : Tk).1 = ((0 : Nat) : Int) from rfl, chainT_inR d 0 (by omega)]
    decide
  | x :: y :: rest, h, hl => by
    unfold soundB underB
    have ha := h.1
    have hb := Good.at_ h.2.2
    simp only [List.length_cons] at hl
    rw [ha, hb, chainT_in d rest.length h1 h4 (by omega), h.2.1, Good.sound h1 h4 h.2.2 (by simp only [List.length_cons]; omega)]
    rfl

theorem good_one (d : Nat) : Good d [(0, Rt.all)] := rfl

/-- One more: of what is common. -/
theorem Good.snoc {d : Nat} {x : Tk} {xs : List Tk} (h : Good d (x :: xs)) (p : Rt) : Good d ((((min (xs.length + 1) d : Nat) : Int), p.common x.2) :: x :: xs) := ⟨rfl, Rt.within_common _ _, h⟩

theorem good_derive {d : Nat} {x : Tk} {xs : List Tk} (h1 : 1 ≤ d) (h4 : d ≤ 4) (h : Good d (x :: xs)) (hl : xs.length ≤ 2) (p : Rt) (n : Nat) (hn : n ≤ 3) :
    derE (chainT d) x n ((min (xs.length + 1) d : Nat) : Int) (p.common x.2) = 0 := by
  unfold derE underB
  rw [chainT_inR d _ (Nat.min_le_right _ _), h.at_, chainT_in d xs.length h1 h4 hl, Rt.within_common, if_pos rfl, if_pos (by rfl), if_neg (by omega)]

theorem good_back {d k : Nat} (h1 : 1 ≤ d) (h4 : d ≤ 4) (hk : k ≤ 2) (r q : Rt) (n : Nat) :
    derE (chainT d) (((min (k + 1) d : Nat) : Int), q) n ((min (k + 1) d - 1 : Nat) : Int) r = 1 := by
  unfold derE underB
  rw [chainT_inR d _ (by omega), chainT_out d k h1 h4 hk, if_pos rfl, if_neg (by simp)]
end Go.Proofs.YtbjkfgfiifnjoaaDoor
