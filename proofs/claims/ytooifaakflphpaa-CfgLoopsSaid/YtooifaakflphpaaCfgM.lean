/- Package cfg: where a program may go, plainly. -/
import Derived.Test.YtooifaakflphpaaShC
import Derived.Test.YtooifaakflphpaaByt
import Derived.Test.YtooifaakflphpaaCfgW
namespace Go.Proofs.Ytooifaakflphpaa
open Go.RowKit
set_option maxRecDepth 100000

/-- The places behind one, also ones that there aren't. -/
def behindM (k : Int) (x : Ins) : List Int :=
  if kindM x = 0 ∨ kindM x = 5 ∨ kindM x = 10 then []
  else if kindM x = 3 then [k + x.off.toInt + 1]
  else if kindM x = 2 then
    (if k + x.off.toInt + 1 = k + 1 then [k + 1] else if k + x.off.toInt + 1 < k + 1 then [k + x.off.toInt + 1, k + 1] else [k + 1, k + x.off.toInt + 1])
  else if kindM x = 9 then [k + 2] else [k + 1]
def inL (n : Nat) (t : Int) : Bool := decide (0 ≤ t) && decide (t < (n : Int))
/-- The places that may come behind one. -/
def nxL (l : List Ins) (k : Nat) : List Int := match l[k]? with
  | none => []
  | some x => (behindM (k : Int) x).filter (inL l.length)
def nxM (l : List Ins) (k : Nat) : List Nat := (nxL l k).map Int.toNat

theorem nxL_in (l : List Ins) (k : Nat) : ∀ t ∈ nxL l k, 0 ≤ t ∧ t < (l.length : Int) := by
  intro t ht
  unfold nxL at ht
  split at ht
  · simp at ht
  · have := (List.mem_filter.1 ht).2
    simpa [inL] using this
theorem nxM_lt (l : List Ins) (x y : Nat) (h : y ∈ nxM l x) : y < l.length := by
  obtain ⟨t, ht, rfl⟩ := List.mem_map.1 h
  have := nxL_in l x t ht
  omega
theorem nxL_nat (l : List Ins) (k : Nat) : (nxL l k).map (Value.int .i64) = (nxM l k).map fun (y : Nat) => Value.int .i64 (y : Int) := by
  unfold nxM
  rw [List.map_map]
  refine List.map_congr_left fun t ht => ?_
  have := nxL_in l k t ht
  simp only [Function.comp_apply]
  rw [Int.toNat_of_nonneg this.1]
theorem behindM_len (k : Int) (x : Ins) : (behindM k x).length ≤ 2 := by
  unfold behindM
  repeat' split
  all_goals simp
theorem behindM_bd (k : Int) (x : Ins) (h0 : 0 ≤ k) (h1 : k ≤ 1000000) : ∀ t ∈ behindM k x, -100000 ≤ t ∧ t ≤ 2000000 := by
  have ho1 : -32768 ≤ x.off.toInt := by have := x.off.le_toInt; simpa using this
  have ho2 : x.off.toInt ≤ 32767 := by have := x.off.toInt_lt; simp at this; omega
  intro t ht
  unfold behindM at ht
  repeat' split at ht
  all_goals (simp at ht; try omega)
theorem nxL_len (l : List Ins) (k : Nat) : (nxL l k).length ≤ 2 := by
  unfold nxL
  split
  · simp
  · exact Nat.le_trans (List.length_filter_le _ _) (behindM_len _ _)

/-- A row of integers of the call's own, fresh. -/
def IntsPost (w : World) (xs : List Int) (e : Ending) (w' : World) : Prop :=
  ∃ u, e = .returned u ∧ w'.ownsRow 0 3 1 u xs.length (xs.map (Value.int .i64)) ∧ Ext [] w w' ∧ ∀ g, u.ownBlock = some g → w.heap.size ≤ g

/-- A walk from the first place on. -/
def walkM (l : List Ins) : List Nat × Bool := if l.length = 0 then ([], false) else Cf.visF (nxM l) l.length 0 (List.replicate l.length 0, false)
/-- Which may be come to. -/
def reachB (l : List Ins) (k : Nat) : Bool := decide ((walkM l).1.getD k 0 = 2)
def secB (l : List Ins) (k : Nat) : Bool := match l[k]?, l[k + 1]? with
  | some x, some y => decide (kindM y = 10) && decide (kindM x = 9)
  | _, _ => false
/-- With the second halves: the one at k, by the one ahead of it. -/
def rchM (l : List Ins) : Nat → Bool
  | 0 => reachB l 0
  | k + 1 => reachB l (k + 1) || (secB l k && rchM l k)
def reachL (l : List Ins) : List Bool := (List.range l.length).map (rchM l)
def loopsB (l : List Ins) : Bool := (walkM l).2
end Go.Proofs.Ytooifaakflphpaa
