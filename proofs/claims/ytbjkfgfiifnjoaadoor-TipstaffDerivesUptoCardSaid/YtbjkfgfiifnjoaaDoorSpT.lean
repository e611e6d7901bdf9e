/- Package space: trees of namespaces, plain and in memory; find, Up, Depth, Len. -/
import Derived.Test.YtbjkfgfiifnjoaaDoorIndex
import Derived.Test.YtbjkfgfiifnjoaaDoorReverse
namespace Go.Proofs.YtbjkfgfiifnjoaaDoor
open Go.RowKit
set_option maxRecDepth 100000

/-- A tree: how many, of each the one it is within, of each the way from 0. -/
structure Tree where
  len : Nat
  up : Nat → Nat
  ps : Nat → List Nat

structure Tree.OK (T : Tree) : Prop where
  pos : 1 ≤ T.len
  le : T.len ≤ 8
  root : T.ps 0 = [0]
  up0 : T.up 0 = 0
  step : ∀ n, 0 < n → n < T.len → T.up n < n ∧ T.ps n = T.ps (T.up n) ++ [n]
  deep : ∀ n, n < T.len → (T.ps n).length ≤ 5

def Tree.depth (T : Tree) (n : Nat) : Nat := (T.ps n).length - 1

theorem Tree.OK.len_pos {T : Tree} (h : T.OK) (n : Nat) (hn : n < T.len) : 1 ≤ (T.ps n).length := by
  by_cases h0 : n = 0
  · subst h0; rw [h.root]; simp
  · rw [(h.step n (by omega) hn).2]; simp

theorem Tree.OK.depth_le {T : Tree} (h : T.OK) (n : Nat) (hn : n < T.len) : T.depth n ≤ 4 := by
  have := h.deep n hn; unfold Tree.depth; omega

theorem Tree.OK.len_eq {T : Tree} (h : T.OK) (n : Nat) (hn : n < T.len) : (T.ps n).length = T.depth n + 1 := by
  have := h.len_pos n hn; unfold Tree.depth; omega

theorem Tree.OK.up_lt {T : Tree} (h : T.OK) (n : Nat) (hn : n < T.len) : T.up n < T.len := by
  by_cases h0 : n = 0
  · subst h0; rw [h.up0]; exact hn
  · have := (h.step n (by omega) hn).1; omega

theorem Tree.OK.depth_zero {T : Tree} (h : T.OK) (n : Nat) (hn : n < T.len) (hd : T.depth n = 0) : n = 0 := by
  by_cases h0 : n = 0
  · exact h0
  · have h1 := h.step n (by omega) hn
    have h2 := h.len_pos (T.up n) (by omega)
    unfold Tree.depth at hd
    rw [h1.2] at hd
    simp at hd
    simp [hd] at h2

theorem Tree.OK.depth_root {T : Tree} (h : T.OK) : T.depth 0 = 0 := by unfold Tree.depth; rw [h.root]; rfl

theorem Tree.OK.depth_up {T : Tree} (h : T.OK) (n : Nat) (h0 : 0 < n) (hn : n < T.len) : T.depth n = T.depth (T.up n) + 1 := by
  have h1 := h.step n h0 hn
  have h2 := h.len_pos (T.up n) (by omega)
  unfold Tree.depth
  rw [h1.2]; simp; omega

theorem Tree.OK.head {T : Tree} (h : T.OK) : ∀ n, n < T.len → (T.ps n)[0]? = some 0 := by
  intro n
  induction n using Nat.strongRecOn with
  | _ n ih =>
    intro hn
    by_cases h0 : n = 0
    · subst h0; rw [h.root]; rfl
    · have h1 := h.step n (by omega) hn
      have h2 := h.len_pos (T.up n) (by omega)
      rw [h1.2, List.getElem?_append_left (by omega)]
      exact ih _ h1.1 (by omega)

theorem Tree.OK.last {T : Tree} (h : T.OK) (n : Nat) (hn : n < T.len) : (T.ps n)[T.depth n]? = some n := by
  by_cases h0 : n = 0
  · subst h0; rw [h.depth_root, h.root]; rfl
  · have h1 := h.step n (by omega) hn
    have h2 := h.len_eq (T.up n) (by omega)
    rw [h.depth_up n (by omega) hn, h1.2, ← h2]; simp

theorem Tree.OK.mem_lt {T : Tree} (h : T.OK) : ∀ n, n < T.len → ∀ x ∈ T.ps n, x ≤ n := by
  intro n
  induction n using Nat.strongRecOn with
  | _ n ih =>
    intro hn x hx
    by_cases h0 : n = 0
    · subst h0; rw [h.root] at hx; simp at hx; omega
    · have h1 := h.step n (by omega) hn
      rw [h1.2] at hx
      simp only [List.mem_append, List.mem_singleton] at hx
      rcases hx with hx | hx
      · have := ih _ h1.1 (by omega) x hx; omega
      · omega

/-- One more, within u. -/
def Tree.push (T : Tree) (u : Nat) : Tree where
  len := T.len + 1
  up := fun k => if k = T.len then u else T.up k
  ps := fun k => if k = T.len then T.ps u ++ [T.len] else T.ps k

theorem Tree.OK.push {T : Tree} (h : T.OK) {u : Nat} (hu : u < T.len) (hd : T.depth u < 4) (hl : T.len < 8) : (T.push u).OK where
  pos := by simp [Tree.push]
  le := by simp [Tree.push]; omega
  root := by have := h.pos; simp only [Tree.push]; rw [if_neg (by omega)]; exact h.root
  up0 := by have := h.pos; simp only [Tree.push]; rw [if_neg (by omega)]; exact h.up0
  step := by
    intro n h0 hn
    simp only [Tree.push] at hn ⊢
    by_cases e : n = T.len
    · rw [if_pos e, if_pos e, if_neg (by omega)]; subst e; exact ⟨hu, rfl⟩
    · rw [if_neg e, if_neg e]
      have h1 := h.step n h0 (by omega)
      rw [if_neg (by omega)]; exact h1
  deep := by
    intro n hn
    simp only [Tree.push] at hn ⊢
    by_cases e : n = T.len
    · rw [if_pos e]
      have := h.len_eq u hu
      simp; omega
    · rw [if_neg e]; exact h.deep n (by omega)

/-- The first one alone. -/
def Tree.one : Tree := ⟨1, fun _ => 0, fun _ => [0]⟩
theorem Tree.one_ok : Tree.one.OK := ⟨by decide, by decide, rfl, rfl, fun n h0 hn => by simp [Tree.one] at hn; omega, fun n _ => by simp [Tree.one]⟩

/-- The cells of the first k. -/
def nodesTo (T : Tree) : Nat → List Value
  | 0 => []
  | k + 1 => nodesTo T k ++ [.int .i64 (T.up k : Nat), .int .i64 (T.depth k : Nat)]

theorem nodesTo_length (T : Tree) : ∀ k, (nodesTo T k).length = k * 2
  | 0 => rfl
  | k + 1 => by simp [nodesTo, nodesTo_length T k]; omega

theorem nodesTo_up (T : Tree) : ∀ k n, n < k → (nodesTo T k)[n * 2]? = some (.int .i64 (T.up n : Nat))
  | k + 1, n, h => by
    simp only [nodesTo]
    by_cases e : n = k
    · subst e; rw [List.getElem?_append_right (by rw [nodesTo_length]; omega), nodesTo_length]; simp
    · rw [List.getElem?_append_left (by rw [nodesTo_length]; omega)]; exact nodesTo_up T k n (by omega)

theorem nodesTo_depth (T : Tree) : ∀ k n, n < k → (nodesTo T k)[n * 2 + 1]? = some (.int .i64 (T.depth n : Nat))
  | k + 1, n, h => by
    simp only [nodesTo]
    by_cases e : n = k
    · subst e; rw [List.getElem?_append_right (by rw [nodesTo_length]; omega), nodesTo_length]; simp
    · rw [List.getElem?_append_left (by rw [nodesTo_length]; omega)]; exact nodesTo_depth T k n (by omega)

theorem nodesTo_push (T : Tree) (u : Nat) (hp : 1 ≤ (T.ps u).length) : nodesTo (T.push u) (T.len + 1) = nodesTo T T.len ++ [.int .i64 (u : Nat), .int .i64 ((T.depth u + 1 : Nat) : Int)] := by
  have key : ∀ k, k ≤ T.len → nodesTo (T.push u) k = nodesTo T k := by
    intro k
    induction k with
    | zero => intro _; rfl
    | succ k ih =>
      intro hk
      simp only [nodesTo]
      rw [ih (by omega)]
      simp only [Tree.push, Tree.depth]
      rw [if_neg (by omega), if_neg (by omega)]
  simp only [nodesTo]
  rw [key _ (Nat.le_refl _)]
  simp only [Tree.push, Tree.depth, if_true]
  have : ((T.ps u ++ [T.len]).length - 1) = (T.ps u).length - 1 + 1 := by simp; omega
  rw [this]

/-- A tree in memory: the struct's block, the row's block and capacity. -/
structure TreeAt (w : World) (bt bl cap : Nat) (T : Tree) : Prop where
  t : Blk w bt 153 [.slice (some ⟨bl, 0, none⟩) T.len cap]
  a : w.ownsRow 0 155 2 (.slice (some ⟨bl, 0, none⟩) T.len cap) T.len (nodesTo T T.len)
  ne : bt ≠ bl
  ok : T.OK

theorem TreeAt.ext {S : List Nat} {w w' : World} {bt bl cap : Nat} {T : Tree} (h : TreeAt w bt bl cap T) (e : Ext S w w') (h1 : bt ∉ S) (h2 : bl ∉ S) : TreeAt w' bt bl cap T :=
  ⟨h.t.ext e h1, owns_ext h.a e (fun k hk => by simp [Value.ownBlock] at hk; subst hk; exact h2), h.ne, h.ok⟩

theorem TreeAt.drew {w : World} {bt bl cap : Nat} {T : Tree} (h : TreeAt w bt bl cap T) : TreeAt w.drew bt bl cap T := ⟨h.t, h.a, h.ne, h.ok⟩

theorem TreeAt.lt1 {w : World} {bt bl cap : Nat} {T : Tree} (h : TreeAt w bt bl cap T) : bt < w.heap.size := h.t.lt
theorem TreeAt.lt2 {w : World} {bt bl cap : Nat} {T : Tree} (h : TreeAt w bt bl cap T) : bl < w.heap.size := owns_lt h.a rfl

theorem TreeAt.up {w : World} {bt bl cap : Nat} {T : Tree} (h : TreeAt w bt bl cap T) (n : Nat) (hn : n < T.len) : w.cell? ⟨bl, n * 2, none⟩ = some (.int .i64 (T.up n : Nat)) := by
  rw [h.a.cellAt (n * 2) (by omega)]; exact nodesTo_up T _ n hn
theorem TreeAt.depth {w : World} {bt bl cap : Nat} {T : Tree} (h : TreeAt w bt bl cap T) (n : Nat) (hn : n < T.len) : w.cell? ⟨bl, n * 2 + 1, none⟩ = some (.int .i64 (T.depth n : Nat)) := by
  rw [h.a.cellAt (n * 2 + 1) (by omega)]; exact nodesTo_depth T _ n hn

set_option maxHeartbeats 400000 in
theorem find_ok (bt bl cap n : Nat) (T : Tree) (w : World) (H : TreeAt w bt bl cap T) (hn : n < T.len) :
    Calls Tryd.prog 73 #[.pointer (some ⟨bt, 0, none⟩), .int .i64 n] w fun e w' => e = .returned (.tuple #[.agg #[.int .i64 (T.up n : Nat), .int .i64 (T.depth n : Nat)], .int .i64 0]) ∧ Ext [] w w' := by
  have hs := H.ok.le
  have ht := H.t.cell 0
  simp only [List.getElem?_cons_zero] at ht
  have c1 := H.up n hn
  have c2 := H.depth n hn
  have l1 := H.lt1
  have l2 := H.lt2
  generalize T.depth n = d at *
  generalize T.up n = u at *
  go_enter Tryd.func73, Tryd.ntmps73
  go_wp2_with fail
  go_returns
  exact ⟨rfl, (((Ext.refl _ _).alloc _))⟩

set_option maxHeartbeats 400000 in
theorem find_no (bt bl cap : Nat) (n : Int) (T : Tree) (w : World) (H : TreeAt w bt bl cap T) (hn : n < 0 ∨ (T.len : Int) ≤ n) :
    Calls Tryd.prog 73 #[.pointer (some ⟨bt, 0, none⟩), .int .i64 n] w fun e w' => e = .returned (.tuple #[.agg #[.int .i64 0, .int .i64 0], .int .i64 2]) ∧ Ext [] w w' := by
  have hs := H.ok.le
  have ht := H.t.cell 0
  simp only [List.getElem?_cons_zero] at ht
  have l1 := H.lt1
  rcases hn with hn | hn
  · go_enter Tryd.func73, Tryd.ntmps73
    go_wp2_with fail
    go_returns
    exact ⟨rfl, (((Ext.refl _ _).alloc _))⟩
  · have h0 : ¬ n < 0 := by omega
    go_enter Tryd.func73, Tryd.ntmps73
    go_wp2_with fail
    go_returns
    exact ⟨rfl, (((Ext.refl _ _).alloc _))⟩

theorem find_nil (n : Int) (w : World) :
    Calls Tryd.prog 73 #[.pointer none, .int .i64 n] w fun e w' => e = .returned (.tuple #[.agg #[.int .i64 0, .int .i64 0], .int .i64 22]) ∧ Ext [] w w' := by
  go_enter Tryd.func73, Tryd.ntmps73
  go_wp2_with fail
  go_returns
  exact ⟨rfl, (((Ext.refl _ _).alloc _))⟩

theorem depth_of (p : Option Addr) (n u d x : Int) (w : World)
    (hf : Calls Tryd.prog 73 #[.pointer p, .int .i64 n] w fun e w' => e = .returned (.tuple #[.agg #[.int .i64 u, .int .i64 d], .int .i64 x]) ∧ Ext [] w w') :
    Calls Tryd.prog 74 #[.pointer p, .int .i64 n] w fun e w' => e = .returned (.tuple #[.int .i64 d, .int .i64 x]) ∧ Ext [] w w' := by
  have HF := Lib.hid hf
  clear hf
  go_enter Tryd.func74, Tryd.ntmps74
  go_wp2_with fail
  refine HF.out.mono ?_
  rintro e w1 ⟨rfl, x1⟩
  go_wp2_with fail
  go_returns
  exact ⟨rfl, x1.alloc _⟩

theorem info_node : (Tryd.prog.info? 155).map (fun i => (i.zero, i.size, i.bytes)) = some (some (.agg #[.int .i64 0, .int .i64 0]), 2, 16) := by kernel_rfl

theorem tree_new (w : World) :
    Calls Tryd.prog 32 #[] w fun e w' => e = .returned (.pointer (some ⟨w.heap.size + 1, 0, none⟩)) ∧ TreeAt w' (w.heap.size + 1) w.heap.size 1 Tree.one ∧ Ext [] w w' ∧ w'.heap.size = w.heap.size + 2 := by
  go_enter Tryd.func32, Tryd.ntmps32
  obtain ⟨i0, hi, hz0, hz1, hz2⟩ := info_parts info_node
  go_wp2_with (at_make; refine wpList_mkz _ rfl _ _ _ rfl 155 i0 (.agg #[.int .i64 0, .int .i64 0]) 2 Tryd.underlying151 hi hz0 hz1 .i64 .i64 _ _ 1 rfl rfl rfl rfl (by rw [hz2]; omega) (by unfold maxLen; omega) ?_; rw [show madeCells (Value.agg #[.int .i64 0, .int .i64 0]).cells (1 * 2) = #[.int .i64 0, .int .i64 0] from by kernel_rfl])
  go_ret
  refine ⟨rfl, ⟨?_, ?_, by omega, Tree.one_ok⟩, ((Ext.refl _ _).alloc _).alloc _, by simp⟩
  · exact Blk.new' (w.alloc (.cells #[.int .i64 0, .int .i64 0] 155)) 153 #[.slice (some ⟨w.heap.size, 0, none⟩) 1 1] (w.heap.size + 1) (by simp)
  · exact (((Blk.new w 155 #[.int .i64 0, .int .i64 0]).alloc (.cells #[.slice (some ⟨w.heap.size, 0, none⟩) 1 1] 153)).owns (n := 1) (size := 2) rfl (by decide))

end Go.Proofs.YtbjkfgfiifnjoaaDoor
