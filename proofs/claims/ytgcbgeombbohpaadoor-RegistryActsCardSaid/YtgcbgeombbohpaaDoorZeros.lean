/- append(b, make([]T, m)...): bytes. No program in sight. -/
import Derived.Test.YtgcbgeombbohpaaDoorBase
import Derived.ArgAppend
namespace Go.Proofs.YtgcbgeombbohpaaDoor
open Go.RowKit
set_option maxRecDepth 100000
section
variable {P : Program} (w : World)

def zerosV (m : Nat) : List Value := List.replicate m (.int .u8 0)
theorem zeroCells_bytes (m : Nat) : (Builtin.zeroCells (Value.int .u8 0).cells m) = (zerosV m).toArray := by
  apply Array.ext
  · simp [Builtin.zeroCells, zerosV, Value.cells]
  · intro i h1 h2
    simp [Builtin.zeroCells, zerosV, Value.cells, Nat.mod_one]

theorem zerosV_oneCell (m : Nat) : ∀ u ∈ zerosV m, u.oneCell' = true := by
  intro u hu
  rw [List.eq_of_mem_replicate hu]; rfl

theorem run_append_zeros (t u ty e : TypeId) (i : TypeInfo) (ht : P.underlying t = some (.slice e)) (hu : P.underlying u = some (.int .i64)) (hi : P.info? e = some i) (hz : i.zero = some (.int .u8 0)) (hsize : i.size = 1) (hby : i.bytes = 1)
    (g n cap : Nat) (xs : List Value) (hown : w.ownsRow 0 e 1 (.slice (some ⟨g, 0, none⟩) n cap) n xs) (m : Nat) (hm : n + m ≤ 100000) :
    ∃ v' w', (Builtin.append_ #[t, u] ty #[.slice (some ⟨g, 0, none⟩) n cap, .int .i64 (m : Int)]).run P w = .ok v' w' ∧ w'.ownsRow 0 e 1 v' (n + m) (xs ++ zerosV m) ∧ w.grownBy w' (some g) ∧
      (v'.ownBlock = some g ∨ ∃ g', v'.ownBlock = some g' ∧ w.heap.size ≤ g') := by
  obtain ⟨hxl, hrow⟩ := hown
  rcases hrow with ⟨h, -⟩ | ⟨g', cap', cur, he, -, hg, hnc, hcm, hcs, htake⟩
  · cases h
  · cases he
    have hw1 : IntKind.i64.wrap (m : Int) = (m : Int) := by rw [IntKind.wrap_i64]; omega
    have hn0 : ¬ ((m : Int) < 0) := by omega
    have hn1 : ¬ (281474976710656 < (m : Int)) := by omega
    have hzl : (zerosV m).length = m := by simp [zerosV]
    have hlen : (xs ++ zerosV m).length = (n + m) * 1 := by rw [List.length_append, hxl, hzl]; omega
    by_cases hroom : n + m ≤ cap
    · have hst := run_storeCells_at P g n e (zerosV m) 0 cur w hg (by simp only [Nat.mul_one] at hcs; rw [hzl]; omega) (zerosV_oneCell m)
      simp only [Nat.add_zero] at hst
      have hr : (Builtin.append_ #[t, u] ty #[.slice (some ⟨g, 0, none⟩) n cap, .int .i64 (m : Int)]).run P w = .ok (.slice (some ⟨g, 0, none⟩) (n + m) cap) (w.setRow g (cur.toList.take n ++ zerosV m ++ cur.toList.drop (n + (zerosV m).length)).toArray) := by
        by_cases hm0 : m = 0
        · subst hm0
          have hz0 : zerosV 0 = [] := rfl
          rw [hz0] at hst
          simp [Builtin.append_, run_underlying ht, run_underlying hu, sizeOf, typeInfo, zeroValue, hi, hz, hsize, hby, hnc, asInt, asIntOf, IntKind.wrap_i64, Addr.add_lit, hst, hz0]
        · simp [Builtin.append_, run_underlying ht, run_underlying hu, sizeOf, typeInfo, zeroValue, hi, hz, hsize, hby, hroom, asInt, asIntOf, hw1, hn0, hn1, hm0, zeroCells_bytes, Addr.add_lit, hst]
      refine ⟨_, _, hr, ⟨hlen, .inr ⟨g, cap, _, rfl, Nat.zero_le _, setRow_heap w g cur _ e _ hg, hroom, hcm, ?_, ?_⟩⟩, ⟨rfl, rfl, rfl, by simp, fun k _ hk => setRow_other w g k _ (fun e => hk (by simp [e]))⟩, .inl rfl⟩
      · simp only [List.size_toArray, List.length_append, List.length_take, List.length_drop, Array.length_toList, hzl, Nat.mul_one] at hcs ⊢
        omega
      · simp only [Nat.mul_one] at htake
        rw [htake, ← hlen]
        exact List.take_left
    · have hm0 : m ≠ 0 := by omega
      have h48' : ¬ (281474976710656 < Builtin.nextslicecap (n + m) cap) := by
        have := growslice_fits (need := n + m) (old := cap) (bytes := 1) (by omega) (by omega)
        omega
      have h63' : ¬ (9223372036854775807 < ((n : Int) + (m : Int))) := by omega
      have hfo := run_firstCells_some (P := P) w.drew 1 n ⟨g, 0, none⟩ n cap xs (by rw [hxl]) (by
        intro j u hu
        exact (World.ownsRow.cells (w := w) (base := 0) (e := e) (size := 1) (v := .slice (some ⟨g, 0, none⟩) n cap) (n := n) (xs := xs) ⟨hxl, .inr ⟨g, cap, cur, rfl, Nat.zero_le _, hg, hnc, hcm, hcs, htake⟩⟩ (g := g) rfl j u hu))
      have hge := grownCap_ge w (n + m) cap e
      have hcm2 : grownCap w (n + m) cap e ≤ maxLen := grownCap_le_maxLen w (n + m) cap e (by unfold maxLen; omega)
      have hr : (Builtin.append_ #[t, u] ty #[.slice (some ⟨g, 0, none⟩) n cap, .int .i64 (m : Int)]).run P w = .ok (.slice (some ⟨w.heap.size, 0, none⟩) (n + m) (grownCap w (n + m) cap e)) (w.drew.alloc (.cells (xs.toArray ++ (zerosV m).toArray ++ Builtin.zeroCells (Value.int .u8 0).cells (grownCap w (n + m) cap e - (n + m))) e)) := by
        simp [Builtin.append_, run_underlying ht, run_underlying hu, sizeOf, typeInfo, zeroValue, hi, hz, hsize, hby, hroom, asInt, asIntOf, hw1, hn0, hn1, hm0, h63', h48', Question.forced, hfo, newRow, grownCap, zeroCells_bytes]
      refine ⟨_, _, hr, ⟨hlen, .inr ⟨w.heap.size, _, _, rfl, Nat.zero_le _, heap_alloc_new w.drew _, hge, hcm2, ?_, ?_⟩⟩, ⟨rfl, rfl, rfl, by simp, fun k hk _ => Below.heap_alloc w.drew _ k hk⟩, .inr ⟨_, rfl, Nat.le_refl _⟩⟩
      · simp only [Array.size_append, List.size_toArray, size_zeroCells, hzl, hxl, Value.cells]
        simp; omega
      · simp only [Array.toList_append, List.append_assoc]
        rw [← List.append_assoc, ← hlen]
        exact List.take_left

theorem wp_zeros {o : Oper} {a : Act} {K : Act → World → Prop} {Q : Exit → Act → World → Prop} (s x : Operand) (t u : TypeId)
    (ho : o.op = .call { callee := .builtin .append, args := #[s, x], argTypes := #[t, u] }) (e : TypeId) (i : TypeInfo) (ht : P.underlying t = some (.slice e)) (hu : P.underlying u = some (.int .i64)) (hi : P.info? e = some i) (hz : i.zero = some (.int .u8 0)) (hsize : i.size = 1) (hby : i.bytes = 1)
    (g n cap : Nat) (xs : List Value) (hs : a.eval s = .slice (some ⟨g, 0, none⟩) n cap) (hown : w.ownsRow 0 e 1 (.slice (some ⟨g, 0, none⟩) n cap) n xs) (m : Nat) (hx : a.eval x = .int .i64 (m : Int)) (hm : n + m ≤ 100000)
    (h : ∀ v' w', w'.ownsRow 0 e 1 v' (n + m) (xs ++ zerosV m) → w.grownBy w' (some g) → (v'.ownBlock = some g ∨ ∃ g', v'.ownBlock = some g' ∧ w.heap.size ≤ g') → K (a.put o.dst v') w') : o.wp P a w K Q := by
  obtain ⟨v', w', hrun, h2, h3, h4⟩ := run_append_zeros (P := P) w t u o.type e i ht hu hi hz hsize hby g n cap xs hown m hm
  unfold Oper.wp execOp
  simp only [ho, resolve, invoke, builtin, Sem.run_bind, Sem.run_pure, Result.andThen_ok, List.map_toArray, List.map_cons, List.map_nil, hs, hx, hrun]
  exact h v' w' h2 h3 h4

theorem wpList_zeros {ops : Array Oper} {rest : List Oper} {o : Oper} {a : Act} {Q : Exit → Act → World → Prop} (hgd : o.guard = none) (s x : Operand) (t u : TypeId)
    (ho : o.op = .call { callee := .builtin .append, args := #[s, x], argTypes := #[t, u] }) (e : TypeId) (i : TypeInfo) (ht : P.underlying t = some (.slice e)) (hu : P.underlying u = some (.int .i64)) (hi : P.info? e = some i) (hz : i.zero = some (.int .u8 0)) (hsize : i.size = 1) (hby : i.bytes = 1)
    (g n cap : Nat) (xs : List Value) (hs : a.eval s = .slice (some ⟨g, 0, none⟩) n cap) (hown : w.ownsRow 0 e 1 (.slice (some ⟨g, 0, none⟩) n cap) n xs) (m : Nat) (hx : a.eval x = .int .i64 (m : Int)) (hm : n + m ≤ 100000)
    (h : ∀ v' w', w'.ownsRow 0 e 1 v' (n + m) (xs ++ zerosV m) → w.grownBy w' (some g) → (v'.ownBlock = some g ∨ ∃ g', v'.ownBlock = some g' ∧ w.heap.size ≤ g') → wpList P ops Q rest (a.put o.dst v') w') : wpList P ops Q (o :: rest) a w :=
  wpList_plain hgd fun _ hK => wp_zeros w s x t u ho e i ht hu hi hz hsize hby g n cap xs hs hown m hx hm fun v' w' h1 h2 h3 => hK _ _ (h v' w' h1 h2 h3)
end
end Go.Proofs.YtgcbgeombbohpaaDoor
