/- Maps keyed by int that the call itself makes: what stands in them, told as a list of pairs in the order in which they came. No program in sight. -/
import Derived.Test.YtbjkfgfiifnjoaaDoorBase
import Derived.MapKept
import Derived.Maps.OwnOps
namespace Go.Proofs.YtbjkfgfiifnjoaaDoor
open Go.RowKit Go.MapKept
set_option maxRecDepth 100000

/-- Block b of w is a map with these pairs. -/
def MapB (w : World) (b : Nat) (l : List (Int × Value)) : Prop :=
  ∃ es clock, w.heap[b]? = some (.map es clock) ∧ es.toList.map (fun e => (e.key, e.val)) = l.map (fun p => (Value.int .i64 p.1, p.2)) ∧ Stamped es clock

theorem MapB.lt {w : World} {b : Nat} {l : List (Int × Value)} (h : MapB w b l) : b < w.heap.size := by
  obtain ⟨es, c, hb, -⟩ := h
  exact (Array.getElem?_eq_some_iff.1 hb).1

theorem MapB.ext {S : List Nat} {w w' : World} {b : Nat} {l : List (Int × Value)} (h : MapB w b l) (e : Ext S w w') (hb : b ∉ S) : MapB w' b l := by
  obtain ⟨es, c, h1, h2, h3⟩ := h
  exact ⟨es, c, (e.block b (Array.getElem?_eq_some_iff.1 h1).1 hb).trans h1, h2, h3⟩

theorem MapB.new (w : World) : MapB (w.alloc (.map #[] 0)) w.heap.size [] :=
  ⟨#[], 0, (heap_alloc w _).1, rfl, stamped_empty 0⟩

theorem MapB.length {w : World} {b : Nat} {l : List (Int × Value)} (_h : MapB w b l) : ∀ es c, w.heap[b]? = some (.map es c) → es.toList.map (fun e => (e.key, e.val)) = l.map (fun p => (Value.int .i64 p.1, p.2)) → es.size = l.length := by
  intro es c _ h2
  have := congrArg List.length h2
  simpa using this

/-- The place of a key, and what stands there. -/
def atKey (k : Int) : List (Int × Value) → Nat → Option (Nat × Value)
  | [], _ => none
  | p :: r, i => if k = p.1 then some (i, p.2) else atKey k r (i + 1)

theorem findNow_int (k : Int) : ∀ (l : List (Int × Value)) (es : List MapEntry) (i : Nat), es.map (fun e => (e.key, e.val)) = l.map (fun p => (Value.int .i64 p.1, p.2)) →
    Instr.findNow (.int .i64) (.int .i64 k) es i = some (atKey k l i)
  | [], [], _, _ => rfl
  | [], _ :: _, _, h => by simp at h
  | _ :: _, [], _, h => by simp at h
  | p :: l, e :: es, i, h => by
    simp only [List.map_cons, List.cons.injEq, Prod.mk.injEq] at h
    obtain ⟨⟨h1, h2⟩, h3⟩ := h
    have ih := findNow_int k l es (i + 1) h3
    simp only [Instr.findNow, atKey, h1, h2, Instr.sameNow, if_true]
    by_cases hk : k = p.1
    · simp [hk]
    · simp only [show (k == p.1) = false by simpa using hk, if_neg hk]; exact ih

theorem atKey_none {k : Int} : ∀ {l : List (Int × Value)} {i : Nat}, (∀ p ∈ l, p.1 ≠ k) → atKey k l i = none
  | [], _, _ => rfl
  | p :: l, i, h => by
    simp only [atKey]
    rw [if_neg (fun e => h p (by simp) e.symm)]
    exact atKey_none fun q hq => h q (by simp [hq])

theorem atKey_some {k : Int} : ∀ {l : List (Int × Value)} {i j : Nat} {v : Value}, (hj : j < l.length) → l[j] = (k, v) → (∀ m (hm : m < l.length), m < j → l[m].1 ≠ k) → atKey k l i = some (i + j, v)
  | [], _, j, _, hj, _, _ => by simp at hj
  | p :: l, i, 0, v, _, h, _ => by
    simp at h; subst h; simp [atKey]
  | p :: l, i, j + 1, v, hj, h, hm => by
    have h0 := hm 0 (by simp) (by omega)
    simp only [List.getElem_cons_zero] at h0
    simp only [atKey]
    rw [if_neg (fun e => h0 e.symm), atKey_some (j := j) (i := i + 1) (by simpa using hj) (by simpa using h) (fun m hm' hlt => by
      have := hm (m + 1) (by simpa using hm') (by omega)
      simpa using this)]
    simp; omega

section
variable {P : Program} {T K E : TypeId}

theorem run_lookup_int (ht : P.underlying T = some (.map K E)) (hk : P.underlying K = some (.int .i64)) {w : World} {b : Nat} {l : List (Int × Value)} (h : MapB w b l) (z : Value) (hz : (zeroValue E).run P w = .ok z w) (k : Int) (ok : Bool) :
    (Instr.lookup T (.map (some b)) (.int .i64 k) ok).run P w = .ok (if ok then .tuple #[((atKey k l 0).map (·.2)).getD z, .bool (atKey k l 0).isSome] else ((atKey k l 0).map (·.2)).getD z) w := by
  obtain ⟨es, c, hb, hes, -⟩ := h
  have h1 := Go.MapKept.run_getObj_map (P := P) hb
  have h2 := Go.MapKept.run_checkKey (P := P) (w := w) (d := .int .i64) (k := .int .i64 k) hk rfl es.isEmpty 9999
  have h3 := Go.MapKept.run_findKey (P := P) (w := w) (d := .int .i64) (k := .int .i64 k) hk (findNow_int k l es.toList 0 hes)
  unfold Instr.lookup
  simp only [Sem.run_bind, run_underlying ht, Result.andThen, h1, h2, h3, Sem.run_pure]
  cases ha : atKey k l 0 with
  | none => simp only [Sem.run_bind, hz, Result.andThen, Sem.run_pure]; cases ok <;> rfl
  | some p => obtain ⟨i, v⟩ := p; cases ok <;> rfl

theorem run_update_new (ht : P.underlying T = some (.map K E)) (hk : P.underlying K = some (.int .i64)) {w : World} {b : Nat} {l : List (Int × Value)} (h : MapB w b l) (k : Int) (v : Value) (hno : ∀ p ∈ l, p.1 ≠ k) :
    ∃ w', (Instr.mapUpdate T (.map (some b)) (.int .i64 k) v).run P w = .ok () w' ∧ MapB w' b (l ++ [(k, v)]) ∧ Ext [b] w w' ∧ w'.heap.size = w.heap.size := by
  obtain ⟨es, c, hb, hes, hst⟩ := h
  have h1 := Go.MapKept.run_getObj_map (P := P) hb
  have h2 := Go.MapKept.run_checkKey (P := P) (w := w) (d := .int .i64) (k := .int .i64 k) hk rfl false 9999
  have h3 := Go.MapKept.run_findKey (P := P) (w := w) (d := .int .i64) (k := .int .i64 k) hk (findNow_int k l es.toList 0 hes)
  have h4 := Go.MapKept.run_setObj_map (P := P) (.map (es.push { key := .int .i64 k, val := v, born := c }) (c + 1)) hb
  rw [atKey_none hno] at h3
  refine ⟨{ w with heap := w.heap.setIfInBounds b (.map (es.push { key := .int .i64 k, val := v, born := c }) (c + 1)) }, ?_, ?_, ?_, by simp⟩
  · unfold Instr.mapUpdate
    simp only [Sem.run_bind, run_underlying ht, Result.andThen, h1, h2, h3, h4]
  · refine ⟨_, _, (heap_set hb).1, by simp [hes], stamped_push hst ?_⟩
    intro x hx he
    have hm : (x.key, x.val) ∈ es.toList.map (fun e => (e.key, e.val)) := List.mem_map.2 ⟨x, hx, rfl⟩
    rw [hes] at hm
    obtain ⟨p, hp, hpe⟩ := List.mem_map.1 hm
    simp only [Prod.mk.injEq] at hpe
    rw [he] at hpe
    have := hpe.1
    simp only [Value.int.injEq, true_and] at this
    exact hno p hp this
  · exact ⟨rfl, rfl, rfl, by simp, fun i hi hn => (heap_set hb).2 i (by simpa using hn)⟩

theorem map_eraseIdx {α β : Type} (f : α → β) : ∀ (l : List α) (i : Nat), (l.eraseIdx i).map f = (l.map f).eraseIdx i
  | [], _ => rfl
  | _ :: _, 0 => rfl
  | a :: l, i + 1 => by simp [List.eraseIdx, map_eraseIdx f l i]

theorem run_delete_int (ht : P.underlying T = some (.map K E)) (hk : P.underlying K = some (.int .i64)) (ty : TypeId) {w : World} {b : Nat} {l : List (Int × Value)} (h : MapB w b l) (k : Int) {j : Nat} {v : Value} (ha : atKey k l 0 = some (j, v)) :
    ∃ w', (Builtin.delete_ #[T, K] ty #[.map (some b), .int .i64 k]).run P w = .ok (.tuple #[]) w' ∧ MapB w' b (l.eraseIdx j) ∧ Ext [b] w w' ∧ w'.heap.size = w.heap.size := by
  obtain ⟨es, c, hb, hes, hst⟩ := h
  have h1 := Go.MapKept.run_getObj_map (P := P) hb
  have h2 := Go.MapKept.run_checkKey (P := P) (w := w) (d := .int .i64) (k := .int .i64 k) hk rfl es.isEmpty 9999
  have h3 := Go.MapKept.run_findKey (P := P) (w := w) (d := .int .i64) (k := .int .i64 k) hk (findNow_int k l es.toList 0 hes)
  have h4 := Go.MapKept.run_setObj_map (P := P) (.map (es.eraseIdxIfInBounds j) c) hb
  rw [ha] at h3
  refine ⟨{ w with heap := w.heap.setIfInBounds b (.map (es.eraseIdxIfInBounds j) c) }, ?_, ?_, ?_, by simp⟩
  · unfold Builtin.delete_
    simp only [List.getElem?_toArray, List.getElem?_cons_zero, List.getElem?_cons_succ, Sem.run_bind, run_underlying ht, Result.andThen, h1, h2, h3, h4, Sem.run_pure]
  · refine ⟨_, _, (heap_set hb).1, ?_, stamped_erase hst j⟩
    have e : (es.eraseIdxIfInBounds j).toList = es.toList.eraseIdx j := by
      unfold Array.eraseIdxIfInBounds
      split
      · simp
      · rw [List.eraseIdx_of_length_le (by simpa using Nat.le_of_not_lt (by assumption))]
    rw [e, map_eraseIdx, hes, map_eraseIdx]
  · exact ⟨rfl, rfl, rfl, by simp, fun i hi hn => (heap_set hb).2 i (by simpa using hn)⟩

theorem run_len_map (ht : P.underlying T = some (.map K E)) (ty : TypeId) {w : World} {b : Nat} {l : List (Int × Value)} (h : MapB w b l) :
    (Builtin.len_ #[T] ty #[.map (some b)]).run P w = .ok (.int .i64 l.length) w := by
  have hh := h
  obtain ⟨es, c, hb, hes, hst⟩ := h
  have hsz := hh.length es c hb hes
  have h1 := Go.MapKept.run_getObj_map (P := P) hb
  simp [Builtin.len_, run_underlying ht, h1, Result.andThen, hsz, goInt]

/-! ### At the operations of a walk -/
variable {ops : Array Oper} {rest : List Oper} {o : Oper} {a : Act} {Q : Exit → Act → World → Prop} {w : World}

theorem wpList_look (hg : o.guard = none) (m x : Operand) (hop : o.op = Op.lookup T m x true) (ht : P.underlying T = some (.map K E)) (hk : P.underlying K = some (.int .i64)) (z : Value) (hz : (zeroValue E).run P w = .ok z w)
    (b : Nat) (l : List (Int × Value)) (k : Int) (hm : a.eval m = .map (some b)) (hx : a.eval x = .int .i64 k) (h : MapB w b l)
    (hK : wpList P ops Q rest (a.put o.dst (.tuple #[((atKey k l 0).map (·.2)).getD z, .bool (atKey k l 0).isSome])) w) : wpList P ops Q (o :: rest) a w := by
  refine wpList_plain hg fun K' hK' => ?_
  have hrun := run_lookup_int ht hk h z hz k true
  unfold Oper.wp
  simp [execOp, hop, hm, hx, hrun, Result.andThen]
  exact hK' _ _ hK

theorem wpList_upd (hg : o.guard = none) (m x v : Operand) (hop : o.op = Op.mapUpdate T m x v) (ht : P.underlying T = some (.map K E)) (hk : P.underlying K = some (.int .i64))
    (b : Nat) (l : List (Int × Value)) (k : Int) (u : Value) (hm : a.eval m = .map (some b)) (hx : a.eval x = .int .i64 k) (hv : a.eval v = u) (h : MapB w b l) (hno : ∀ p ∈ l, p.1 ≠ k)
    (hK : ∀ w', MapB w' b (l ++ [(k, u)]) → Ext [b] w w' → w'.heap.size = w.heap.size → wpList P ops Q rest (a.put o.dst undef) w') : wpList P ops Q (o :: rest) a w := by
  refine wpList_plain hg fun K' hK' => ?_
  obtain ⟨w', hrun, h1, h2, h3⟩ := run_update_new ht hk h k u hno
  unfold Oper.wp
  simp [execOp, hop, hm, hx, hv, hrun, Result.andThen]
  exact hK' _ _ (hK w' h1 h2 h3)

theorem step_upd {K0 : Act → World → Prop} {E0 : Prop} (hg : o.guard = none) (m x v : Operand) (hop : o.op = Op.mapUpdate T m x v) (ht : P.underlying T = some (.map K E)) (hk : P.underlying K = some (.int .i64))
    (b : Nat) (l : List (Int × Value)) (k : Int) (u : Value) (hm : a.eval m = .map (some b)) (hx : a.eval x = .int .i64 k) (hv : a.eval v = u) (h : MapB w b l) (hno : ∀ p ∈ l, p.1 ≠ k)
    (hK : ∀ w', MapB w' b (l ++ [(k, u)]) → Ext [b] w w' → w'.heap.size = w.heap.size → K0 (a.put o.dst undef) w') :
    if Region.wanted o (yielded ops a.tmps) = true then Oper.wp P o a w K0 Q else E0 := by
  rw [if_pos (by simp [Region.wanted, hg])]
  obtain ⟨w', hrun, h1, h2, h3⟩ := run_update_new ht hk h k u hno
  unfold Oper.wp
  simp [execOp, hop, hm, hx, hv, hrun, Result.andThen]
  exact hK w' h1 h2 h3

theorem wpList_del (hg : o.guard = none) (m x : Operand) (hop : o.op = .call { callee := .builtin .delete, args := #[m, x], argTypes := #[T, K] }) (ht : P.underlying T = some (.map K E)) (hk : P.underlying K = some (.int .i64))
    (b : Nat) (l : List (Int × Value)) (k : Int) (j : Nat) (u : Value) (hm : a.eval m = .map (some b)) (hx : a.eval x = .int .i64 k) (h : MapB w b l) (ha : atKey k l 0 = some (j, u))
    (hK : ∀ w', MapB w' b (l.eraseIdx j) → Ext [b] w w' → w'.heap.size = w.heap.size → wpList P ops Q rest (a.put o.dst (.tuple #[])) w') : wpList P ops Q (o :: rest) a w := by
  refine wpList_plain hg fun K' hK' => ?_
  obtain ⟨w', hrun, h1, h2, h3⟩ := run_delete_int ht hk o.type h k ha
  unfold Oper.wp execOp
  simp only [hop, resolve, invoke, builtin, Sem.run_bind, Sem.run_pure, Result.andThen_ok, List.map_toArray, List.map_cons, List.map_nil, hm, hx, hrun]
  exact hK' _ _ (hK w' h1 h2 h3)

theorem wpList_lenm (hg : o.guard = none) (m : Operand) (hop : o.op = .call { callee := .builtin .len, args := #[m], argTypes := #[T] }) (ht : P.underlying T = some (.map K E))
    (b : Nat) (l : List (Int × Value)) (hm : a.eval m = .map (some b)) (h : MapB w b l)
    (hK : wpList P ops Q rest (a.put o.dst (.int .i64 l.length)) w) : wpList P ops Q (o :: rest) a w := by
  refine wpList_plain hg fun K' hK' => ?_
  have hrun := run_len_map ht o.type h
  unfold Oper.wp execOp
  simp only [hop, resolve, invoke, builtin, Sem.run_bind, Sem.run_pure, Result.andThen_ok, List.map_toArray, List.map_cons, List.map_nil, hm, hrun]
  exact hK' _ _ hK
end

end Go.Proofs.YtbjkfgfiifnjoaaDoor
