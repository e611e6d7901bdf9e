/- Whole rows: an array or a struct loaded, stored, handed back as one value. No program in sight. -/
import Derived.Test.YtbjkfgfiifnjoaaDoorBase
import Derived.Laws.CopyOwn
namespace Go.Proofs.YtbjkfgfiifnjoaaDoor
open Go.RowKit
set_option maxRecDepth 100000

section
variable {P : Program}

/-- Part of a block, from place off on: cells vs. -/
def PartAt (w : World) (b off : Nat) (vs : List Value) : Prop := ∀ j, j < vs.length → w.cell? ⟨b, off + j, none⟩ = vs[j]?

theorem Blk.part {w : World} {b : Nat} {T : TypeId} {cs : List Value} (h : Blk w b T cs) : PartAt w b 0 cs := fun j _ => by rw [Nat.zero_add, h.cell]

theorem run_loadVar_part (w : World) (b off : Nat) (ty : TypeId) (vs : List Value) (d : TypeDesc) (hg : PartAt w b off vs)
    (hu : P.underlying ty = some d) (hd : (match d with | .struct _ | .array _ _ => true | _ => false) = true) (hi : (P.info? ty).map (·.size) = some vs.length) :
    (loadVar ty ⟨b, off, none⟩).run P w = .ok (.agg vs.toArray) w := by
  have hl : (loadCells ⟨b, off, none⟩ vs.length).run P w = .ok vs.toArray w :=
    run_loadCells_list (P := P) w ⟨b, off, none⟩ vs (fun j v hv => by
      have hlt : j < vs.length := (List.getElem?_eq_some_iff.1 hv).1
      rw [Addr.add_lit, hg j hlt]; exact hv)
  cases hq : P.info? ty with
  | none => simp [hq] at hi
  | some i =>
    have hs : i.size = vs.length := by simpa [hq] using hi
    have hagg : (isAgg ty).run P w = .ok true w := by
      unfold isAgg
      rw [Sem.run_bind, run_underlying hu w]
      cases d <;> simp_all
    simp [loadVar, Sem.run_bind, hagg, sizeOf, typeInfo, hq, hs, hl]

theorem wp_ldpart {o : Oper} {a : Act} {w : World} {K : Act → World → Prop} {Q : Exit → Act → World → Prop} (ty : TypeId) (x : Operand) (ho : o.op = .load ty x)
    (b off : Nat) (hx : a.eval x = .pointer (some ⟨b, off, none⟩)) (vs : List Value) (d : TypeDesc) (hg : PartAt w b off vs)
    (hu : P.underlying ty = some d) (hd : (match d with | .struct _ | .array _ _ => true | _ => false) = true) (hi : (P.info? ty).map (·.size) = some vs.length)
    (h : K (a.put o.dst (.agg vs.toArray)) w) : o.wp P a w K Q := by
  unfold Oper.wp execOp
  simp only [ho, hx, Instr.loadAt, Instr.sureAddr, Sem.run_bind, Sem.run_pure, Result.andThen_ok, run_loadVar_part w b off ty vs d hg hu hd hi]
  exact h

theorem wpList_ldpart {ops : Array Oper} {rest : List Oper} {o : Oper} {a : Act} {w : World} {Q : Exit → Act → World → Prop} (hgd : o.guard = none) (ty : TypeId) (x : Operand) (ho : o.op = .load ty x)
    (b off : Nat) (hx : a.eval x = .pointer (some ⟨b, off, none⟩)) (vs : List Value) (d : TypeDesc) (hg : PartAt w b off vs)
    (hu : P.underlying ty = some d) (hd : (match d with | .struct _ | .array _ _ => true | _ => false) = true) (hi : (P.info? ty).map (·.size) = some vs.length)
    (h : wpList P ops Q rest (a.put o.dst (.agg vs.toArray)) w) : wpList P ops Q (o :: rest) a w :=
  wpList_plain hgd fun _ hK => wp_ldpart ty x ho b off hx vs d hg hu hd hi (hK _ _ h)

/-- One value of several cells, stored into a part of a block. -/
theorem run_storeVar_blk (w : World) (b off : Nat) (T ty : TypeId) (cs vs : List Value) (hg : Blk w b T cs) (hfit : off + vs.length ≤ cs.length) (h1 : ∀ u ∈ vs, u.oneCell' = true) (hi : (P.info? ty).map (·.size) = some vs.length) :
    ∃ w', (storeVar ty ⟨b, off, none⟩ (.agg vs.toArray)).run P w = .ok () w' ∧ Blk w' b T (cs.take off ++ vs ++ cs.drop (off + vs.length)) ∧ Ext [b] w w' ∧ w'.heap.size = w.heap.size := by
  cases hq : P.info? ty with
  | none => simp [hq] at hi
  | some i =>
    have hs : i.size = vs.length := by simpa [hq] using hi
    have hst := run_storeCells_at P b off T vs 0 cs.toArray w hg (by simpa using hfit) h1
    refine ⟨w.setRow b (cs.take off ++ vs ++ cs.drop (off + vs.length)).toArray, ?_, ?_, ?_, ?_⟩
    · simp only [Nat.add_zero] at hst
      simp [storeVar, Sem.run_bind, sizeOf, typeInfo, hq, hs, Value.cells, hst]
    · have := setRow_heap w b cs.toArray (cs.take off ++ vs ++ cs.drop (off + vs.length)).toArray T (0, 0) hg
      exact this
    · exact ⟨rfl, rfl, rfl, by simp [World.setRow], fun k hk hn => setRow_other w b k _ (fun e => hn (by simp [e]))⟩
    · simp [World.setRow]

theorem wp_strow {o : Oper} {a : Act} {w : World} {K : Act → World → Prop} {Q : Exit → Act → World → Prop} (ty : TypeId) (x y : Operand) (ho : o.op = .store ty x y)
    (b off : Nat) (hx : a.eval x = .pointer (some ⟨b, off, none⟩)) (T : TypeId) (cs vs : List Value) (hy : a.eval y = .agg vs.toArray) (hg : Blk w b T cs) (hfit : off + vs.length ≤ cs.length) (h1 : ∀ u ∈ vs, u.oneCell' = true)
    (hi : (P.info? ty).map (·.size) = some vs.length)
    (h : ∀ w', Blk w' b T (cs.take off ++ vs ++ cs.drop (off + vs.length)) → Ext [b] w w' → w'.heap.size = w.heap.size → K (a.put o.dst undef) w') : o.wp P a w K Q := by
  obtain ⟨w', hr, h2, h3, h4⟩ := run_storeVar_blk (P := P) w b off T ty cs vs hg hfit h1 hi
  unfold Oper.wp execOp
  simp only [ho, hx, hy, Instr.storeAt, Instr.sureAddr, Sem.run_bind, Sem.run_pure, Result.andThen_ok, hr]
  exact h w' h2 h3 h4

theorem wpList_strow {ops : Array Oper} {rest : List Oper} {o : Oper} {a : Act} {w : World} {Q : Exit → Act → World → Prop} (hgd : o.guard = none) (ty : TypeId) (x y : Operand) (ho : o.op = .store ty x y)
    (b off : Nat) (hx : a.eval x = .pointer (some ⟨b, off, none⟩)) (T : TypeId) (cs vs : List Value) (hy : a.eval y = .agg vs.toArray) (hg : Blk w b T cs) (hfit : off + vs.length ≤ cs.length) (h1 : ∀ u ∈ vs, u.oneCell' = true)
    (hi : (P.info? ty).map (·.size) = some vs.length)
    (h : ∀ w', Blk w' b T (cs.take off ++ vs ++ cs.drop (off + vs.length)) → Ext [b] w w' → w'.heap.size = w.heap.size → wpList P ops Q rest (a.put o.dst undef) w') : wpList P ops Q (o :: rest) a w :=
  wpList_plain hgd fun _ hK => wp_strow ty x y ho b off hx T cs vs hy hg hfit h1 hi fun w' h2 h3 h4 => hK _ _ (h w' h2 h3 h4)

theorem step_strow {ops : Array Oper} {o : Oper} {a : Act} {w : World} {K : Act → World → Prop} {Q : Exit → Act → World → Prop} {E : Prop} (hgd : o.guard = none) (ty : TypeId) (x y : Operand) (ho : o.op = .store ty x y)
    (b off : Nat) (hx : a.eval x = .pointer (some ⟨b, off, none⟩)) (T : TypeId) (cs vs : List Value) (hy : a.eval y = .agg vs.toArray) (hg : Blk w b T cs) (hfit : off + vs.length ≤ cs.length) (h1 : ∀ u ∈ vs, u.oneCell' = true)
    (hi : (P.info? ty).map (·.size) = some vs.length)
    (h : ∀ w', Blk w' b T (cs.take off ++ vs ++ cs.drop (off + vs.length)) → Ext [b] w w' → w'.heap.size = w.heap.size → K (a.put o.dst undef) w') :
    if Region.wanted o (yielded ops a.tmps) = true then Oper.wp P o a w K Q else E := by
  rw [if_pos (by simp [Region.wanted, hgd])]
  exact wp_strow ty x y ho b off hx T cs vs hy hg hfit h1 hi h

/-- What the walker leaves of a store of several cells. -/
theorem upon_strow {o : Oper} {a : Act} {w : World} {K : Act → World → Prop} {Q : Exit → Act → World → Prop}
    (b off : Nat) (T : TypeId) (cs vs : List Value) (hg : Blk w b T cs) (hfit : off + vs.length ≤ cs.length) (h1 : ∀ u ∈ vs, u.oneCell' = true)
    (h : ∀ w', Blk w' b T (cs.take off ++ vs ++ cs.drop (off + vs.length)) → Ext [b] w w' → w'.heap.size = w.heap.size → K (a.put o.dst undef) w') :
    Oper.upon P o a K Q ((Sem.run P (storeCells ⟨b, off, none⟩ vs) w).andThen fun _ w' => Result.ok Next.skip w') := by
  have hst := run_storeCells_at P b off T vs 0 cs.toArray w hg (by simpa using hfit) h1
  simp only [Nat.add_zero] at hst
  rw [hst]
  refine h _ ?_ ?_ ?_
  · have := setRow_heap w b cs.toArray (cs.take off ++ vs ++ cs.drop (off + vs.length)).toArray T (0, 0) hg
    exact this
  · exact ⟨rfl, rfl, rfl, by simp [World.setRow], fun k hk hn => setRow_other w b k _ (fun e => hn (by simp [e]))⟩
  · simp [World.setRow]

theorem results_blk {fn : Func} {p : Tmp} {ty : TypeId} (h : fn.results = #[.cell p ty]) (tmps : Array Value) (w : World) (b : Nat) (T : TypeId) (cs : List Value) (d : TypeDesc)
    (hp : tmps.getD p undef = .pointer (some ⟨b, 0, none⟩)) (hg : Blk w b T cs)
    (hu : P.underlying ty = some d) (hd : (match d with | .struct _ | .array _ _ => true | _ => false) = true) (hi : (P.info? ty).map (·.size) = some cs.length) :
    (results fn tmps).run P w = .ok (.agg cs.toArray) w :=
  results_cell_row h tmps w b T cs.toArray (0, 0) d hp hg hu hd (by simpa using hi)

/-- An array by value, one element of one cell. -/
theorem run_index_arr {T E : TypeId} {n : Nat} {d : TypeDesc} (hd : (match d with | .struct _ | .array _ _ => true | _ => false) = false) (hT : P.underlying T = some (.array n E)) (hE : P.underlying E = some d)
    (hi : (P.info? E).map (·.size) = some 1) (cs : List Value) (t : Nat) (v : Value) (ht : t < n) (hv : cs[t]? = some v) (w : World) :
    (Instr.index T (.agg cs.toArray) (.int .i64 (t : Int))).run P w = .ok v w := by
  cases hq : P.info? E with
  | none => simp [hq] at hi
  | some i =>
    have hs : i.size = 1 := by simpa [hq] using hi
    have hagg : (isAgg E).run P w = .ok false w := by
      unfold isAgg
      rw [Sem.run_bind, run_underlying hE w]
      cases d <;> simp_all
    have hlt : 0 ≤ (t : Int) ∧ (t : Int) < (n : Int) := ⟨by omega, by omega⟩
    simp [Instr.index, asIntOf, Sem.run_bind, run_underlying hT, Result.andThen, hlt, sizeOf, typeInfo, hq, hs, part, hagg, hv]
    intro h; omega

theorem Blk.src {w : World} {b off : Nat} {T : TypeId} {cs : List Value} (h : Blk w b T cs) (m : Nat) : ∀ j v, ((cs.drop off).take m)[j]? = some v → w.cell? ((⟨b, off, none⟩ : Addr).add j) = some v := by
  intro j v hj
  rw [Addr.add_lit, h.cell]
  rw [List.getElem?_take] at hj
  split at hj
  · rw [List.getElem?_drop] at hj; exact hj
  · cases hj

/-- copy into a block of the call's own, from whatever cells (read first, then stored). -/
theorem wp_cp {o : Oper} {a : Act} {w : World} {K : Act → World → Prop} {Q : Exit → Act → World → Prop} (d s : Operand) (dT sT : TypeId)
    (ho : o.op = .call { callee := .builtin .copy, args := #[d, s], argTypes := #[dT, sT] }) (elem : TypeId) (hu : P.underlying dT = some (.slice elem)) (hsz : (P.info? elem).map (·.size) = some 1)
    (g off dLen dCap : Nat) (ad : Addr) (sLen sCap : Nat) (hd : a.eval d = .slice (some ⟨g, off, none⟩) dLen dCap) (hs : a.eval s = .slice (some ad) sLen sCap)
    (T : TypeId) (cur : List Value) (hg : Blk w g T cur) (cs : List Value) (hn : cs.length = Nat.min sLen dLen)
    (hsrc : ∀ j v, cs[j]? = some v → w.cell? (ad.add j) = some v) (hfit : off + cs.length ≤ cur.length) (h1 : ∀ v ∈ cs, v.oneCell' = true)
    (h : ∀ w', Blk w' g T (cur.take off ++ (cs ++ cur.drop (off + cs.length))) → Ext [g] w w' → w'.heap.size = w.heap.size → K (a.put o.dst (goInt cs.length)) w') : o.wp P a w K Q := by
  have hrun := run_copy_row (P := P) w dT sT o.type elem g off dLen dCap ad sLen sCap cur.toArray T cs hu hsz hg hn hsrc (by simpa using hfit) h1
  unfold Oper.wp
  simp [execOp, ho, resolve, invoke, builtin, hd, hs, hrun, Result.andThen]
  refine h _ ?_ ⟨rfl, rfl, rfl, by simp [World.setRow], fun k hk hn => setRow_other w g k _ (fun e => hn (by simp [e]))⟩ (by simp [World.setRow])
  exact setRow_heap w g cur.toArray (cur.take off ++ (cs ++ cur.drop (off + cs.length))).toArray T (0, 0) hg

theorem wpList_cp {ops : Array Oper} {rest : List Oper} {o : Oper} {a : Act} {w : World} {Q : Exit → Act → World → Prop} (hgd : o.guard = none) (d s : Operand) (dT sT : TypeId)
    (ho : o.op = .call { callee := .builtin .copy, args := #[d, s], argTypes := #[dT, sT] }) (elem : TypeId) (hu : P.underlying dT = some (.slice elem)) (hsz : (P.info? elem).map (·.size) = some 1)
    (g off dLen dCap : Nat) (ad : Addr) (sLen sCap : Nat) (hd : a.eval d = .slice (some ⟨g, off, none⟩) dLen dCap) (hs : a.eval s = .slice (some ad) sLen sCap)
    (T : TypeId) (cur : List Value) (hg : Blk w g T cur) (cs : List Value) (hn : cs.length = Nat.min sLen dLen)
    (hsrc : ∀ j v, cs[j]? = some v → w.cell? (ad.add j) = some v) (hfit : off + cs.length ≤ cur.length) (h1 : ∀ v ∈ cs, v.oneCell' = true)
    (h : ∀ w', Blk w' g T (cur.take off ++ (cs ++ cur.drop (off + cs.length))) → Ext [g] w w' → w'.heap.size = w.heap.size → wpList P ops Q rest (a.put o.dst (goInt cs.length)) w') : wpList P ops Q (o :: rest) a w :=
  wpList_plain hgd fun _ hK => wp_cp d s dT sT ho elem hu hsz g off dLen dCap ad sLen sCap hd hs T cur hg cs hn hsrc hfit h1 fun w' h2 h3 h4 => hK _ _ (h w' h2 h3 h4)

theorem step_cp {ops : Array Oper} {o : Oper} {a : Act} {w : World} {K : Act → World → Prop} {Q : Exit → Act → World → Prop} {E : Prop} (hgd : o.guard = none) (d s : Operand) (dT sT : TypeId)
    (ho : o.op = .call { callee := .builtin .copy, args := #[d, s], argTypes := #[dT, sT] }) (elem : TypeId) (hu : P.underlying dT = some (.slice elem)) (hsz : (P.info? elem).map (·.size) = some 1)
    (g off dLen dCap : Nat) (ad : Addr) (sLen sCap : Nat) (hd : a.eval d = .slice (some ⟨g, off, none⟩) dLen dCap) (hs : a.eval s = .slice (some ad) sLen sCap)
    (T : TypeId) (cur : List Value) (hg : Blk w g T cur) (cs : List Value) (hn : cs.length = Nat.min sLen dLen)
    (hsrc : ∀ j v, cs[j]? = some v → w.cell? (ad.add j) = some v) (hfit : off + cs.length ≤ cur.length) (h1 : ∀ v ∈ cs, v.oneCell' = true)
    (h : ∀ w', Blk w' g T (cur.take off ++ (cs ++ cur.drop (off + cs.length))) → Ext [g] w w' → w'.heap.size = w.heap.size → K (a.put o.dst (goInt cs.length)) w') :
    if Region.wanted o (yielded ops a.tmps) = true then Oper.wp P o a w K Q else E := by
  rw [if_pos (by simp [Region.wanted, hgd])]
  exact wp_cp d s dT sT ho elem hu hsz g off dLen dCap ad sLen sCap hd hs T cur hg cs hn hsrc hfit h1 h

theorem oneCell_map {α : Type} (f : α → Value) (hf : ∀ x, (f x).oneCell' = true) (l : List α) : ∀ u ∈ l.map f, u.oneCell' = true := by
  intro u hu
  obtain ⟨y, _, rfl⟩ := List.mem_map.1 hu
  exact hf y
end

end Go.Proofs.YtbjkfgfiifnjoaaDoor
