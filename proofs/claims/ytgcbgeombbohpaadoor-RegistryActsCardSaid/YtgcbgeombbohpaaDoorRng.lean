/- What a range over a function needs beside its law. No program in sight. -/
import Derived.Maps.AppendAt
import Derived.RangeFuncBox
import Derived.RangeFuncNested
import Derived.OwnWalkIn
import Derived.OrdersIn
import Derived.Test.YtgcbgeombbohpaaDoorRow
namespace Go.Proofs.YtgcbgeombbohpaaDoor
open Go.RowKit
set_option maxRecDepth 100000

theorem ext_of_below {w w' : World} (h : Below w.heap.size w w') : Ext [] w w' := ⟨h.os, h.tape, h.output, h.size, fun k hk _ => h.block k hk⟩
theorem below_of_ext {w w' : World} (h : Ext [] w w') : Below w.heap.size w w' := h.below (Nat.le_refl _) (by simp)

theorem ownsB_ext {w w' : World} {base : Nat} {T : TypeId} {size n : Nat} {v : Value} {xs : List Value} (h : w.ownsRow base T size v n xs) (e : Ext [] w w') : w'.ownsRow base T size v n xs := by
  obtain ⟨h1, h2⟩ := h
  refine ⟨h1, ?_⟩
  rcases h2 with h2 | ⟨g, cap, cur, rfl, h0, hg, hr⟩
  · exact .inl h2
  · exact .inr ⟨g, cap, cur, rfl, h0, (e.block g (Array.getElem?_eq_some_iff.1 hg).1 (by simp)).trans hg, hr⟩
theorem boxed_ext {w w' : World} {b : Nat} {t : TypeId} {v : Value} (h : Boxed w b t v) (e : Ext [] w w') : Boxed w' b t v := (e.block b h.lt (by simp)).trans h
theorem boxed_cells {w w' : World} {b i : Nat} {t : TypeId} {v u : Value} (h : Boxed w b t v) (h' : Boxed w' b t v) (hc : w.cell? ⟨b, i, none⟩ = some u) : w'.cell? ⟨b, i, none⟩ = some u := by
  exact (World.cell?_of_block (w := w) (show w'.heap[b]? = w.heap[b]? from (show w'.heap[b]? = _ from h').trans (show w.heap[b]? = _ from h).symm)).trans hc
theorem keeps_ext {w w' : World} (e : Ext [] w w') : KeepsOthers w w' := ⟨e.size, fun k _ hk _ => (e.block k (Array.getElem?_eq_some_iff.1 hk).1 (by simp)).trans hk⟩
theorem blk_cells {w : World} {b : Nat} {T : TypeId} {cs : List Value} (h : Blk w b T cs) : ∀ j u, cs[j]? = some u → w.cell? ((⟨b, 0, none⟩ : Addr).add j) = some u := by
  intro j u hu
  rw [Addr.add_lit, Nat.zero_add, h.cell]; exact hu
theorem stepIn_app {F : Fence} {n : Nat} {P : Program} (w : World) {ops : Array Oper} {o : Oper} {a : Act} {K : Act → World → Prop} {Q : Exit → Act → World → Prop} {E : Prop}
    (hg : o.guard = none) (s x : Operand) (t : TypeId) (hop : o.op = Op.call { callee := Callee.builtin Builtin.append, args := #[s, x], argTypes := #[t, t] })
    (base : Nat) (e : TypeId) (i : TypeInfo) (z : Value) (size bytes : Nat) (h1 : P.underlying t = some (.slice e)) (h2 : P.info? e = some i) (h3 : i.zero = some z) (h4 : i.size = size) (h5 : i.bytes = bytes) (h6 : z.cells.size = size) (h7 : 0 < size)
    (v : Value) (k : Nat) (xs : List Value) (hs : a.eval s = v) (hown : w.ownsRow base e size v k xs) (ad : Addr) (m c : Nat) (news : List Value) (hx : a.eval x = .slice (some ad) m c) (hn : news.length = m * size)
    (hc : ∀ j u, news[j]? = some u → w.cell? (ad.add j) = some u) (h1c : ∀ u ∈ news, u.oneCell' = true) (b1 : k + m ≤ maxLen) (b2 : (k + m) * bytes ≤ 140737488355328) (b3 : base ≤ w.heap.size)
    (hK : ∀ v' w', w'.ownsRow base e size v' (k + m) (xs ++ news) → w.grownBy w' v.ownBlock → (v' = .slice none 0 0 ↔ v = .slice none 0 0 ∧ m = 0) → K (a.put o.dst v') w') :
    if Region.wanted o (yielded ops a.tmps) = true then Oper.wpIn F n P o a w K Q else E := by
  rw [if_pos (by simp [Region.wanted, hg])]
  obtain ⟨v', w', hrun, r1, r2, r3⟩ := run_append_own (P := P) w base t o.type e i z size bytes h1 h2 h3 h4 h5 h6 h7 v k xs hown ad m c news hn hc h1c b1 b2 b3
  unfold Oper.wpIn
  refine ⟨?_, ?_⟩
  · simp [Oper.about, hop, resolve, Target.leads, Sem.run_pure]
  · rw [Oper.semAt_plain F _ _ (by rw [hop]; intro c hc'; cases hc')]
    simp [execOp, hop, resolve, invoke, builtin, hs, hx, hrun, Result.andThen]
    exact hK v' w' r1 r2 r3
end Go.Proofs.YtgcbgeombbohpaaDoor
