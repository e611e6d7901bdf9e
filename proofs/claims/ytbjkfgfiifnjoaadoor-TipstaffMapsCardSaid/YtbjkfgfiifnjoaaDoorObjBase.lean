/- Package objtab: the objects, their map: plain laws. No program in sight. -/
import Derived.Test.YtbjkfgfiifnjoaaDoorMap
import Derived.Test.YtbjkfgfiifnjoaaDoorRow
namespace Go.Proofs.YtbjkfgfiifnjoaaDoor
open Go.RowKit Go.MapKept
set_option maxRecDepth 100000

/-- An object: its number, its block, what it is, how often it is held. -/
structure Ent where
  id : Nat
  b : Nat
  x : Value
  h : Nat

def Ent.pair (e : Ent) : Int × Value := ((e.id : Int), .pointer (some ⟨e.b, 0, none⟩))

theorem atKey_ent {l : List Ent} (h : l.Pairwise fun a b => a.id < b.id) (j : Nat) (hj : j < l.length) : atKey (l[j].id : Int) (l.map Ent.pair) 0 = some (j, .pointer (some ⟨l[j].b, 0, none⟩)) := by
  have := atKey_some (k := (l[j].id : Int)) (l := l.map Ent.pair) (i := 0) (j := j) (v := .pointer (some ⟨l[j].b, 0, none⟩)) (by simpa using hj) (by simp [Ent.pair]) (by
    intro m hm hlt
    have := List.pairwise_iff_getElem.1 h m j (by simpa using hm) hj hlt
    simp [Ent.pair]; omega)
  simpa using this

section
variable {P : Program} {T K E : TypeId} {ops : Array Oper} {rest : List Oper} {o : Oper} {a : Act} {Q : Exit → Act → World → Prop} {w : World}

theorem wpList_look_some (hg : o.guard = none) (m x : Operand) (hop : o.op = Op.lookup T m x true) (ht : P.underlying T = some (.map K E)) (hk : P.underlying K = some (.int .i64)) (z : Value) (hz : (zeroValue E).run P w = .ok z w)
    (b : Nat) (l : List (Int × Value)) (k : Int) (hm : a.eval m = .map (some b)) (hx : a.eval x = .int .i64 k) (h : MapB w b l) {j : Nat} {v : Value} (hat : atKey k l 0 = some (j, v))
    (hK : wpList P ops Q rest (a.put o.dst (.tuple #[v, .bool true])) w) : wpList P ops Q (o :: rest) a w :=
  wpList_look hg m x hop ht hk z hz b l k hm hx h (by rw [hat]; exact hK)

theorem wpList_look_none (hg : o.guard = none) (m x : Operand) (hop : o.op = Op.lookup T m x true) (ht : P.underlying T = some (.map K E)) (hk : P.underlying K = some (.int .i64)) (z : Value) (hz : (zeroValue E).run P w = .ok z w)
    (b : Nat) (l : List (Int × Value)) (k : Int) (hm : a.eval m = .map (some b)) (hx : a.eval x = .int .i64 k) (h : MapB w b l) (hat : atKey k l 0 = none)
    (hK : wpList P ops Q rest (a.put o.dst (.tuple #[z, .bool false])) w) : wpList P ops Q (o :: rest) a w :=
  wpList_look hg m x hop ht hk z hz b l k hm hx h (by rw [hat]; exact hK)

theorem step_lenm {K0 : Act → World → Prop} {E0 : Prop} (hg : o.guard = none) (m : Operand) (hop : o.op = .call { callee := .builtin .len, args := #[m], argTypes := #[T] }) (ht : P.underlying T = some (.map K E))
    (b : Nat) (l : List (Int × Value)) (hm : a.eval m = .map (some b)) (h : MapB w b l)
    (hK : K0 (a.put o.dst (.int .i64 l.length)) w) : if Region.wanted o (yielded ops a.tmps) = true then Oper.wp P o a w K0 Q else E0 := by
  rw [if_pos (by simp [Region.wanted, hg])]
  have hrun := run_len_map ht o.type h
  unfold Oper.wp execOp
  simp only [hop, resolve, invoke, builtin, Sem.run_bind, Sem.run_pure, Result.andThen_ok, List.map_toArray, List.map_cons, List.map_nil, hm, hrun]
  exact hK
end

end Go.Proofs.YtbjkfgfiifnjoaaDoor
