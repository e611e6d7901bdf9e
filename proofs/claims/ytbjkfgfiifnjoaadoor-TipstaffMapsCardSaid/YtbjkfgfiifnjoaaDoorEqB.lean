/- Comparing two arrays of bytes. No program in sight. -/
import Derived.Test.YtbjkfgfiifnjoaaDoorByt
import Derived.ChangeKeysEq
import Derived.Laws.StructEq
namespace Go.Proofs.YtbjkfgfiifnjoaaDoor
open Go.RowKit
set_option maxRecDepth 100000
section
variable {P : Program}

theorem run_part1 {e : TypeId} {d : TypeDesc} (hE : P.underlying e = some d) (hd : (match d with | .struct _ | .array _ _ => true | _ => false) = false) (xs : Array Value) (j : Nat) (v : Value) (hv : xs[j]? = some v) (w : World) :
    (part e xs j).run P w = .ok v w := by
  have hagg : (isAgg e).run P w = .ok false w := by
    unfold isAgg
    rw [Sem.run_bind, run_underlying hE w]
    cases d <;> simp_all
  simp [part, Sem.run_bind, hagg, hv, Result.andThen]

theorem run_eqItems_bytes (d : Nat) {e : TypeId} (he : P.underlying e = some (.int .u8)) (a b : List UInt8) (w : World) :
    ∀ (is : List Nat), (∀ j ∈ is, j < a.length ∧ j < b.length) → (Op.eqItems (d + 1) e 1 (bytesV a).toArray (bytesV b).toArray is).run P w = .ok (is.all fun j => a.getD j 0 == b.getD j 0) w
  | [], _ => by simp [Op.eqItems]
  | j :: is, h => by
    obtain ⟨ha, hb⟩ := h j (by simp)
    have pa := run_part1 he rfl (bytesV a).toArray (j * 1) (.int .u8 ((a.getD j 0).toNat : Int)) (by unfold bytesV; simp [List.getD, ha]) w
    have pb := run_part1 he rfl (bytesV b).toArray (j * 1) (.int .u8 ((b.getD j 0).toNat : Int)) (by unfold bytesV; simp [List.getD, hb]) w
    have ih := run_eqItems_bytes d he a b w is (fun k hk => h k (by simp [hk]))
    simp only [Op.eqItems, Sem.run_bind, pa, pb, Result.andThen_ok, run_equalIn_int w d e .u8 .u8 _ _ he]
    by_cases hq : a.getD j 0 = b.getD j 0
    · have hb' : (a.getD j 0 == b.getD j 0) = true := by rw [beq_iff_eq]; exact hq
      rw [List.all_cons, hb', Bool.true_and, ← ih, hq]
      simp
    · have : ((((a.getD j 0).toNat : Nat) : Int) == ((b.getD j 0).toNat : Int)) = false := by
        rw [beq_eq_false_iff_ne]
        intro hh
        exact hq (UInt8.toNat_inj.1 (by exact_mod_cast hh))
      rw [this]
      have hq' : (a.getD j 0 == b.getD j 0) = false := by rw [beq_eq_false_iff_ne]; exact hq
      simp only [List.all_cons, hq', Bool.false_and]
      simp

theorem run_equal_bytes (d : Nat) {t e : TypeId} {n : Nat} (hu : P.underlying t = some (.array n e)) (he : P.underlying e = some (.int .u8)) (hi : (P.info? e).isSome = true) (hc : P.cellsOf e = 1) (a b : List UInt8) (ha : a.length = n) (hb : b.length = n) (w : World) :
    (Op.equalIn (d + 2) t (.agg (bytesV a).toArray) (.agg (bytesV b).toArray)).run P w = .ok (decide (a = b)) w := by
  obtain ⟨i, hi⟩ := Option.isSome_iff_exists.1 hi
  rw [run_equalIn_array w (d + 1) _ _ hu hi, hc, run_eqItems_bytes d he a b w _ (fun j hj => by have := List.mem_range.1 hj; omega)]
  congr 1
  rw [Bool.eq_iff_iff]
  simp only [List.all_eq_true, List.mem_range, beq_iff_eq, decide_eq_true_eq]
  constructor
  · intro h
    apply List.ext_getElem (by omega)
    intro k h1 h2
    have := h k (by omega)
    simpa [List.getD, h1, h2] using this
  · intro h j _
    rw [h]
end
end Go.Proofs.YtbjkfgfiifnjoaaDoor
