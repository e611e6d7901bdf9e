/- The reference of instructions: Same. -/
import Derived.Test.YtbjkfgfiifnjoaaDoorIns
import Derived.Test.YtbjkfgfiifnjoaaDoorRows
import Derived.Laws.StructEq
import Derived.ChangeKeysEq
namespace Go.Proofs.YtbjkfgfiifnjoaaDoor
open Go.RowKit
set_option maxRecDepth 100000

theorem eq_insn_raw (d : Nat) (a b c o i a' b' c' o' i' : Int) (w : World) :
    (Op.equalIn (d + 2) 25 (.agg #[.int .u8 a, .int .u8 b, .int .u8 c, .int .i16 o, .int .i32 i]) (.agg #[.int .u8 a', .int .u8 b', .int .u8 c', .int .i16 o', .int .i32 i'])).run Tryd.prog w
      = .ok (a == a' && (b == b' && (c == c' && (o == o' && i == i')))) w := by
  have p8 : ∀ (xs : Array Value) off v, xs[off]? = some v → (part 5 xs off).run Tryd.prog w = .ok v w := fun xs off v hx => run_part_plain w (by kernel_rfl) hx
  have p16 : ∀ (xs : Array Value) off v, xs[off]? = some v → (part 23 xs off).run Tryd.prog w = .ok v w := fun xs off v hx => run_part_plain w (by kernel_rfl) hx
  have p32 : ∀ (xs : Array Value) off v, xs[off]? = some v → (part 21 xs off).run Tryd.prog w = .ok v w := fun xs off v hx => run_part_plain w (by kernel_rfl) hx
  have e8 : ∀ a b : Int, (Op.equalIn (d + 1) 5 (.int .u8 a) (.int .u8 b)).run Tryd.prog w = .ok (a == b) w := fun a b => run_equalIn_int w d _ .u8 .u8 a b Tryd.underlying5
  have e16 : ∀ a b : Int, (Op.equalIn (d + 1) 23 (.int .i16 a) (.int .i16 b)).run Tryd.prog w = .ok (a == b) w := fun a b => run_equalIn_int w d _ .i16 .i16 a b Tryd.underlying23
  have e32 : ∀ a b : Int, (Op.equalIn (d + 1) 21 (.int .i32 a) (.int .i32 b)).run Tryd.prog w = .ok (a == b) w := fun a b => run_equalIn_int w d _ .i32 .i32 a b Tryd.underlying21
  rw [run_equalIn_struct w (d + 1) _ _ _ (by simp [Program.fieldsOf, Tryd.underlying25]) (by kernel_rfl)]
  simp [Program.fieldsOf, Tryd.underlying25, Op.eqFields, Sem.run_bind, p8, p16, p32, e8, e16, e32]
  by_cases h1 : a = a' <;> by_cases h2 : b = b' <;> by_cases h3 : c = c' <;> by_cases h4 : o = o' <;> by_cases h5 : i = i' <;> simp [h1, h2, h3, h4, h5]

theorem ins_beq (x y : Ins) : (((x.op.toNat : Int) == (y.op.toNat : Int)) && (((x.dst.toNat : Int) == (y.dst.toNat : Int)) && (((x.src.toNat : Int) == (y.src.toNat : Int)) && ((x.off.toInt == y.off.toInt) && (x.imm.toInt == y.imm.toInt))))) = decide (x = y) := by
  rw [Bool.eq_iff_iff]
  obtain ⟨a, b, c, d, e⟩ := x
  obtain ⟨a', b', c', d', e'⟩ := y
  simp only [Bool.and_eq_true, beq_iff_eq, decide_eq_true_eq, Ins.mk.injEq, Int.ofNat_inj, UInt8.toNat_inj, BitVec.toInt_inj]

theorem neq_insn (x y : Ins) (w : World) : (binOp .neq 25 (.agg x.cells.toArray) (.agg y.cells.toArray)).run Tryd.prog w = .ok (.bool (!decide (x = y))) w := by
  rw [run_neq_struct, show (10000 : Nat) = 9998 + 2 from rfl]
  unfold Ins.cells
  rw [eq_insn_raw, ins_beq]
  rfl

theorem eql_insn (x y : Ins) (w : World) : (binOp .eql 25 (.agg x.cells.toArray) (.agg y.cells.toArray)).run Tryd.prog w = .ok (.bool (decide (x = y))) w := by
  rw [run_eql_struct, show (10000 : Nat) = 9998 + 2 from rfl]
  unfold Ins.cells
  rw [eq_insn_raw, ins_beq]
  rfl
end Go.Proofs.YtbjkfgfiifnjoaaDoor
