/- Package insn: an operation's parts, plainly. -/
import Derived.Test.YtbjkfgfiifnjoaaDoorRow
import Derived.Test.YtbjkfgfiifnjoaaDoorRows
namespace Go.Proofs.YtbjkfgfiifnjoaaDoor
open Go.RowKit
set_option maxRecDepth 100000

/-- An operation's parts. -/
structure Prt where
  kind : Nat
  op : Nat
  size : Nat
  long : Bool
  reg : Bool
  deriving DecidableEq

def Prt.cells (p : Prt) : List Value := [.int .i64 (p.kind : Int), .int .i64 (p.op : Int), .int .i64 (p.size : Int), .bool p.long, .bool p.reg]
def noPrt : Prt := ⟨0, 0, 0, false, false⟩

def sizeN (k : Nat) : Nat := if k = 0 then 4 else if k = 1 then 2 else if k = 2 then 1 else 8
def aluN (n : Nat) : Prt := if 12 < n / 16 ∨ n / 16 = 8 ∧ n / 8 % 2 = 1 then noPrt else ⟨1, n / 16, 0, decide (n % 8 = 7), decide (n / 8 % 2 = 1)⟩
def jumpN (n : Nat) : Prt :=
  if n % 8 = 5 ∧ n / 8 % 2 = 0 ∧ (n / 16 = 0 ∨ n / 16 = 8 ∨ n / 16 = 9) then ⟨if n / 16 = 0 then 3 else n / 16 - 4, 0, 0, false, false⟩
  else if n / 16 = 0 ∨ n / 16 = 8 ∨ n / 16 = 9 ∨ 13 < n / 16 then noPrt
  else ⟨2, n / 16, 0, decide (n % 8 = 5), decide (n / 8 % 2 = 1)⟩
def memN (n : Nat) : Prt :=
  if n / 32 = 3 then ⟨if n % 8 = 1 then 6 else 7, 0, sizeN (n / 8 % 4), false, decide (n % 8 = 3)⟩
  else if n / 32 = 6 ∧ n % 8 = 3 ∧ 4 ≤ sizeN (n / 8 % 4) then ⟨8, 0, sizeN (n / 8 % 4), false, true⟩
  else noPrt
/-- The parts of the byte n. -/
def partsN (n : Nat) : Prt :=
  if n % 8 = 4 ∨ n % 8 = 7 then aluN n
  else if n % 8 = 5 ∨ n % 8 = 6 then jumpN n
  else if n % 8 = 0 then (if n = 24 then ⟨9, 0, 8, false, false⟩ else if n = 0 then ⟨10, 0, 0, false, false⟩ else noPrt)
  else memN n

theorem and7 (n : Nat) (hn : n < 256) : bits .and .u8 (n : Int) 7 = ((n % 8 : Nat) : Int) := by
  have h : ∀ n : Fin 256, bits .and .u8 ((n.val : Nat) : Int) 7 = ((n.val % 8 : Nat) : Int) := by decide +kernel
  exact h ⟨n, hn⟩
theorem and8 (n : Nat) (hn : n < 256) : bits .and .u8 (n : Int) 8 = ((8 * (n / 8 % 2) : Nat) : Int) := by
  have h : ∀ n : Fin 256, bits .and .u8 ((n.val : Nat) : Int) 8 = ((8 * (n.val / 8 % 2) : Nat) : Int) := by decide +kernel
  exact h ⟨n, hn⟩
theorem and3 (n : Nat) (hn : n < 32) : bits .and .u8 (n : Int) 3 = ((n % 4 : Nat) : Int) := by
  have h : ∀ n : Fin 32, bits .and .u8 ((n.val : Nat) : Int) 3 = ((n.val % 4 : Nat) : Int) := by decide +kernel
  exact h ⟨n, hn⟩

end Go.Proofs.YtbjkfgfiifnjoaaDoor
