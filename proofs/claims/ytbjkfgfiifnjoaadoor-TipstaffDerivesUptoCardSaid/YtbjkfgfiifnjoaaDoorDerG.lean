/- What the row's list gives: the tables and the errors that the walk reads; a world that holds them. The texts that came in are no longer than the bound. -/
import Derived.Deep.DeepLaidRun
import Derived.Stop.LaidErr
import Derived.Test.YtbjkfgfiifnjoaaDoorDLaid
import Derived.Test.YtbjkfgfiifnjoaaDoorStrs
import Derived.Test.YtbjkfgfiifnjoaaDoorSplitLay
import Derived.Test.YtbjkfgfiifnjoaaDoorParB
namespace Go.Proofs.YtbjkfgfiifnjoaaDoor
open Go.RowKit
set_option maxRecDepth 100000

theorem digG_of_tabs {W : World} (tk : Lib.TabIs Tryd.prog W "tipstaff/digest.k" .u32 ksI) (tb : Lib.TabIs Tryd.prog W "tipstaff/digest.begin" .u32 b0I) : DigG W := by
  refine ⟨fun t ht => ?_, fun j hj => ?_⟩
  · rw [tk.cell gK t (by show t < Ks.length; exact ht)]
    have : ∀ t : Fin 64, ksI.getD t.val 0 = ((Ks.getD t.val 0#32).toNat : Int) := by decide +kernel
    rw [this ⟨t, ht⟩]
  · have hj' : j < 8 := hj
    rw [Nat.zero_add, tb.cell gB j hj']
    have : ∀ t : Fin 8, some (Value.int .u32 (b0I.getD t.val 0)) = (V32 begin0.list)[t.val]? := by
      intro t
      match t with
      | ⟨0, _⟩ => rfl
      | ⟨1, _⟩ => rfl
      | ⟨2, _⟩ => rfl
      | ⟨3, _⟩ => rfl
      | ⟨4, _⟩ => rfl
      | ⟨5, _⟩ => rfl
      | ⟨6, _⟩ => rfl
      | ⟨7, _⟩ => rfl
    exact this ⟨j, hj'⟩

def intsD : DataW Unit → List Int
  | .agg l => l.flatMap fun | .lit (.int _ z) => [z] | _ => []
  | _ => []
def d64I : List Int := intsD Rows.laid_math_bits_deBruijn64tab
theorem g64 : Tryd.prog.globalNamed "math/bits.deBruijn64tab" = some 9 := by kernel_rfl
theorem g64T : (Tryd.prog.globals[9]?).map (·.type) = some 277 := by kernel_rfl
theorem gSyn : Tryd.prog.globalNamed "strconv.ErrSyntax" = some 2 := by kernel_rfl
theorem gSynT : (Tryd.prog.globals[2]?).map (·.type) = some 161 := by kernel_rfl
theorem gRan : Tryd.prog.globalNamed "strconv.ErrRange" = some 3 := by kernel_rfl
theorem gRanT : (Tryd.prog.globals[3]?).map (·.type) = some 161 := by kernel_rfl
theorem rowErr (u : TypeId) (h : Tryd.prog.typeName? 3 u = some "*errors.errorString") : u = 259 :=
  typeName_ptr_named (nm := "errors.errorString") (by rw [show "*" ++ "errors.errorString" = "*errors.errorString" by decide]; kernel_rfl) (by kernel_rfl) (by decide) u (by rw [show "*" ++ "errors.errorString" = "*errors.errorString" by decide]; exact h)

theorem laid9 {W : World} (h : laidMetH Tryd.prog Rows.tipstaffDerivesUptoRow.laid W) : laidMet Tryd.prog Rows.tipstaffDerivesUptoRow.laid W := by
  unfold laidMetH at h
  rw [show (Rows.tipstaffDerivesUptoRow.laid.filter fun x => x.2.handleName?.isSome) = [] by kernel_rfl] at h
  exact h

theorem of_laid9 {W : World} (h : laidMetH Tryd.prog Rows.tipstaffDerivesUptoRow.laid W) (hsh : W.ShapedOpen Tryd.prog) : DigG W ∧ ParG W := by
  have h0 := laid9 h
  have t1 : Lib.TabIs Tryd.prog W "math/bits.deBruijn64tab" .u8 d64I := Lib.tabIs_of_head g64 g64T Tryd.underlying277 Tryd.underlying5 (by kernel_rfl) (by kernel_rfl) h0.tail
  have h3 := h0.tail.tail.tail
  have tk : Lib.TabIs Tryd.prog W "tipstaff/digest.k" .u32 ksI := Lib.tabIs_of_head gK gKT Tryd.underlying206 Tryd.underlying171 (by kernel_rfl) (by kernel_rfl) h3
  have tb : Lib.TabIs Tryd.prog W "tipstaff/digest.begin" .u32 b0I := Lib.tabIs_of_head gB gBT Tryd.underlying173 Tryd.underlying171 (by kernel_rfl) (by kernel_rfl) h3.tail
  have h6 := h3.tail.tail.tail
  obtain ⟨a6, s6, hv6, -⟩ := laid_sentinel h6 gRan gRanT Tryd.underlying161 rowErr Tryd.underlying259 Tryd.underlying261 rfl rfl Tryd.underlying9 (by kernel_rfl) (by kernel_rfl)
  obtain ⟨a7, s7, hv7, -⟩ := laid_sentinel h6.tail gSyn gSynT Tryd.underlying161 rowErr Tryd.underlying259 Tryd.underlying261 rfl rfl Tryd.underlying9 (by kernel_rfl) (by kernel_rfl)
  have c6 : W.cell? ⟨3, 0, none⟩ = some (.iface 259 (.pointer (some a6))) := by simpa using World.var?_cell gRan hv6 0
  have c7 : W.cell? ⟨2, 0, none⟩ = some (.iface 259 (.pointer (some a7))) := by simpa using World.var?_cell gSyn hv7 0
  refine ⟨digG_of_tabs tk tb, ⟨Tryd.split.s1_3 W hsh, ⟨_, c7, .inr ⟨_, _, rfl⟩⟩, ⟨_, c6, .inr ⟨_, _, rfl⟩⟩, ?_⟩⟩
  have hc := t1.cell g64 15 (by decide +kernel)
  rw [show d64I.getD 15 0 = 4 by decide +kernel] at hc
  exact hc

/-- The texts that came in: none is longer than what the whole holds. -/
theorem strs_small {w : World} {a : Option Addr} {ss : List ByteArray} {cap : Nat} (h : StrsAt w a ss) (hr : RowOf (fun cs => ∃ s : ByteArray, cs = [.string s] ∧ s.size ≤ 1048576) 1 w a ss.length cap) : ∀ s ∈ ss, s.size ≤ 1048576 := by
  intro s hs
  obtain ⟨k, hk, rfl⟩ := List.mem_iff_getElem.1 hs
  obtain ⟨-, -, b, o, h0, hc⟩ := h
  obtain ⟨rfl, -⟩ := h0 (by omega)
  rcases hr with ⟨he, -, -⟩ | ⟨x, he, hl, -, hx⟩
  · cases he
  · cases he
    obtain ⟨cs, -, ⟨y, rfl, hy⟩, hcs⟩ := hx k (by omega)
    have h1 := hcs 0 (by omega)
    rw [Nat.mul_one, Addr.add_lit, Addr.add_lit, Nat.add_zero, hc k hk] at h1
    simp at h1
    rw [h1]; exact hy
end Go.Proofs.YtbjkfgfiifnjoaaDoor
