/- A world for the witness: the settled one, the tables and the errors as their initialisers lay them. -/
import Derived.Test.YtbjkfgfiifnjoaaDoorDerG
namespace Go.Proofs.YtbjkfgfiifnjoaaDoor
open Go.RowKit
set_option maxRecDepth 100000

def cells1 : DataW Unit → List Value
  | .lit (.int k z) => [.int k z]
  | .agg l => l.flatMap fun | .lit (.int k z) => [.int k z] | _ => []
  | _ => []
def cellsD : DataW Unit → Array Value
  | .agg l => (l.flatMap cells1).toArray
  | _ => #[]
abbrev rangeS : ByteArray := { data := #[118, 97, 108, 117, 101, 32, 111, 117, 116, 32, 111, 102, 32, 114, 97, 110, 103, 101] }
abbrev syntaxS : ByteArray := { data := #[105, 110, 118, 97, 108, 105, 100, 32, 115, 121, 110, 116, 97, 120] }
noncomputable def low9 : Nat := (World.holding Tryd.prog default ⟨#[], #[], []⟩).heap.size
noncomputable def laidWorld9 (os : Os) : World :=
  let w0 := World.holding Tryd.prog os ⟨#[.cells #[.string rangeS] 261, .cells #[.string syntaxS] 261], #[], []⟩
  { w0 with heap := ((((((((w0.heap.modify 8 (putCells (cellsD Rows.laid_math_bits_deBruijn32tab))).modify 9 (putCells (cellsD Rows.laid_math_bits_deBruijn64tab))).modify 5 (putCells (cellsD Rows.laid_internal_strconv_uint64pow10))).modify 1 (putCells (cellsD Rows.laid_tipstaff_digest_k))).modify 0 (putCells (cellsD Rows.laid_tipstaff_digest_begin))).modify 7 (putCells (cellsD Rows.laid_unicode_utf8_acceptRanges))).modify 3 (putCells #[.iface 259 (.pointer (some ⟨low9, 0, none⟩))])).modify 2 (putCells #[.iface 259 (.pointer (some ⟨low9 + 1, 0, none⟩))])).modify 6 (putCells (cellsD Rows.laid_unicode_utf8_first)) }

theorem laid_met9 (os : Os) (args : Array Value) : laidMet Tryd.prog Rows.tipstaffDerivesUptoRow.laid ((laidWorld9 os).forCall (fun _ _ => 0) ⟨#[], args, []⟩).memory :=
  laidMet_of_run3 80 (by kernel_rfl) (by kernel_rfl) (by kernel_rfl)

section
variable {H : Type} {enc : TypeId × Value → H} {P : Program} {w : World} {base : Nat} {held : Bool}
theorem bulk_mem {d : DataW H} : ∀ {l : List (DataW H)}, d ∈ l → Rows.uptoBulk d ≤ Rows.uptoBulkAll l
  | x :: r, h => by
    simp only [Rows.uptoBulkAll]
    rcases List.mem_cons.1 h with rfl | h
    · omega
    · have := bulk_mem h; omega

/-- The texts of a row that came in, each no longer than the whole's bulk. -/
theorem strs_bulk {r : Reach} {b0 : Nat} {t e : TypeId} {v : Value} {d : DataW H} {p : List MemPlace} (ht : P.underlying t = some (.slice e)) (hs : P.underlying e = some .string) (hc : P.cellsOf e = 1)
    (hv : Value.okWide P w r b0 t v) (h : DataW.Trod enc P w base (fun _ => true) held t v d p) (hb : Rows.uptoBulk d ≤ 1048576) :
    ∃ a len cap, v = .slice a len cap ∧ RowOf (fun cs => ∃ s : ByteArray, cs = [.string s] ∧ s.size ≤ 1048576) 1 w a len cap := by
  obtain ⟨a, len, cap, rfl⟩ := Go.WideShapes.okWide_slice ht hv
  refine ⟨a, len, cap, rfl, ?_⟩
  obtain ⟨fuel, hf⟩ := h
  rcases Go.Deep.open_slice ht hf with ⟨hcs, -⟩ | ⟨x, l, c, m, n, D, Pl, hcs, -, hl, hm, hmm, hd, hx⟩
  · simp [Value.cells] at hcs
    exact .inl ⟨hcs.1, hcs.2.1, hcs.2.2⟩
  · simp [Value.cells] at hcs
    obtain ⟨rfl, rfl, rfl⟩ := hcs
    simp at hmm
    subst hmm
    obtain ⟨hd, -⟩ := Prod.mk.inj hd
    subst hd
    refine .inr ⟨x, rfl, hl, hm, fun i hi => ?_⟩
    obtain ⟨cs', h1, h2⟩ := hx i hi
    rw [hc] at h1
    obtain ⟨q1, q2⟩ := cells_some h1
    obtain ⟨s, rfl, hds, -⟩ := DataW.trod_string hs h2
    refine ⟨_, q1, ⟨s, rfl, ?_⟩, q2⟩
    have hle : Rows.uptoBulk (D i) ≤ 1048576 := by
      simp only [Rows.uptoBulk] at hb
      by_cases hil : i < len
      · have := bulk_mem (l := (List.range len).map D) (d := D i) (List.mem_map.2 ⟨i, by simpa using hil, rfl⟩)
        omega
      · have := bulk_mem (l := (List.range (m - len)).map fun j => D (len + j)) (d := D i) (List.mem_map.2 ⟨i - len, by simp; omega, by rw [show len + (i - len) = i by omega]⟩)
        omega
    have h3 := congrArg Prod.fst hds
    dsimp only at h3
    rw [h3] at hle
    simp [Rows.uptoBulk] at hle
    have h4 : s.data.size = s.size := rfl
    omega
end
end Go.Proofs.YtbjkfgfiifnjoaaDoor
