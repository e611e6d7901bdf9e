/- The parameter Case: namespaces' ups and a chain's steps. -/
import Derived.Test.YtnjgehfnafdldaaDoorTokA
import Derived.Test.YtnjgehfnafdldaaDoorTokC
import Derived.Test.YtnjgehfnafdldaaDoorFlat
import Derived.ChangeSame
import Derived.ChangeSlices
namespace Go.Proofs.YtnjgehfnafdldaaDoor
open Go.RowKit Go.ChangeShapes Go.WideShapes Go.ChangeAt
set_option maxRecDepth 100000

def stCells (x : Tk) : List Value := .int .i64 x.1 :: x.2.cells
def stLeaves : List Leaf := [.int .i64, .int .u16, .int .u16, .int .u16, .int .u16, .bool, .bool]

theorem st_of_flat {cs : List Value} (h : Flat stLeaves cs) : ∃ x : Tk, cs = stCells x := by
  obtain ⟨v0, r0, rfl, ⟨z0, rfl, h0⟩, v1, r1, rfl, ⟨z1, rfl, h1⟩, v2, r2, rfl, ⟨z2, rfl, h2⟩, v3, r3, rfl, ⟨z3, rfl, h3⟩, v4, r4, rfl, ⟨z4, rfl, h4⟩, v5, r5, rfl, ⟨b5, rfl⟩, v6, r6, rfl, ⟨b6, rfl⟩, rfl⟩ := h
  have b1 : 0 ≤ z1 ∧ z1 ≤ 65535 := by simp [Lit.wf] at h1; first | exact h1 | (simp [IntKind.min, IntKind.max] at h1; omega)
  have b2 : 0 ≤ z2 ∧ z2 ≤ 65535 := by simp [Lit.wf] at h2; first | exact h2 | (simp [IntKind.min, IntKind.max] at h2; omega)
  have b3 : 0 ≤ z3 ∧ z3 ≤ 65535 := by simp [Lit.wf] at h3; first | exact h3 | (simp [IntKind.min, IntKind.max] at h3; omega)
  have b4 : 0 ≤ z4 ∧ z4 ≤ 65535 := by simp [Lit.wf] at h4; first | exact h4 | (simp [IntKind.min, IntKind.max] at h4; omega)
  have e : ∀ z : Int, 0 ≤ z ∧ z ≤ 65535 → ((BitVec.ofInt 16 z).toNat : Int) = z := by
    intro z hz
    rw [BitVec.toNat_ofInt]
    omega
  refine ⟨(z0, ⟨BitVec.ofInt 16 z1, BitVec.ofInt 16 z2, BitVec.ofInt 16 z3, BitVec.ofInt 16 z4, b5, b6⟩), ?_⟩
  simp only [stCells, Rt.cells, e z1 b1, e z2 b2, e z3 b3, e z4 b4]

/-- A slice of steps that came in. -/
def StepsAt (w : World) (a : Option Addr) (ch : List Tk) : Prop :=
  ch.length ≤ maxLen ∧ ∃ b o, (0 < ch.length → a = some ⟨b, o, none⟩ ∧ b < w.heap.size) ∧ ∀ k (hk : k < ch.length) j, j < 7 → w.cell? ⟨b, o + k * 7 + j, none⟩ = (stCells ch[k])[j]?

theorem steps_of_row {w : World} {a : Option Addr} {len cap : Nat} (h : RowOf (Flat stLeaves) 7 w a len cap) : ∃ ch : List Tk, ch.length = len ∧ len ≤ cap ∧ StepsAt w a ch := by
  rcases h with ⟨rfl, rfl, rfl⟩ | ⟨x, rfl, hl, hm, hc⟩
  · exact ⟨[], rfl, Nat.le_refl _, by simp, 0, 0, by simp, by simp⟩
  · have hi : ∀ i, i < len → ∃ y : Tk, ∀ j, j < 7 → w.cell? ((x.add (i * 7)).add j) = (stCells y)[j]? := by
      intro i hi
      obtain ⟨cs, -, hf, hcs⟩ := hc i (by omega)
      obtain ⟨y, rfl⟩ := st_of_flat hf
      exact ⟨y, hcs⟩
    let f : Nat → Tk := fun i => if h : i < len then Classical.choose (hi i h) else (0, Rt.none)
    have hll : ((List.range len).map f).length = len := by simp
    have hall : ∀ k (hk : k < ((List.range len).map f).length) j, j < 7 → w.cell? ((x.add (k * 7)).add j) = (stCells ((List.range len).map f)[k])[j]? := by
      intro k hk j hj
      have hq : k < len := by rw [hll] at hk; exact hk
      have hf : ((List.range len).map f)[k] = Classical.choose (hi k hq) := by simp [f, hq]
      rw [hf]
      exact Classical.choose_spec (hi k hq) j hj
    refine ⟨(List.range len).map f, hll, hl, by rw [hll]; omega, ?_⟩
    obtain ⟨b, o, spot⟩ := x
    by_cases h0 : 0 < len
    · have h00 := hall 0 (by rw [hll]; exact h0) 0 (by omega)
      have hs : spot = none := by
        have := World.cell?_spot (h00.trans rfl)
        simpa [Addr.add] using this
      subst hs
      refine ⟨b, o, fun _ => ⟨rfl, ?_⟩, fun k hk j hj => ?_⟩
      · have := World.block_lt_of_cell? w _ (h00.trans rfl)
        simpa [Addr.add] using this
      · have := hall k hk j hj
        rw [Addr.add_add, Addr.add_lit] at this
        rw [Nat.add_assoc]; exact this
    · refine ⟨b, o, fun h => ?_, fun k hk => ?_⟩
      · rw [hll] at h; omega
      · rw [hll] at hk; omega

theorem StepsAt.ext {w w' : World} {a : Option Addr} {ch : List Tk} (h : StepsAt w a ch) (x : Ext [] w w') : StepsAt w' a ch := by
  obtain ⟨hm, b, o, h0, hc⟩ := h
  refine ⟨hm, b, o, fun hk => ⟨(h0 hk).1, Nat.lt_of_lt_of_le (h0 hk).2 x.size⟩, fun k hk j hj => ?_⟩
  rw [x.cell (h0 (by omega)).2 (by simp)]
  exact hc k hk j hj

section
variable {H : Type} {enc : TypeId × Value → H} {w : World} {base : Nat} {held : Bool}

/-- The parameter's two cells: the rows that they point to. -/
def CaseArg (w : World) (v : Value) : Prop :=
  ∃ a1 len1 cap1 z1 a2 len2 cap2 ch, v = .agg #[.slice a1 len1 cap1, .slice a2 len2 cap2] ∧ IsRow .i64 w a1 len1 cap1 z1 ∧ ch.length = len2 ∧ len2 ≤ cap2 ∧ StepsAt w a2 ch

theorem case_of {r : Reach} {b0 : Nat} {v : Value} {d : DataW H} {p : List MemPlace} (hv : Value.okWide Tryd.prog w r b0 44 v) (h : DataW.Trod enc Tryd.prog w base (fun _ => true) held 44 v d p) : CaseArg w v := by
  obtain ⟨cs, rfl⟩ : ∃ cs, v = .agg cs := by
    unfold Value.okWide at hv
    rw [Tryd.underlying44] at hv
    obtain ⟨cs, h, -⟩ := hv
    exact ⟨cs, h⟩
  obtain ⟨fuel, hf⟩ := h
  obtain ⟨y0, y1, n, -, hl, h0, h1⟩ := trod_struct2 Tryd.underlying44 hf
  rw [show Tryd.prog.cellsOf 44 = 2 from by kernel_rfl] at hl
  obtain ⟨cs⟩ := cs
  rw [show (Value.agg ⟨cs⟩).cells.toList = cs from rfl] at *
  match cs, hl with
  | [c0, c1], _ =>
    have h0' : DataW.trod enc Tryd.prog w base (fun _ => true) held n 41 [c0] = some y0 := by
      rw [show [c0] = ([c0, c1].drop 0).take (Tryd.prog.cellsOf 41) from by rw [show Tryd.prog.cellsOf 41 = 1 from by kernel_rfl]; rfl]
      exact h0
    have h1' : DataW.trod enc Tryd.prog w base (fun _ => true) held n 42 [c1] = some y1 := by
      rw [show [c1] = ([c0, c1].drop 1).take (Tryd.prog.cellsOf 42) from by rw [show Tryd.prog.cellsOf 42 = 1 from by kernel_rfl]; rfl]
      exact h1
    have hr : ∃ a1 len1 cap1 z1, c0 = .slice a1 len1 cap1 ∧ IsRow .i64 w a1 len1 cap1 z1 := by
      rcases open_ints Tryd.underlying41 Tryd.underlying3 (by kernel_rfl) h0' with ⟨hcs, _⟩ | ⟨x, l, c, zs, hcs, _, hl, hm, hz, _, hcell, hwz⟩
      · simp at hcs
        exact ⟨_, _, _, [], hcs, .inl ⟨rfl, rfl, rfl, rfl⟩⟩
      · simp at hcs
        exact ⟨_, _, _, zs, hcs, .inr ⟨_, rfl, hl, hm, by simpa using hz, hcell, hwz⟩⟩
    have hs : ∃ a2 len2 cap2, c1 = .slice a2 len2 cap2 ∧ RowOf (Flat stLeaves) 7 w a2 len2 cap2 := by
      rcases Go.Deep.open_slice Tryd.underlying42 h1' with ⟨hcs, -⟩ | ⟨x, l, c, m, n, D, Pl, hcs, -, hl, hm, hmm, -, hx⟩
      · simp at hcs
        exact ⟨_, _, _, hcs, .inl ⟨rfl, rfl, rfl⟩⟩
      · simp at hcs
        simp at hmm
        subst hmm
        refine ⟨_, _, _, hcs, .inr ⟨x, rfl, hl, hm, fun i hi => ?_⟩⟩
        obtain ⟨cs', h1, h2⟩ := hx i hi
        rw [show Tryd.prog.cellsOf 52 = 7 from by kernel_rfl] at h1
        obtain ⟨q1, q2⟩ := cells_some h1
        exact ⟨cs', q1, flat_of_trod 9 _ n cs' _ _ h2 (by kernel_rfl), q2⟩
    obtain ⟨a1, len1, cap1, z1, rfl, r1⟩ := hr
    obtain ⟨a2, len2, cap2, rfl, r2⟩ := hs
    obtain ⟨ch, e1, e2, e3⟩ := steps_of_row r2
    exact ⟨a1, len1, cap1, z1, a2, len2, cap2, ch, rfl, r1, e1, e2, e3⟩
end
end Go.Proofs.YtnjgehfnafdldaaDoor
