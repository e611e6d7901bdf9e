/- Instructions: rows of five cells each; their bytes. No program in sight. -/
import Derived.Test.YtbjkfgfiifnjoaaDoorFlat
import Derived.Test.YtbjkfgfiifnjoaaDoorRow
namespace Go.Proofs.YtbjkfgfiifnjoaaDoor
open Go.RowKit
set_option maxRecDepth 100000

/-- An instruction. -/
structure Ins where
  op : UInt8
  dst : UInt8
  src : UInt8
  off : BitVec 16
  imm : BitVec 32
  deriving DecidableEq

def Ins.cells (x : Ins) : List Value := [.int .u8 (x.op.toNat : Int), .int .u8 (x.dst.toNat : Int), .int .u8 (x.src.toNat : Int), .int .i16 x.off.toInt, .int .i32 x.imm.toInt]
def insV (l : List Ins) : List Value := (l.map Ins.cells).flatten

theorem insV_nil : insV [] = [] := rfl
theorem insV_cons (x : Ins) (l : List Ins) : insV (x :: l) = x.cells ++ insV l := by simp [insV]
theorem insV_append (a b : List Ins) : insV (a ++ b) = insV a ++ insV b := by simp [insV]
theorem insV_one (x : Ins) : insV [x] = x.cells := by simp [insV]
theorem cells_length (x : Ins) : x.cells.length = 5 := rfl
theorem insV_length : ∀ (l : List Ins), (insV l).length = l.length * 5
  | [] => rfl
  | x :: l => by rw [insV_cons, List.length_append, insV_length l, cells_length, List.length_cons]; omega
theorem insV_at : ∀ (l : List Ins) (i j : Nat) (hi : i < l.length), j < 5 → (insV l)[i * 5 + j]? = (l[i]).cells[j]?
  | [], i, _, hi, _ => by simp at hi
  | x :: l, 0, j, _, hj => by
    rw [insV_cons, List.getElem?_append_left (by rw [cells_length]; omega)]; simp
  | x :: l, i + 1, j, hi, hj => by
    rw [insV_cons, List.getElem?_append_right (by rw [cells_length]; omega), cells_length, show (i + 1) * 5 + j - 5 = i * 5 + j by omega, insV_at l i j (by simpa using hi) hj]; simp
theorem insV_oneCell (l : List Ins) : ∀ u ∈ insV l, u.oneCell' = true := by
  intro u hu
  unfold insV at hu
  obtain ⟨c, hc, hu⟩ := List.mem_flatten.1 hu
  obtain ⟨x, _, rfl⟩ := List.mem_map.1 hc
  simp [Ins.cells] at hu
  rcases hu with rfl | rfl | rfl | rfl | rfl <;> rfl
theorem insV_take (l : List Ins) (n : Nat) : insV (l.take n) = (insV l).take (n * 5) := by
  induction l generalizing n with
  | nil => simp [insV]
  | cons x l ih =>
    cases n with
    | zero => simp [insV]
    | succ n =>
      rw [List.take_succ_cons, insV_cons, insV_cons, ih, List.take_append, cells_length, show (n + 1) * 5 - 5 = n * 5 by omega, List.take_of_length_le (l := x.cells) (by rw [cells_length]; omega)]

def insLeaves : List Leaf := [.int .u8, .int .u8, .int .u8, .int .i16, .int .i32]

theorem ins_of_flat {cs : List Value} (h : Flat insLeaves cs) : ∃ x : Ins, cs = x.cells := by
  obtain ⟨v1, r1, rfl, ⟨z1, rfl, h1⟩, v2, r2, rfl, ⟨z2, rfl, h2⟩, v3, r3, rfl, ⟨z3, rfl, h3⟩, v4, r4, rfl, ⟨z4, rfl, h4⟩, v5, r5, rfl, ⟨z5, rfl, h5⟩, rfl⟩ := h
  have b1 : 0 ≤ z1 ∧ z1 ≤ 255 := by simp [Lit.wf] at h1; first | exact h1 | (simp [IntKind.min, IntKind.max] at h1; omega)
  have b2 : 0 ≤ z2 ∧ z2 ≤ 255 := by simp [Lit.wf] at h2; first | exact h2 | (simp [IntKind.min, IntKind.max] at h2; omega)
  have b3 : 0 ≤ z3 ∧ z3 ≤ 255 := by simp [Lit.wf] at h3; first | exact h3 | (simp [IntKind.min, IntKind.max] at h3; omega)
  have b4 : -32768 ≤ z4 ∧ z4 ≤ 32767 := by simp [Lit.wf] at h4; first | exact h4 | (simp [IntKind.min, IntKind.max] at h4; omega)
  have b5 : -2147483648 ≤ z5 ∧ z5 ≤ 2147483647 := by simp [Lit.wf] at h5; first | exact h5 | (simp [IntKind.min, IntKind.max] at h5; omega)
  refine ⟨⟨UInt8.ofNat z1.toNat, UInt8.ofNat z2.toNat, UInt8.ofNat z3.toNat, BitVec.ofInt 16 z4, BitVec.ofInt 32 z5⟩, ?_⟩
  have e : ∀ z : Int, 0 ≤ z ∧ z ≤ 255 → ((UInt8.ofNat z.toNat).toNat : Int) = z := by
    intro z hz
    rw [UInt8.toNat_ofNat']; omega
  have e4 : (BitVec.ofInt 16 z4).toInt = z4 := by rw [BitVec.toInt_ofInt]; simp [Int.bmod]; omega
  have e5 : (BitVec.ofInt 32 z5).toInt = z5 := by rw [BitVec.toInt_ofInt]; simp [Int.bmod]; omega
  simp only [Ins.cells, e z1 b1, e z2 b2, e z3 b3, e4, e5]

/-- A slice of instructions that came in. -/
def InsArg (w : World) (v : Value) (l : List Ins) : Prop :=
  ∃ ao c, v = .slice ao l.length c ∧ l.length ≤ c ∧ c ≤ maxLen ∧ Reads w v 5 l.length (insV l)

theorem ins_of_row {w : World} {a : Option Addr} {len cap : Nat} (h : RowOf (Flat insLeaves) 5 w a len cap) : ∃ l : List Ins, InsArg w (.slice a len cap) l := by
  rcases h with ⟨rfl, rfl, rfl⟩ | ⟨x, rfl, hl, hm, hc⟩
  · exact ⟨[], none, 0, rfl, Nat.le_refl _, by unfold maxLen; omega, none, 0, rfl, rfl, fun _ => ⟨rfl, rfl⟩, fun ad e => by cases e⟩
  · have hi : ∀ i, i < len → ∃ y : Ins, ∀ j, j < 5 → w.cell? ((x.add (i * 5)).add j) = y.cells[j]? := by
      intro i hi
      obtain ⟨cs, -, hf, hcs⟩ := hc i (by omega)
      obtain ⟨y, rfl⟩ := ins_of_flat hf
      exact ⟨y, hcs⟩
    let f : Nat → Ins := fun i => if h : i < len then Classical.choose (hi i h) else ⟨0, 0, 0, 0, 0⟩
    have hll : ((List.range len).map f).length = len := by simp
    refine ⟨(List.range len).map f, some x, cap, by rw [hll], by rw [hll]; exact hl, hm, some x, cap, by rw [hll], insV_length _, (fun e => by cases e), fun ad e j u hu => ?_⟩
    obtain rfl := Option.some.inj e
    have hj : j < len * 5 := by have := (List.getElem?_eq_some_iff.1 hu).1; rw [insV_length, hll] at this; exact this
    have hd : j = j / 5 * 5 + j % 5 := by omega
    have hq : j / 5 < len := by omega
    rw [hd] at hu ⊢
    rw [insV_at _ _ _ (by rw [hll]; exact hq) (by omega)] at hu
    have hf : ((List.range len).map f)[j / 5]'(by rw [hll]; exact hq) = Classical.choose (hi (j / 5) hq) := by simp [f, hq]
    rw [hf] at hu
    rw [← Addr.add_add, Classical.choose_spec (hi (j / 5) hq) (j % 5) (by omega)]
    exact hu

theorem InsArg.ext {w w' : World} {v : Value} {l : List Ins} (h : InsArg w v l) (x : Ext [] w w') : InsArg w' v l := by
  obtain ⟨ao, c, h1, h2, h3, ao', c', he, hvl, hnone, hcells⟩ := h
  subst h1
  cases he
  refine ⟨ao, c, rfl, h2, h3, ao, c, rfl, hvl, hnone, fun ad had j u hu => ?_⟩
  have h := hcells ad had j u hu
  rw [x.cell (World.block_lt_of_cell? w _ h) (by simp)]; exact h

/-- A slice of instructions that can be read, at least one: where each cell lies. -/
theorem ins_lit {w : World} {ao : Option Addr} {c : Nat} {l : List Ins} (h : Reads w (.slice ao l.length c) 5 l.length (insV l)) (h0 : 0 < l.length) :
    ∃ b o, ao = some ⟨b, o, none⟩ ∧ b < w.heap.size ∧ ∀ k (hk : k < l.length) j, j < 5 → w.cell? ⟨b, o + k * 5 + j, none⟩ = (l[k]).cells[j]? := by
  obtain ⟨ao', c', he, -, hn, hc⟩ := h
  cases he
  cases ao with
  | none => have := (hn rfl).1; omega
  | some ad =>
    obtain ⟨b, o, spot⟩ := ad
    have hall : ∀ k (hk : k < l.length) j, j < 5 → w.cell? ((⟨b, o, spot⟩ : Addr).add (k * 5 + j)) = (l[k]).cells[j]? := by
      intro k hk j hj
      have h := insV_at l k j hk hj
      rw [← h]
      obtain ⟨u, hu⟩ : ∃ u, (insV l)[k * 5 + j]? = some u := ⟨_, List.getElem?_eq_getElem (by rw [insV_length]; omega)⟩
      rw [hu]; exact hc _ rfl _ u hu
    have h00 := hall 0 h0 0 (by omega)
    have hs : spot = none := by
      have := World.cell?_spot (h00.trans (List.getElem?_eq_getElem (by rw [cells_length]; omega)))
      simpa [Addr.add] using this
    subst hs
    refine ⟨b, o, rfl, ?_, fun k hk j hj => ?_⟩
    · have := World.block_lt_of_cell? w _ (h00.trans (List.getElem?_eq_getElem (by rw [cells_length]; omega)))
      simpa [Addr.add] using this
    · have := hall k hk j hj
      rw [Addr.add_lit] at this
      rw [Nat.add_assoc]; exact this

/-- An instruction's eight bytes. -/
def encI (x : Ins) : List UInt8 := [x.op, UInt8.ofNat (x.dst.toNat % 16 + 16 * (x.src.toNat % 16)), UInt8.ofNat x.off.toNat, UInt8.ofNat (x.off.toNat / 256),
  UInt8.ofNat x.imm.toNat, UInt8.ofNat (x.imm.toNat / 256), UInt8.ofNat (x.imm.toNat / 65536), UInt8.ofNat (x.imm.toNat / 16777216)]
def encL (l : List Ins) : List UInt8 := (l.map encI).flatten

theorem encL_append (a b : List Ins) : encL (a ++ b) = encL a ++ encL b := by simp [encL]
theorem encI_length (x : Ins) : (encI x).length = 8 := rfl
theorem encL_length : ∀ (l : List Ins), (encL l).length = 8 * l.length
  | [] => rfl
  | x :: l => by
    have e : encL (x :: l) = encI x ++ encL l := by simp [encL]
    rw [e, List.length_append, encL_length l, encI_length, List.length_cons]; omega
theorem encL_take (l : List Ins) (k : Nat) (hk : k < l.length) : encL (l.take (k + 1)) = encL (l.take k) ++ encI l[k] := by
  rw [List.take_succ_eq_append_getElem hk, encL_append]; simp [encL]

def m16 (x : Ins) : Ins := { x with dst := UInt8.ofNat (x.dst.toNat % 16), src := UInt8.ofNat (x.src.toNat % 16) }
theorem m16_cells (y : Ins) : (m16 y).cells = [.int .u8 (y.op.toNat : Int), .int .u8 ((y.dst.toNat : Int) % 16), .int .u8 ((y.src.toNat : Int) % 16), .int .i16 y.off.toInt, .int .i32 y.imm.toInt] := by
  unfold m16 Ins.cells
  simp only [UInt8.toNat_ofNat']
  rw [show ((y.dst.toNat % 16 % 2 ^ 8 : Nat) : Int) = (y.dst.toNat : Int) % 16 by omega, show ((y.src.toNat % 16 % 2 ^ 8 : Nat) : Int) = (y.src.toNat : Int) % 16 by omega]

def cutI (m : Nat) : Value → Value
  | .slice a n c => .slice a (min n m) c
  | v => v

theorem InsArg.cut {w : World} {v : Value} {b : List Ins} (h : InsArg w v b) (m : Nat) : Reads w (cutI m v) 5 (b.take m).length (insV (b.take m)) := by
  obtain ⟨ao, c, rfl, hc, hm, ao', c', he, hl, hn, hr⟩ := h
  cases he
  refine ⟨ao, c, by simp [cutI, Nat.min_comm], by rw [insV_length], fun e => ?_, fun ad e j u hu => hr ad e j u ?_⟩
  · have := hn e
    simp only [List.length_take]
    exact ⟨by omega, this.2⟩
  · rw [insV_take, List.getElem?_take] at hu
    split at hu
    · exact hu
    · cases hu

/-- The row behind k rounds. -/
def midM (f : Ins → Ins) (l : List Ins) (k : Nat) : List Ins := (l.take k).map f ++ l.drop k
theorem midM_length (f : Ins → Ins) (l : List Ins) (k : Nat) (hk : k ≤ l.length) : (midM f l k).length = l.length := by
  unfold midM; rw [List.length_append, List.length_map, List.length_take, List.length_drop]; omega
theorem midM_at (f : Ins → Ins) (l : List Ins) (k : Nat) (hk : k < l.length) : (midM f l k)[k]'(by rw [midM_length f l k (by omega)]; exact hk) = l[k] := by
  unfold midM
  rw [List.getElem_append_right (by rw [List.length_map, List.length_take]; omega)]
  simp [Nat.min_eq_left (Nat.le_of_lt hk)]
theorem midM_succ (f : Ins → Ins) (l : List Ins) (k : Nat) (hk : k < l.length) : midM f l (k + 1) = (midM f l k).set k (f l[k]) := by
  unfold midM
  rw [List.take_succ_eq_append_getElem hk, List.map_append, List.append_assoc, List.set_append_right _ _ (by rw [List.length_map, List.length_take]; omega)]
  congr 1
  rw [List.length_map, List.length_take, Nat.min_eq_left (Nat.le_of_lt hk), Nat.sub_self, List.drop_eq_getElem_cons hk]
  rfl

theorem insV_set12 : ∀ (l : List Ins) (k : Nat) (hk : k < l.length), ((insV l).set (k * 5 + 1) (.int .u8 ((l[k].dst.toNat : Int) % 16))).set (k * 5 + 2) (.int .u8 ((l[k].src.toNat : Int) % 16)) = insV (l.set k (m16 l[k]))
  | [], _, hk => by simp at hk
  | x :: l, 0, _ => by
    rw [List.set_cons_zero, insV_cons, insV_cons]
    simp only [List.getElem_cons_zero]
    rw [m16_cells]
    simp [Ins.cells]
  | x :: l, k + 1, hk => by
    have h := insV_set12 l k (by simpa using hk)
    rw [List.set_cons_succ, insV_cons, insV_cons, List.set_append_right _ _ (by rw [cells_length]; omega), List.set_append_right _ _ (by rw [cells_length]; omega), cells_length, show (k + 1) * 5 + 1 - 5 = k * 5 + 1 by omega, show (k + 1) * 5 + 2 - 5 = k * 5 + 2 by omega]
    simp only [List.getElem_cons_succ]
    rw [h]

end Go.Proofs.YtbjkfgfiifnjoaaDoor
