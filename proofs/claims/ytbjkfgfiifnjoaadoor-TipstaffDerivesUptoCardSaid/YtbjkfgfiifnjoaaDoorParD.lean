/- strconv.FormatUint, base 16; rights.numbers; the texts of a row, joined. -/
import Derived.Laws.Strings2
import Derived.Test.YtbjkfgfiifnjoaaDoorParC
import Derived.Test.YtbjkfgfiifnjoaaDoorTkA
namespace Go.Proofs.YtbjkfgfiifnjoaaDoor
open Go.RowKit
set_option maxRecDepth 100000

set_option maxHeartbeats 4000000 in
theorem ifu_any (n : Nat) (hn : n ≤ 65535) (w : World) (G : ParG w) : Calls Tryd.prog 139 #[.int .u64 (n : Int), .int .i64 16] w fun e w' => (∃ st : ByteArray, e = .returned (.string st) ∧ st.size ≤ 65) ∧ Ext [] w w' := by
  have HF := Lib.hid (fbits_any n hn w G)
  clear G
  go_enter Tryd.func139, Tryd.ntmps139
  go_wp2_with fail
  refine HF.out.mono ?_
  rintro e w1 ⟨⟨st, rfl, hs⟩, x⟩
  go_wp2_with fail
  go_ret
  exact ⟨⟨st, rfl, hs⟩, x⟩

set_option maxHeartbeats 4000000 in
theorem fu_any (n : Nat) (hn : n ≤ 65535) (w : World) (G : ParG w) : Calls Tryd.prog 114 #[.int .u64 (n : Int), .int .i64 16] w fun e w' => (∃ st : ByteArray, e = .returned (.string st) ∧ st.size ≤ 65) ∧ Ext [] w w' := by
  have HF := Lib.hid (ifu_any n hn w G)
  clear G
  go_enter Tryd.func114, Tryd.ntmps114
  go_wp2_with fail
  refine HF.out.mono ?_
  rintro e w1 ⟨⟨st, rfl, hs⟩, x⟩
  go_wp2_with fail
  go_ret
  exact ⟨⟨st, rfl, hs⟩, x⟩

theorem Tryd.joinX : Builder.Extra Tryd.prog Tryd.joinL_ren := {
  sizeBuilder := by kernel_rfl
  liesBuilder := by kernel_rfl
  t5 := Tryd.underlying5
  a5 := Tryd.isAgg5
  z5 := Tryd.sizeOf5
  v5 := Tryd.zeroValue5
  infoByte := by kernel_rfl
  cellsByte := by kernel_rfl
  sizeByte := by kernel_rfl
  neB5 := by decide }

theorem lens_small : ∀ (ss : List ByteArray) (m : Nat), (∀ s ∈ ss, s.size ≤ m) → Lib.lens (ss.map (·.data.toList)) ≤ ss.length * m
  | [], m, _ => by simp [Lib.lens]
  | s :: r, m, h => by
    have h1 := h s List.mem_cons_self
    have h2 := lens_small r m (fun x hx => h x (List.mem_cons_of_mem _ hx))
    have h4 : Lib.lens ((s :: r).map (·.data.toList)) = s.data.toList.length + Lib.lens (r.map (·.data.toList)) := by simp [Lib.lens]
    have h5 : (s :: r).length * m = r.length * m + m := by rw [List.length_cons, Nat.succ_mul]
    have h3 : s.data.toList.length = s.size := by rw [Array.length_toList]; rfl
    omega

/-- A row of few short texts is joined to some text. -/
theorem join_any (v : Value) (ss : List ByteArray) (w : World) (h : w.ownsRow 0 9 1 v ss.length (ss.map Value.string)) (h0 : 0 < ss.length) (hn : ss.length ≤ 6) (hs : ∀ s ∈ ss, s.size ≤ 66) :
    Calls Tryd.prog 115 #[v, .string ⟨#[32]⟩] w fun e w' => (∃ st : ByteArray, e = .returned (.string st)) ∧ Ext [] w w' := by
  obtain ⟨g, c, cur, rfl, hB, hnc, -, hcl, hcur⟩ := owns_some h h0
  have hcells : ∀ (j : Nat) x, ss[j]? = some x → w.cell? ⟨g, 0 + j, none⟩ = some (.string x) := by
    intro j x hx
    have hj := (List.getElem?_eq_some_iff.1 hx).1
    rw [Nat.zero_add, hB.cell]
    have h1 : (cur.take (ss.length * 1))[j]? = some (.string x) := by rw [hcur, List.getElem?_map, hx]; rfl
    rw [List.getElem?_take] at h1
    rwa [if_pos (by omega)] at h1
  have hlen : (Lib.join (ss.map (·.data.toList)) [32]).length ≤ 1000 := by
    cases ss with
    | nil => simp at h0
    | cons s r =>
      rw [List.map_cons, Lib.join_length, List.length_map]
      have h2 := lens_small (s :: r) 66 hs
      rw [List.map_cons] at h2
      simp only [List.length_cons, List.length_nil] at hn h2 ⊢
      omega
  have hj := Any.strings_Join Tryd.joinL Tryd.joinX g 0 c ss ⟨#[32]⟩ w hcells hB.lt (by omega) hnc (Nat.le_trans hlen (by omega))
  exact hj.mono fun e w' ⟨he, x⟩ => ⟨⟨_, he⟩, ext_of_below x⟩
end Go.Proofs.YtbjkfgfiifnjoaaDoor
