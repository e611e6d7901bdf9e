/- rights.Parse's calls: Split, Contains; its region that draws. -/
import Derived.Laws.ResultCell
import Derived.Shelf.Strings.SplitShaped
import Derived.Test.YtbjkfgfiifnjoaaDoorRow
import Derived.Test.YtbjkfgfiifnjoaaDoorSplitLay
import Derived.Test.YtbjkfgfiifnjoaaDoorParE
namespace Go.Proofs.YtbjkfgfiifnjoaaDoor
open Go.RowKit
set_option maxRecDepth 100000

theorem splitB_small (sep : ByteArray) (m : Nat) : ∀ (k : Nat) (s : ByteArray), s.size ≤ m → ∀ x ∈ Lib.splitB sep 0 k s, x.size ≤ m
  | 0, s, h, x, hx => by rw [Lib.splitB_zero, List.mem_singleton] at hx; exact hx ▸ h
  | k + 1, s, h, x, hx => by
    unfold Lib.splitB at hx
    split at hx
    · rw [List.mem_singleton] at hx; exact hx ▸ h
    · rcases List.mem_cons.1 hx with rfl | hx
      · rw [ByteArray.size_extract]; omega
      · exact splitB_small sep m k _ (by rw [ByteArray.size_extract]; omega) x hx

/-- strings.Split at " ": a fresh row of at least one text, none longer than what came in. -/
def SplitPost (w : World) (e : Ending) (w' : World) : Prop :=
  ∃ ss : List ByteArray, e = .returned (.slice (some ⟨w.heap.size, 0, none⟩) ss.length ss.length) ∧ 1 ≤ ss.length ∧ ss.length ≤ 1048577 ∧ (∀ x ∈ ss, x.size ≤ 1048576) ∧ Blk w' w.heap.size 9 (ss.map Value.string) ∧ Ext [] w w'

theorem split_any (s : ByteArray) (hs : s.size ≤ 1048576) (w : World) (G : ParG w) : Calls Tryd.prog 75 #[.string s, .string ⟨#[32]⟩] w (SplitPost w) := by
  obtain ⟨m, hm⟩ := G.m
  have h1 : 1 ≤ (⟨#[32]⟩ : ByteArray).size := Nat.le_refl _
  refine (Any.strings_Split { Tryd.split with } Tryd.split.i9 s ⟨#[32]⟩ m w (by omega) hm h1).mono ?_
  rintro e w' ⟨rfl, rfl⟩
  have hl := Lib.splitB_all ⟨#[32]⟩ h1 0 _ s rfl
  have hc := Lib.countB_le ⟨#[32]⟩ h1 s.size s (Nat.le_refl _)
  refine ⟨Lib.splitB ⟨#[32]⟩ 0 (Lib.countB s ⟨#[32]⟩) s, ?_, by omega, by omega, splitB_small _ _ _ _ hs, ?_, (Ext.refl _ _).alloc _⟩
  · rw [hl]
  · exact Blk.new w 9 _

/-- A part of a row of texts: slices.Contains tells something, and turns nothing. -/
theorem contains_any (v : Value) (x : ByteArray) (w : World) (h : (∃ a c, v = .slice a 0 c) ∨ ∃ b off c, ∃ zs : List ByteArray, v = .slice (some ⟨b, off, none⟩) zs.length c ∧ zs.length ≤ 1048577 ∧ ∀ j, j < zs.length → w.cell? ⟨b, off + j, none⟩ = some (.string (zs.getD j ByteArray.empty))) :
    Calls Tryd.prog 77 #[v, .string x] w fun e w' => (∃ q : Bool, e = .returned (.bool q)) ∧ w = w' := by
  rcases h with ⟨a, c, rfl⟩ | ⟨b, off, c, zs, rfl, hn, hc⟩
  · exact (Any.slices_Contains_string_empty Tryd.contS a c x w).mono fun e w' ⟨he, hw⟩ => ⟨⟨_, he⟩, hw.symm⟩
  · exact (Any.slices_Contains_string Tryd.contS b off zs.length c zs x w (Nat.le_refl _) (by omega) hc).mono fun e w' ⟨he, hw⟩ => ⟨⟨_, he⟩, hw.symm⟩

/-- words[4:]. -/
theorem rest_run (b n c : Nat) (hn : 4 ≤ n) (hc : n ≤ c) (w : World) (ss : List ByteArray) (hl : ss.length = n) (hm : n ≤ 1048577) (hB : Blk w b 9 (ss.map Value.string)) :
    ∃ v, (∀ w', (Instr.sliceAt 76 (.slice (some ⟨b, 0, none⟩) n c) (some (.int .i64 4)) none none).run Tryd.prog w' = .ok v w') ∧
      ∀ w', Ext [] w w' → ((∃ a c, v = .slice a 0 c) ∨ ∃ b off c, ∃ zs : List ByteArray, v = .slice (some ⟨b, off, none⟩) zs.length c ∧ zs.length ≤ 1048577 ∧ ∀ j, j < zs.length → w'.cell? ⟨b, off + j, none⟩ = some (.string (zs.getD j ByteArray.empty))) := by
  obtain ⟨i0, hi, hz0, hz1, hz2⟩ := info_parts info_str
  have ht := Tryd.underlying76
  have hel : Tryd.prog.elem 76 = 9 := by simp [Program.elem, ht]
  have ht' : Tryd.prog.underlying 76 = some (.slice (Tryd.prog.elem 76)) := by rw [hel]; exact ht
  refine ⟨sliced (some ⟨b, 0, none⟩) 4 n c 1, fun w' => ?_, fun w' x => ?_⟩
  · have h4 : (4 : Int).toNat = 4 := rfl
    rw [run_sliceAt_slice (P := Tryd.prog) w' _ _ _ none none ht', run_slice_l (P := Tryd.prog) w' _ _ n c ht' .i64 4 (by omega) (by omega)]
    simp [sizeOf, typeInfo, hel, hi, hz1, Result.andThen, h4]
  · unfold sliced
    by_cases h5 : n = 4
    · left
      subst h5
      exact ⟨_, _, rfl⟩
    · right
      have hcn : ¬ c = 4 := by omega
      have hzl : (ss.drop 4).length = n - 4 := by rw [List.length_drop, hl]
      refine ⟨b, 4, c - 4, ss.drop 4, ?_, by omega, fun j hj => ?_⟩
      · rw [if_neg hcn, hzl]
        simp [Addr.add_lit]
      · rw [(hB.ext x (by simp)).cell, List.getElem?_map]
        have hj2 : 4 + j < ss.length := by omega
        simp [List.getD, hj2]
end Go.Proofs.YtbjkfgfiifnjoaaDoor
