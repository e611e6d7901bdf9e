/- Package fdtab: what each function does with a table that lies in two blocks. -/
import Derived.Test.YtbjkfgfiifnjoaaDoorIndex
namespace Go.Proofs.YtbjkfgfiifnjoaaDoor
open Go.RowKit
set_option maxRecDepth 100000

theorem info_int : (Tryd.prog.info? 3).map (fun i => (i.zero, i.size, i.bytes)) = some (some (.int .i64 0), 1, 8) := by kernel_rfl

/-- A table of descriptors: the struct's block, the array's block, what stands in it. -/
structure FdAt (w : World) (bt ba : Nat) (zs : List Int) : Prop where
  t : Blk w bt 140 [.slice (some ⟨ba, 0, none⟩) zs.length zs.length]
  a : Blk w ba 3 (zs.map (Value.int .i64))
  ne : bt ≠ ba
  small : zs.length ≤ 16

theorem FdAt.ext {S : List Nat} {w w' : World} {bt ba : Nat} {zs : List Int} (h : FdAt w bt ba zs) (e : Ext S w w') (h1 : bt ∉ S) (h2 : ba ∉ S) : FdAt w' bt ba zs :=
  ⟨h.t.ext e h1, h.a.ext e h2, h.ne, h.small⟩

theorem FdAt.drew {w : World} {bt ba : Nat} {zs : List Int} (h : FdAt w bt ba zs) : FdAt w.drew bt ba zs := ⟨h.t, h.a, h.ne, h.small⟩

theorem fd_new (n : Nat) (w : World) (h1 : 1 ≤ n) (h2 : n ≤ 16) :
    Calls Tryd.prog 22 #[.int .i64 n] w fun e w' => e = .returned (.tuple #[.pointer (some ⟨w.heap.size + 1, 0, none⟩), .int .i64 0]) ∧
      FdAt w' (w.heap.size + 1) w.heap.size (List.replicate n 0) ∧ Ext [] w w' ∧ w'.heap.size = w.heap.size + 2 := by
  obtain ⟨i0, hi, hz0, hz1, hz2⟩ := info_parts info_int
  go_enter Tryd.func22, Tryd.ntmps22
  go_wp2_with (at_make; refine wpList_mk _ rfl _ _ _ rfl 3 i0 (.int .i64 0) Tryd.underlying48 hi hz0 hz1 rfl .i64 .i64 _ _ n rfl rfl rfl rfl (by rw [hz2]; omega) (by unfold maxLen; omega) ?_)
  go_ret2
  refine ⟨rfl, ⟨?_, ?_, by omega, by simpa using h2⟩, ?_, by simp⟩
  · have h := Blk.new' (w.alloc (.cells (List.replicate n (Value.int .i64 0)).toArray 3)) 140 #[.slice (some ⟨w.heap.size, 0, none⟩) n n] (w.heap.size + 1) (by simp)
    simpa using h
  · have h := (Blk.new w 3 (List.replicate n (Value.int .i64 0)).toArray).alloc (.cells #[.slice (some ⟨w.heap.size, 0, none⟩) n n] 140)
    simpa using h
  · exact ((Ext.refl _ _).alloc _).alloc _

/-- Open, where there is a free one: the lowest. -/
theorem fd_open (bt ba k : Nat) (zs : List Int) (id : Int) (w : World) (H : FdAt w bt ba zs) (hid : 1 ≤ id) (hid2 : id ≤ 9223372036854775807) (hk : k < zs.length) (h0 : zs.getD k 1 = 0) (hlow : ∀ i, i < k → zs.getD i 0 ≠ 0) :
    Calls Tryd.prog 25 #[.pointer (some ⟨bt, 0, none⟩), .int .i64 id] w fun e w' => e = .returned (.tuple #[.int .i64 k, .int .i64 0]) ∧
      FdAt w' bt ba (zs.set k id) ∧ Ext [ba] w w' ∧ w'.heap.size = w.heap.size := by
  have hidx : idxFrom 0 zs 0 = (k : Int) := by
    refine idxFrom_first 0 zs k 0 k (by omega) hk (by simpa [hk] using h0) fun i hi _ hik => ?_
    have := hlow i hik
    simpa [hi] using this
  have HI := Lib.hid hidx
  clear hidx h0
  have hs := H.small
  have ht := H.t.cell 0
  simp only [List.getElem?_cons_zero] at ht
  have ha := H.a.cellAt (i := k) (by simpa using hk)
  have hf := H.a.frozen k
  have hc := index_blk ba zs.length zs 0 w (by omega) H.a
  have HC := Lib.hid hc
  clear hc hlow
  go_enter Tryd.func25, Tryd.ntmps25
  go_wp2_with (go_at_call 70; refine HC.out.mono ?_; rintro e w' ⟨rfl, rfl⟩; rw [HI.out])
  go_ret2
  refine ⟨rfl, ⟨?_, ?_, H.ne, by simpa using hs⟩, ?_, by simp⟩
  · have := H.t.setOther (p := ⟨ba, k, none⟩) H.ne (Value.int .i64 id)
    simpa using this
  · have := H.a.set k (Value.int .i64 id)
    simpa [List.map_set] using this
  · exact (Ext.refl _ _).setCell (by simp) _

/-- Open, where there is none. -/
theorem fd_full (bt ba : Nat) (zs : List Int) (id : Int) (w : World) (H : FdAt w bt ba zs) (hid : 1 ≤ id) (hall : ∀ y ∈ zs, y ≠ 0) :
    Calls Tryd.prog 25 #[.pointer (some ⟨bt, 0, none⟩), .int .i64 id] w fun e w' => e = .returned (.tuple #[.int .i64 0, .int .i64 24]) ∧ w = w' := by
  have HI := Lib.hid (idxFrom_none 0 zs 0 hall)
  clear hall
  have hs := H.small
  have ht := H.t.cell 0
  simp only [List.getElem?_cons_zero] at ht
  have HC := Lib.hid (index_blk ba zs.length zs 0 w (by omega) H.a)
  go_enter Tryd.func25, Tryd.ntmps25
  go_wp2_with (go_at_call 70; refine HC.out.mono ?_; rintro e w' ⟨rfl, rfl⟩; rw [HI.out])
  go_ret2
  exact ⟨rfl, rfl⟩

/-- Get, at a descriptor that is open. -/
theorem fd_get (bt ba k : Nat) (zs : List Int) (w : World) (H : FdAt w bt ba zs) (hk : k < zs.length) (h0 : zs.getD k 0 ≠ 0) :
    Calls Tryd.prog 64 #[.pointer (some ⟨bt, 0, none⟩), .int .i64 k] w fun e w' => e = .returned (.tuple #[.int .i64 (zs.getD k 0), .int .i64 0]) ∧ w = w' := by
  have hs := H.small
  have ht := H.t.cell 0
  simp only [List.getElem?_cons_zero] at ht
  have ha : w.cell? ⟨ba, k, none⟩ = some (.int .i64 (zs.getD k 0)) := by rw [H.a.cell]; simp [hk]
  have hb : (zs.getD k 0 == 0) = false := by simpa using h0
  clear h0
  generalize zs.getD k 0 = z at *
  go_enter Tryd.func64, Tryd.ntmps64
  go_wp2
  go_ret2
  exact ⟨rfl, rfl⟩

/-- Get, at one that is free. -/
theorem fd_get_free (bt ba k : Nat) (zs : List Int) (w : World) (H : FdAt w bt ba zs) (hk : k < zs.length) (h0 : zs.getD k 1 = 0) :
    Calls Tryd.prog 64 #[.pointer (some ⟨bt, 0, none⟩), .int .i64 k] w fun e w' => e = .returned (.tuple #[.int .i64 0, .int .i64 9]) ∧ w = w' := by
  have hs := H.small
  have ht := H.t.cell 0
  simp only [List.getElem?_cons_zero] at ht
  have h0' : zs[k] = 0 := by simpa [hk] using h0
  have ha : w.cell? ⟨ba, k, none⟩ = some (.int .i64 0) := by rw [H.a.cell]; simp [hk, h0']
  clear h0 h0'
  go_enter Tryd.func64, Tryd.ntmps64
  go_wp2
  go_ret2
  exact ⟨rfl, rfl⟩

/-- Close, at one that is open. -/
theorem fd_close (bt ba k : Nat) (zs : List Int) (w : World) (H : FdAt w bt ba zs) (hk : k < zs.length) (h0 : zs.getD k 0 ≠ 0) :
    Calls Tryd.prog 28 #[.pointer (some ⟨bt, 0, none⟩), .int .i64 k] w fun e w' => e = .returned (.tuple #[.int .i64 (zs.getD k 0), .int .i64 0]) ∧
      FdAt w' bt ba (zs.set k 0) ∧ Ext [ba] w w' ∧ w'.heap.size = w.heap.size := by
  have HC := Lib.hid (fd_get bt ba k zs w H hk h0)
  have hs := H.small
  have ht := H.t.cell 0
  simp only [List.getElem?_cons_zero] at ht
  have ha : w.cell? ⟨ba, k, none⟩ = some (.int .i64 (zs.getD k 0)) := by rw [H.a.cell]; simp [hk]
  have hf := H.a.frozen k
  clear h0
  generalize zs.getD k 0 = z at *
  go_enter Tryd.func28, Tryd.ntmps28
  go_wp2_with (go_at_call 64; refine HC.out.mono ?_; rintro e w' ⟨rfl, rfl⟩)
  go_ret2
  refine ⟨rfl, ⟨?_, ?_, H.ne, by simpa using hs⟩, ?_, by simp⟩
  · have := H.t.setOther (p := ⟨ba, k, none⟩) H.ne (Value.int .i64 0)
    simpa using this
  · have := H.a.set k (Value.int .i64 0)
    simpa [List.map_set] using this
  · exact (Ext.refl _ _).setCell (by simp) _

/-- Close, at one that is free. -/
theorem fd_close_free (bt ba k : Nat) (zs : List Int) (w : World) (H : FdAt w bt ba zs) (hk : k < zs.length) (h0 : zs.getD k 1 = 0) :
    Calls Tryd.prog 28 #[.pointer (some ⟨bt, 0, none⟩), .int .i64 k] w fun e w' => e = .returned (.tuple #[.int .i64 0, .int .i64 9]) ∧ w = w' := by
  have HC := Lib.hid (fd_get_free bt ba k zs w H hk h0)
  clear h0
  go_enter Tryd.func28, Tryd.ntmps28
  go_wp2_with (go_at_call 64; refine HC.out.mono ?_; rintro e w' ⟨rfl, rfl⟩)
  go_ret2
  exact ⟨rfl, rfl⟩

end Go.Proofs.YtbjkfgfiifnjoaaDoor
