/- Package objtab at one type of objects: what each function does with a table that lies in memory. -/
import Derived.Test.YtbjkfgfiifnjoaaDoorObjBase
import Derived.Test.YtbjkfgfiifnjoaaDoorRows
namespace Go.Proofs.YtbjkfgfiifnjoaaDoor.S
open Go.RowKit

abbrev TT : TypeId := 138
abbrev TE : TypeId := 143

/-- A table: its struct, its map, its objects' blocks. -/
structure ObjAt (w : World) (bt bm size next : Nat) (l : List Ent) : Prop where
  t : Blk w bt 138 [.int .i64 (size : Int), .int .i64 (next : Int), .map (some bm)]
  m : MapB w bm (l.map Ent.pair)
  e : ∀ x ∈ l, Blk w x.b 143 [x.x, .int .i64 (x.h : Int)]
  ids : l.Pairwise fun a b => a.id < b.id
  top : ∀ x ∈ l, 1 ≤ x.id ∧ x.id ≤ next
  bs : l.Pairwise fun a b => a.b ≠ b.b
  ap : ∀ x ∈ l, x.b ≠ bt ∧ x.b ≠ bm
  ne : bt ≠ bm
  small : size ≤ 64
  nx : next ≤ 1000000
  lsz : l.length ≤ size
  held : ∀ x ∈ l, 1 ≤ x.h ∧ x.h ≤ 1000
  one : ∀ x ∈ l, x.x.oneCell' = true

theorem ObjAt.ext {S : List Nat} {w w' : World} {bt bm size next : Nat} {l : List Ent} (h : ObjAt w bt bm size next l) (x : Ext S w w') (h1 : bt ∉ S) (h2 : bm ∉ S) (h3 : ∀ y ∈ l, y.b ∉ S) : ObjAt w' bt bm size next l :=
  ⟨h.t.ext x h1, h.m.ext x h2, fun y hy => (h.e y hy).ext x (h3 y hy), h.ids, h.top, h.bs, h.ap, h.ne, h.small, h.nx, h.lsz, h.held, h.one⟩
theorem ObjAt.ext0 {w w' : World} {bt bm size next : Nat} {l : List Ent} (h : ObjAt w bt bm size next l) (x : Ext [] w w') : ObjAt w' bt bm size next l :=
  h.ext x (by simp) (by simp) (by simp)

theorem obj_new (n : Nat) (w : World) (h1 : 1 ≤ n) (h2 : n ≤ 64) :
    Calls Tryd.prog 21 #[.int .i64 (n : Int)] w fun e w' => e = .returned (.tuple #[.pointer (some ⟨w.heap.size + 1, 0, none⟩), .int .i64 0]) ∧
      ObjAt w' (w.heap.size + 1) w.heap.size n 0 [] ∧ Ext [] w w' ∧ w'.heap.size = w.heap.size + 2 := by
  have hmm := @run_makeMap Tryd.prog
  go_enter Tryd.func21, Tryd.ntmps21
  go_wp2
  go_ret2
  refine ⟨rfl, ⟨?_, ?_, by simp, by simp, by simp, by simp, by simp, by omega, h2, by omega, by simp, by simp, by simp⟩, ((Ext.refl _ _).alloc _).alloc _, by simp⟩
  · exact Blk.new' _ _ #[.int .i64 (n : Int), .int .i64 0, .map (some w.heap.size)] _ (by simp)
  · exact (MapB.new w).ext ((Ext.refl [] _).alloc _) (by simp)

/-- New, of a size that can't be. -/
theorem obj_new_bad (n : Int) (w : World) (h : n < 1 ∨ 64 < n) :
    Calls Tryd.prog 21 #[.int .i64 n] w fun e w' => e = .returned (.tuple #[.pointer none, .int .i64 22]) ∧ w = w' := by
  by_cases h1 : n < 1
  · go_enter Tryd.func21, Tryd.ntmps21
    go_wp2
    go_ret2
    exact ⟨rfl, rfl⟩
  · have h2 : 64 < n := by omega
    go_enter Tryd.func21, Tryd.ntmps21
    go_wp2
    go_ret2
    exact ⟨rfl, rfl⟩

theorem zero_ptr (w : World) : (zeroValue 141).run Tryd.prog w = .ok (.pointer none) w := by kernel_rfl

theorem obj_find {bt bm size next : Nat} {l : List Ent} {w : World} (H : ObjAt w bt bm size next l) (j : Nat) (hj : j < l.length) :
    Calls Tryd.prog 69 #[.pointer (some ⟨bt, 0, none⟩), .int .i64 (l[j].id : Int)] w fun e w' => e = .returned (.tuple #[.pointer (some ⟨l[j].b, 0, none⟩), .int .i64 0]) ∧ w = w' := by
  have hm := H.m
  have c2 := H.t.cell 2
  have hat := atKey_ent H.ids j hj
  have HAT := Lib.hid hat
  simp only [List.getElem?_cons_succ, List.getElem?_cons_zero] at c2
  have hid := (H.top _ (List.getElem_mem hj))
  have hnx := H.nx
  generalize l[j] = x at *
  clear hat
  go_enter Tryd.func69, Tryd.ntmps69
  go_wp2_with (at_lookup; go_must (refine wpList_look_some rfl _ _ rfl Tryd.underlying136 Tryd.underlying3 (.pointer none) (zero_ptr w) bm (l.map Ent.pair) (x.id : Int) rfl rfl hm HAT.out ?_))
  go_ret2
  exact ⟨rfl, rfl⟩

theorem obj_find_no {bt bm size next : Nat} {l : List Ent} {w : World} (H : ObjAt w bt bm size next l) (id : Int) (hno : ∀ x ∈ l, (x.id : Int) ≠ id) :
    Calls Tryd.prog 69 #[.pointer (some ⟨bt, 0, none⟩), .int .i64 id] w fun e w' => e = .returned (.tuple #[.pointer none, .int .i64 2]) ∧ w = w' := by
  have hm := H.m
  have c2 := H.t.cell 2
  have HAT := Lib.hid (show atKey id (l.map Ent.pair) 0 = none from atKey_none (by intro p hp; obtain ⟨x, hx, rfl⟩ := List.mem_map.1 hp; exact hno x hx))
  simp only [List.getElem?_cons_succ, List.getElem?_cons_zero] at c2
  clear hno
  go_enter Tryd.func69, Tryd.ntmps69
  go_wp2_with (at_lookup; go_must (refine wpList_look_none rfl _ _ rfl Tryd.underlying136 Tryd.underlying3 (.pointer none) (zero_ptr w) bm (l.map Ent.pair) id rfl rfl hm HAT.out ?_))
  go_ret2
  exact ⟨rfl, rfl⟩

theorem obj_find_nil (id : Int) (w : World) :
    Calls Tryd.prog 69 #[.pointer none, .int .i64 id] w fun e w' => e = .returned (.tuple #[.pointer none, .int .i64 22]) ∧ w = w' := by
  go_enter Tryd.func69, Tryd.ntmps69
  go_wp2
  go_ret2
  exact ⟨rfl, rfl⟩

/-- One more: its number, and what the table then holds. -/
def MakePost (bt bm size next : Nat) (l : List Ent) (x : Value) (w : World) (e : Ending) (w' : World) : Prop :=
  ∃ b, e = .returned (.tuple #[.int .i64 ((next : Int) + 1), .int .i64 0]) ∧ w.heap.size ≤ b ∧ ObjAt w' bt bm size (next + 1) (l ++ [⟨next + 1, b, x, 1⟩]) ∧ Ext [bt, bm] w w'

set_option maxHeartbeats 2000000 in
theorem obj_make {bt bm size next : Nat} {l : List Ent} {w : World} (H : ObjAt w bt bm size next l) (z : ByteArray) (hlt : l.length < size) (hnext : next < 1000000) :
    Calls Tryd.prog 23 #[.pointer (some ⟨bt, 0, none⟩), Value.string z] w (MakePost bt bm size next l (Value.string z) w) := by
  have hsm := H.small
  have hm := H.m
  have c0 := H.t.cell 0
  have c1 := H.t.cell 1
  have c2 := H.t.cell 2
  simp only [List.getElem?_cons_succ, List.getElem?_cons_zero] at c0 c1 c2
  have f1 := H.t.frozen 1
  have hne := H.ne
  have hbl := H.t.lt
  have hml := hm.lt
  have hneq : ((l.length : Int) == (size : Int)) = false := by
    rw [beq_eq_false_iff_ne]; omega
  have HH := Lib.hid H
  clear H
  go_enter Tryd.func23, Tryd.ntmps23
  go_upto_region 3 with (fail)
  go_region_law (refine step_lenm rfl _ rfl Tryd.underlying136 bm (l.map Ent.pair) rfl (hm.ext (Ext.refl [] _).drew (by simp)) ?_)
  all_goals
    go_wp2_with fail
    have T1 : Blk ((w.setCell ⟨bt, 1, none⟩ (.int .i64 ((next : Int) + 1))).drew) bt 138 [.int .i64 (size : Int), .int .i64 ((next : Int) + 1), .map (some bm)] := HH.out.t.set 1 (.int .i64 ((next : Int) + 1))
    have x1 : Ext [bt] w ((w.setCell ⟨bt, 1, none⟩ (.int .i64 ((next : Int) + 1))).drew) := ((Ext.refl _ _).setCell (.inl (by simp)) _).drew
    have hs1 : ((w.setCell ⟨bt, 1, none⟩ (.int .i64 ((next : Int) + 1))).drew).heap.size = w.heap.size := by simp
    have hm1 := hm.ext x1 (by simp; omega)
    have hs2 := x1.size
    clear c0 c1 c2 f1 hm hs1
    generalize (w.setCell ⟨bt, 1, none⟩ (.int .i64 ((next : Int) + 1))).drew = w1 at *
    have c1 := T1.cell 1
    have c2 := T1.cell 2
    simp only [List.getElem?_cons_succ, List.getElem?_cons_zero] at c1 c2
    have HNO := Lib.hid (show ∀ p ∈ l.map Ent.pair, p.1 ≠ (next : Int) + 1 from by
      intro p hp; obtain ⟨x, hx, rfl⟩ := List.mem_map.1 hp
      have := (HH.out.top x hx).2
      simp [Ent.pair]; omega)
    obtain ⟨w2, hrun, hm2, x2, hs3⟩ := run_update_new (P := Tryd.prog) Tryd.underlying136 Tryd.underlying3 (hm1.ext (((Ext.refl [] w1).alloc (.cells #[Value.string z, .int .i64 1] 143)).drew) (by simp)) ((next : Int) + 1) (.pointer (some ⟨w1.heap.size, 0, none⟩)) HNO.out
    have B1 : Blk w2 w1.heap.size 143 [Value.string z, .int .i64 1] := ((Blk.new w1 143 #[Value.string z, .int .i64 1]).drew).ext x2 (by simp; omega)
    have T2 : Blk w2 bt 138 [.int .i64 (size : Int), .int .i64 ((next : Int) + 1), .map (some bm)] := (T1.alloc _).drew.ext x2 (by simp; omega)
    have x12 : Ext [bt, bm] w w2 := ((x1.sub (by simp)).alloc (.cells #[Value.string z, .int .i64 1] 143)).drew.trans' x2 (by simp)
    have hsz : w.heap.size ≤ w1.heap.size := x1.size
    have hbl1 := T1.lt
    have c1b := T2.cell 1
    simp only [List.getElem?_cons_succ, List.getElem?_cons_zero] at c1b
    clear hs3 hs2
    go_region
    all_goals
      go_wp2_with fail
      go_ret2
      refine ⟨w1.heap.size, rfl, hsz, ?_, x12⟩
      have h := HH.out
      refine ⟨?_, ?_, ?_, ?_, ?_, ?_, ?_, h.ne, h.small, by omega, by simp; omega, ?_, ?_⟩
      · exact T2
      · rw [List.map_append]; exact hm2
      · intro y hy
        rcases List.mem_append.1 hy with hy | hy
        · exact (h.e y hy).ext x12 (by have := h.ap y hy; simp; omega)
        · simp at hy; subst hy; exact B1
      · exact List.pairwise_append.2 ⟨h.ids, by simp, fun a ha b hb => by simp at hb; subst hb; have := (h.top a ha).2; show a.id < next + 1; omega⟩
      · intro y hy
        rcases List.mem_append.1 hy with hy | hy
        · have := h.top y hy; omega
        · simp at hy; subst hy; show 1 ≤ next + 1 ∧ next + 1 ≤ next + 1; omega
      · exact List.pairwise_append.2 ⟨h.bs, by simp, fun a ha b hb => by simp at hb; subst hb; have := (h.e a ha).lt; show a.b ≠ w1.heap.size; omega⟩
      · intro y hy
        rcases List.mem_append.1 hy with hy | hy
        · exact h.ap y hy
        · simp at hy; subst hy; show w1.heap.size ≠ bt ∧ w1.heap.size ≠ bm; omega
      · intro y hy
        rcases List.mem_append.1 hy with hy | hy
        · exact h.held y hy
        · simp at hy; subst hy; show 1 ≤ 1 ∧ 1 ≤ 1000; omega
      · intro y hy
        rcases List.mem_append.1 hy with hy | hy
        · exact h.one y hy
        · simp at hy; subst hy; rfl

/-- One held more, or less. -/
theorem ObjAt.setHeld {w : World} {bt bm size next : Nat} {l : List Ent} (H : ObjAt w bt bm size next l) (j : Nat) (hj : j < l.length) (h' : Nat) (h1 : 1 ≤ h') (h2 : h' ≤ 1000) :
    ObjAt (w.setCell ⟨l[j].b, 1, none⟩ (.int .i64 (h' : Int))) bt bm size next (l.set j { l[j] with h := h' }) := by
  have hap := H.ap _ (List.getElem_mem hj)
  have hmem : ∀ y, y ∈ l.set j { l[j] with h := h' } → (∃ x ∈ l, y.id = x.id ∧ y.b = x.b ∧ y.x = x.x) ∧ (y = { l[j] with h := h' } ∨ (y ∈ l ∧ y.b ≠ l[j].b)) := by
    intro y hy
    obtain ⟨i, hi, rfl⟩ := List.mem_iff_getElem.1 hy
    simp only [List.length_set] at hi
    rw [List.getElem_set]
    split
    · exact ⟨⟨_, List.getElem_mem hj, rfl, rfl, rfl⟩, .inl rfl⟩
    · rename_i hne
      refine ⟨⟨_, List.getElem_mem hi, rfl, rfl, rfl⟩, .inr ⟨List.getElem_mem hi, ?_⟩⟩
      rcases Nat.lt_or_gt_of_ne hne with h | h
      · exact fun e => List.pairwise_iff_getElem.1 H.bs j i hj hi h e.symm
      · exact List.pairwise_iff_getElem.1 H.bs i j hi hj h
  refine ⟨H.t.setOther (by simp; omega) _, ?_, ?_, ?_, ?_, ?_, ?_, H.ne, H.small, H.nx, by simpa using H.lsz, ?_, ?_⟩
  · have e : (l.set j { l[j] with h := h' }).map Ent.pair = l.map Ent.pair := by
      rw [List.map_set]
      apply List.ext_getElem (by simp)
      intro i h1 h2
      rw [List.getElem_set]
      split
      · rename_i h; subst h; simp [Ent.pair]
      · rfl
    rw [e]
    exact H.m.ext ((Ext.refl [l[j].b] w).setCell (.inl (by simp)) _) (by simp; omega)
  · intro y hy
    rcases (hmem y hy).2 with rfl | ⟨hy, hne⟩
    · exact (H.e _ (List.getElem_mem hj)).set 1 _
    · exact (H.e y hy).setOther hne _
  · refine List.pairwise_iff_getElem.2 fun i k hi hk hik => ?_
    simp only [List.length_set] at hi hk
    have := List.pairwise_iff_getElem.1 H.ids i k hi hk hik
    simp only [List.getElem_set]
    split <;> split <;> simp_all
  · intro y hy
    obtain ⟨⟨x, hx, h1, -, -⟩, -⟩ := hmem y hy
    rw [h1]; exact H.top x hx
  · refine List.pairwise_iff_getElem.2 fun i k hi hk hik => ?_
    simp only [List.length_set] at hi hk
    have := List.pairwise_iff_getElem.1 H.bs i k hi hk hik
    simp only [List.getElem_set]
    split <;> split <;> simp_all
  · intro y hy
    obtain ⟨⟨x, hx, -, h1, -⟩, -⟩ := hmem y hy
    rw [h1]; exact H.ap x hx
  · intro y hy
    rcases (hmem y hy).2 with rfl | ⟨hy, -⟩
    · exact ⟨h1, h2⟩
    · exact H.held y hy
  · intro y hy
    obtain ⟨⟨x, hx, -, -, h1⟩, -⟩ := hmem y hy
    rw [h1]; exact H.one x hx

theorem ObjAt.erase {w w' : World} {bt bm size next : Nat} {l : List Ent} (H : ObjAt w bt bm size next l) (j : Nat) (hj : j < l.length)
    (x : Ext [bm, l[j].b] w w') (hm : MapB w' bm ((l.eraseIdx j).map Ent.pair)) : ObjAt w' bt bm size next (l.eraseIdx j) := by
  have hap := H.ap _ (List.getElem_mem hj)
  have hne := H.ne
  have hsub : (l.eraseIdx j).Sublist l := List.eraseIdx_sublist ..
  refine ⟨H.t.ext x (by simp; omega), hm, ?_, H.ids.sublist hsub, fun y hy => H.top y (hsub.subset hy), H.bs.sublist hsub, fun y hy => H.ap y (hsub.subset hy), hne, H.small, H.nx,
    Nat.le_trans hsub.length_le H.lsz, fun y hy => H.held y (hsub.subset hy), fun y hy => H.one y (hsub.subset hy)⟩
  intro y hy
  have hy2 := H.ap y (hsub.subset hy)
  refine (H.e y (hsub.subset hy)).ext x ?_
  have hyb : y.b ≠ l[j].b := by
    obtain ⟨i, hi, rfl⟩ := List.mem_iff_getElem.1 hy
    rw [List.getElem_eraseIdx]
    split
    · rename_i h
      exact List.pairwise_iff_getElem.1 H.bs i j (by omega) hj h
    · rename_i h
      have hi' : i < l.length - 1 := by rw [List.length_eraseIdx_of_lt hj] at hi; exact hi
      exact fun e => List.pairwise_iff_getElem.1 H.bs j (i + 1) hj (by omega) (by omega) e.symm
  simp; omega

theorem obj_make_full {bt bm size next : Nat} {l : List Ent} {w : World} (H : ObjAt w bt bm size next l) (z : ByteArray) (hlt : l.length = size) :
    Calls Tryd.prog 23 #[.pointer (some ⟨bt, 0, none⟩), Value.string z] w fun e w' => e = .returned (.tuple #[.int .i64 0, .int .i64 12]) ∧ Ext [] w w' := by
  have hm := H.m
  have c0 := H.t.cell 0
  have c1 := H.t.cell 1
  have c2 := H.t.cell 2
  simp only [List.getElem?_cons_succ, List.getElem?_cons_zero] at c0 c1 c2
  have hneq : ((l.length : Int) == (size : Int)) = true := by
    rw [beq_iff_eq]; omega
  clear hlt
  go_enter Tryd.func23, Tryd.ntmps23
  go_upto_region 3 with (fail)
  go_region_law (refine step_lenm rfl _ rfl Tryd.underlying136 bm (l.map Ent.pair) rfl (hm.ext (Ext.refl [] _).drew (by simp)) ?_)
  all_goals
    go_wp2_with fail
    go_ret2
    exact ⟨rfl, (Ext.refl _ _).drew⟩

theorem obj_make_nil (z : ByteArray) (w : World) :
    Calls Tryd.prog 23 #[.pointer none, Value.string z] w fun e w' => e = .returned (.tuple #[.int .i64 0, .int .i64 22]) ∧ w = w' := by
  go_enter Tryd.func23, Tryd.ntmps23
  go_wp2
  go_ret2
  exact ⟨rfl, rfl⟩

theorem obj_hold {bt bm size next : Nat} {l : List Ent} {w : World} (H : ObjAt w bt bm size next l) (j : Nat) (hj : j < l.length) (hh : l[j].h < 1000) :
    Calls Tryd.prog 24 #[.pointer (some ⟨bt, 0, none⟩), .int .i64 (l[j].id : Int)] w fun e w' => e = .returned (.int .i64 0) ∧
      ObjAt w' bt bm size next (l.set j { l[j] with h := l[j].h + 1 }) ∧ Ext [l[j].b] w w' ∧ w'.heap.size = w.heap.size := by
  have HC := Lib.hid (obj_find H j hj)
  have HS := Lib.hid (H.setHeld j hj (l[j].h + 1) (by omega) (by omega))
  have he := H.e _ (List.getElem_mem hj)
  have c1 := he.cell 1
  have f1 := he.frozen 1
  simp only [List.getElem?_cons_succ, List.getElem?_cons_zero] at c1
  have hne : ((l[j].h : Int) == 1000) = false := by rw [beq_eq_false_iff_ne]; omega
  clear he H
  obtain ⟨x, hx⟩ : ∃ x, x = l[j] := ⟨_, rfl⟩
  rw [← hx] at HC HS c1 f1 hne hh ⊢
  clear hx
  go_enter Tryd.func24, Tryd.ntmps24
  go_wp2_with fail
  refine HC.out.mono ?_
  rintro e w' ⟨rfl, rfl⟩
  go_wp2_with fail
  go_ret
  refine ⟨rfl, ?_, (Ext.refl _ _).setCell (by simp) _, by simp⟩
  have := HS.out
  simpa using this

theorem obj_hold_most {bt bm size next : Nat} {l : List Ent} {w : World} (H : ObjAt w bt bm size next l) (j : Nat) (hj : j < l.length) (hh : l[j].h = 1000) :
    Calls Tryd.prog 24 #[.pointer (some ⟨bt, 0, none⟩), .int .i64 (l[j].id : Int)] w fun e w' => e = .returned (.int .i64 28) ∧ w = w' := by
  have HC := Lib.hid (obj_find H j hj)
  have he := H.e _ (List.getElem_mem hj)
  have c1 := he.cell 1
  simp only [List.getElem?_cons_succ, List.getElem?_cons_zero, hh] at c1
  clear he H hh
  generalize l[j] = x at *
  go_enter Tryd.func24, Tryd.ntmps24
  go_wp2_with fail
  refine HC.out.mono ?_
  rintro e w' ⟨rfl, rfl⟩
  go_wp2_with fail
  go_ret
  exact ⟨rfl, rfl⟩

/-- What a call answers, where find found none. -/
theorem obj_hold_no (p : Value) (id : Int) (er : Int) (w : World) (her : er ≠ 0) (hf : Calls Tryd.prog 69 #[p, .int .i64 id] w fun e w' => e = .returned (.tuple #[.pointer none, .int .i64 er]) ∧ w = w') :
    Calls Tryd.prog 24 #[p, .int .i64 id] w fun e w' => e = .returned (.int .i64 er) ∧ w = w' := by
  have HC := Lib.hid hf
  have hb : (er != 0) = true := by rw [bne_iff_ne]; exact her
  clear hf her
  go_enter Tryd.func24, Tryd.ntmps24
  go_wp2_with fail
  refine HC.out.mono ?_
  rintro e w' ⟨rfl, rfl⟩
  go_wp2_with fail
  go_ret
  exact ⟨rfl, rfl⟩

theorem obj_held {bt bm size next : Nat} {l : List Ent} {w : World} (H : ObjAt w bt bm size next l) (j : Nat) (hj : j < l.length) :
    Calls Tryd.prog 27 #[.pointer (some ⟨bt, 0, none⟩), .int .i64 (l[j].id : Int)] w fun e w' => e = .returned (.int .i64 (l[j].h : Int)) ∧ w = w' := by
  have HC := Lib.hid (obj_find H j hj)
  have he := H.e _ (List.getElem_mem hj)
  have c1 := he.cell 1
  simp only [List.getElem?_cons_succ, List.getElem?_cons_zero] at c1
  clear he H
  generalize l[j] = x at *
  go_enter Tryd.func27, Tryd.ntmps27
  go_wp2_with fail
  refine HC.out.mono ?_
  rintro e w' ⟨rfl, rfl⟩
  go_wp2_with fail
  go_ret
  exact ⟨rfl, rfl⟩

theorem obj_held_no (p : Value) (id : Int) (er : Int) (w : World) (her : er ≠ 0) (hf : Calls Tryd.prog 69 #[p, .int .i64 id] w fun e w' => e = .returned (.tuple #[.pointer none, .int .i64 er]) ∧ w = w') :
    Calls Tryd.prog 27 #[p, .int .i64 id] w fun e w' => e = .returned (.int .i64 0) ∧ w = w' := by
  have HC := Lib.hid hf
  have hb : (er != 0) = true := by rw [bne_iff_ne]; exact her
  clear hf her
  go_enter Tryd.func27, Tryd.ntmps27
  go_wp2_with fail
  refine HC.out.mono ?_
  rintro e w' ⟨rfl, rfl⟩
  go_wp2_with fail
  go_ret
  exact ⟨rfl, rfl⟩

theorem obj_drop {bt bm size next : Nat} {l : List Ent} {w : World} (H : ObjAt w bt bm size next l) (j : Nat) (hj : j < l.length) (hh : 2 ≤ l[j].h) :
    Calls Tryd.prog 29 #[.pointer (some ⟨bt, 0, none⟩), .int .i64 (l[j].id : Int)] w fun e w' => e = .returned (.tuple #[.bool false, .int .i64 0]) ∧
      ObjAt w' bt bm size next (l.set j { l[j] with h := l[j].h - 1 }) ∧ Ext [l[j].b] w w' ∧ w'.heap.size = w.heap.size := by
  have HC := Lib.hid (obj_find H j hj)
  have hmax := (H.held _ (List.getElem_mem hj)).2
  have HS := Lib.hid (H.setHeld j hj (l[j].h - 1) (by omega) (by omega))
  have he := H.e _ (List.getElem_mem hj)
  have c1 := he.cell 1
  have f1 := he.frozen 1
  simp only [List.getElem?_cons_succ, List.getElem?_cons_zero] at c1
  have hne : (((l[j].h : Int) - 1) == 0) = false := by rw [beq_eq_false_iff_ne]; omega
  clear he H
  obtain ⟨x, hx⟩ : ∃ x, x = l[j] := ⟨_, rfl⟩
  rw [← hx] at HC HS c1 f1 hne hh hmax ⊢
  clear hx
  have hcast : ((x.h - 1 : Nat) : Int) = (x.h : Int) - 1 := by omega
  rw [hcast] at HS
  clear hcast
  go_enter Tryd.func29, Tryd.ntmps29
  go_wp2_with fail
  refine HC.out.mono ?_
  rintro e w' ⟨rfl, rfl⟩
  go_wp2_with fail
  go_ret2
  exact ⟨rfl, HS.out, (Ext.refl _ _).setCell (by simp) _, by simp⟩

set_option maxHeartbeats 1000000 in
set_option maxRecDepth 100000 in
theorem obj_drop_last {bt bm size next : Nat} {l : List Ent} {w : World} (H : ObjAt w bt bm size next l) (j : Nat) (hj : j < l.length) (hh : l[j].h = 1) :
    Calls Tryd.prog 29 #[.pointer (some ⟨bt, 0, none⟩), .int .i64 (l[j].id : Int)] w fun e w' => e = .returned (.tuple #[.bool true, .int .i64 0]) ∧
      ObjAt w' bt bm size next (l.eraseIdx j) ∧ Ext [bm, l[j].b] w w' ∧ w'.heap.size = w.heap.size := by
  have HC := Lib.hid (obj_find H j hj)
  have he := H.e _ (List.getElem_mem hj)
  have c1 := he.cell 1
  have f1 := he.frozen 1
  simp only [List.getElem?_cons_succ, List.getElem?_cons_zero, hh] at c1
  have c2 := H.t.cell 2
  simp only [List.getElem?_cons_succ, List.getElem?_cons_zero] at c2
  have hat := atKey_ent H.ids j hj
  have hap := H.ap _ (List.getElem_mem hj)
  have HE := Lib.hid (fun w' x hm => H.erase (w' := w') j hj x hm)
  have hm := H.m
  clear H hh
  obtain ⟨x, hx⟩ : ∃ x, x = l[j] := ⟨_, rfl⟩
  rw [← hx] at HC HE c1 f1 hat hap he ⊢
  clear hx
  have HAT := Lib.hid hat
  clear hat
  go_enter Tryd.func29, Tryd.ntmps29
  go_wp2_with fail
  refine HC.out.mono ?_
  rintro e w' ⟨rfl, rfl⟩
  have x1 : Ext [bm, x.b] w (w.setCell ⟨x.b, 1, none⟩ (.int .i64 0)) := (Ext.refl _ _).setCell (.inl (by simp)) _
  have hm1 : MapB (w.setCell ⟨x.b, 1, none⟩ (.int .i64 0)) bm (l.map Ent.pair) := hm.ext ((Ext.refl [x.b] w).setCell (.inl (by simp)) _) (by simp; omega)
  have he1 : Blk (w.setCell ⟨x.b, 1, none⟩ (.int .i64 0)) x.b 143 [x.x, .int .i64 0] := he.set 1 _
  have hsz1 : w.heap.size ≤ (w.setCell ⟨x.b, 1, none⟩ (.int .i64 0)).heap.size := x1.size
  obtain ⟨w2, hrun, hm2, x2, hs2⟩ := run_delete_int (P := Tryd.prog) Tryd.underlying136 Tryd.underlying3 0 hm1 (x.id : Int) HAT.out
  have d1 := (he1.ext x2 (by simp; omega)).cell 1
  simp only [List.getElem?_cons_succ, List.getElem?_cons_zero] at d1
  have HSZ := Lib.hid hs2
  clear hs2
  go_wp2_with fail
  go_ret2
  refine ⟨rfl, HE.out _ (x1.trans' x2 (by simp)) (by rw [map_eraseIdx]; exact hm2), x1.trans' x2 (by simp), by rw [HSZ.out]; simp⟩

theorem obj_drop_no (p : Value) (id : Int) (er : Int) (w : World) (her : er ≠ 0) (hf : Calls Tryd.prog 69 #[p, .int .i64 id] w fun e w' => e = .returned (.tuple #[.pointer none, .int .i64 er]) ∧ w = w') :
    Calls Tryd.prog 29 #[p, .int .i64 id] w fun e w' => e = .returned (.tuple #[.bool false, .int .i64 er]) ∧ w = w' := by
  have HC := Lib.hid hf
  have hb : (er != 0) = true := by rw [bne_iff_ne]; exact her
  clear hf her
  go_enter Tryd.func29, Tryd.ntmps29
  go_wp2_with fail
  refine HC.out.mono ?_
  rintro e w' ⟨rfl, rfl⟩
  go_wp2_with fail
  go_ret2
  exact ⟨rfl, rfl⟩

/-! ### The same, at a number that is known to be the object's -/
theorem obj_hold' {bt bm size next : Nat} {l : List Ent} {w : World} (H : ObjAt w bt bm size next l) (j : Nat) (hj : j < l.length) (id : Int) (hid : id = (l[j].id : Int)) (hh : l[j].h < 1000) :
    Calls Tryd.prog 24 #[.pointer (some ⟨bt, 0, none⟩), .int .i64 id] w fun e w' => e = .returned (.int .i64 0) ∧
      ObjAt w' bt bm size next (l.set j { l[j] with h := l[j].h + 1 }) ∧ Ext [l[j].b] w w' ∧ w'.heap.size = w.heap.size := by subst hid; exact obj_hold H j hj hh
theorem obj_hold_most' {bt bm size next : Nat} {l : List Ent} {w : World} (H : ObjAt w bt bm size next l) (j : Nat) (hj : j < l.length) (id : Int) (hid : id = (l[j].id : Int)) (hh : l[j].h = 1000) :
    Calls Tryd.prog 24 #[.pointer (some ⟨bt, 0, none⟩), .int .i64 id] w fun e w' => e = .returned (.int .i64 28) ∧ w = w' := by subst hid; exact obj_hold_most H j hj hh
theorem obj_drop' {bt bm size next : Nat} {l : List Ent} {w : World} (H : ObjAt w bt bm size next l) (j : Nat) (hj : j < l.length) (id : Int) (hid : id = (l[j].id : Int)) (hh : 2 ≤ l[j].h) :
    Calls Tryd.prog 29 #[.pointer (some ⟨bt, 0, none⟩), .int .i64 id] w fun e w' => e = .returned (.tuple #[.bool false, .int .i64 0]) ∧
      ObjAt w' bt bm size next (l.set j { l[j] with h := l[j].h - 1 }) ∧ Ext [l[j].b] w w' ∧ w'.heap.size = w.heap.size := by subst hid; exact obj_drop H j hj hh
theorem obj_drop_last' {bt bm size next : Nat} {l : List Ent} {w : World} (H : ObjAt w bt bm size next l) (j : Nat) (hj : j < l.length) (id : Int) (hid : id = (l[j].id : Int)) (hh : l[j].h = 1) :
    Calls Tryd.prog 29 #[.pointer (some ⟨bt, 0, none⟩), .int .i64 id] w fun e w' => e = .returned (.tuple #[.bool true, .int .i64 0]) ∧
      ObjAt w' bt bm size next (l.eraseIdx j) ∧ Ext [bm, l[j].b] w w' ∧ w'.heap.size = w.heap.size := by subst hid; exact obj_drop_last H j hj hh
theorem obj_held' {bt bm size next : Nat} {l : List Ent} {w : World} (H : ObjAt w bt bm size next l) (j : Nat) (hj : j < l.length) (id : Int) (hid : id = (l[j].id : Int)) :
    Calls Tryd.prog 27 #[.pointer (some ⟨bt, 0, none⟩), .int .i64 id] w fun e w' => e = .returned (.int .i64 (l[j].h : Int)) ∧ w = w' := by subst hid; exact obj_held H j hj
end Go.Proofs.YtbjkfgfiifnjoaaDoor.S
