/- The reference of layer 7: DocHold, DocDrop. -/
import Derived.Test.YtknghmogfbpclaaDocM
namespace Go.Proofs.Ytknghmogfbpclaa
open Go.RowKit
set_option maxRecDepth 100000

theorem rows_set {w : World} {T : TypeId} {g n c s : Nat} {xs : List Value} (h : w.ownsRow 0 T s (.slice (some ⟨g, 0, none⟩) n c) n xs) (m : Nat) (_hm : m < n * s) (v : Value) :
    (w.setCell ⟨g, m, none⟩ v).ownsRow 0 T s (.slice (some ⟨g, 0, none⟩) n c) n (xs.set m v) := by
  rcases h.2 with ⟨he, _⟩ | ⟨g', cap, cur, he, h0, hg, hr⟩
  · cases he
  · cases he
    have B : Blk w g T cur.toList := by simpa [Blk] using hg
    have B2 := B.set m v
    refine ⟨by rw [List.length_set]; exact h.1, .inr ⟨g, c, (cur.toList.set m v).toArray, rfl, Nat.zero_le _, B2, hr.1, hr.2.1, by have := hr.2.2.1; simpa using this, ?_⟩⟩
    have ht : cur.toList.take (n * s) = xs := hr.2.2.2
    show (cur.toList.set m v).take (n * s) = _
    rw [← ht, List.take_set]
theorem DocAt.setH {w : World} {bd g c : Nat} {size next : Nat} {l : List Ent} (h : DocAt w bd (.slice (some ⟨g, 0, none⟩) l.length c) size next l) (k : Nat) (hk : k < l.length) (h' : Nat) :
    DocAt (w.setCell ⟨g, k * 3 + 2, none⟩ (.int .i64 (h' : Int))) bd (.slice (some ⟨g, 0, none⟩) l.length c) size next (l.set k { l[k] with h := h' }) := by
  refine ⟨h.h.setOther (fun e => h.ne g rfl e.symm) _, ?_, h.ne⟩
  have := rows_set h.own (k * 3 + 2) (by omega) (.int .i64 (h' : Int))
  rw [docV_set l k hk h'] at this
  rw [List.length_set]
  exact this

set_option maxHeartbeats 4000000 in
theorem doc_hold (bd : Nat) (v : Value) (size next : Nat) (l : List Ent) (w : World) (H : DocAt w bd v size next l) (hl : l.length ≤ 64) (hids : l.Pairwise fun a b => a.id < b.id) (k : Nat) (hk : k < l.length) (hh : l[k].h < 1000) :
    Calls Try.prog 22 #[.pointer (some ⟨bd, 0, none⟩), .int .i64 (l[k].id : Int)] w fun e w' => e = .returned (.int .i64 0) ∧ DocAt w' bd v size next (l.set k { l[k] with h := l[k].h + 1 }) ∧ Ext v.ownBlock.toList w w' := by
  have HF := Lib.hid (doc_find_at bd v size next l w H hl hids k hk)
  obtain ⟨g, c, rfl, hn, hm, hg, hgb, a0, a1, a2, f2⟩ := H.at k hk
  have HS := Lib.hid (H.setH k hk (l[k].h + 1))
  have c2 := H.h.cell 2
  have hlt := H.h.lt
  simp only [List.getElem?_cons_zero, List.getElem?_cons_succ] at c2
  obtain ⟨x, hx⟩ : ∃ x, x = l[k] := ⟨_, rfl⟩
  rw [← hx] at HF HS a0 a1 a2 hh ⊢
  clear hx H
  unfold maxLen at hm
  go_enter Try.func22, Try.ntmps22
  go_wp2_with fail
  refine HF.out.mono ?_
  rintro e w' ⟨rfl, rfl⟩
  go_wp2_with fail
  go_ret
  exact ⟨rfl, HS.out, (Ext.refl _ _).setCell (.inl (by simp [Value.ownBlock])) _⟩
theorem doc_hold_most (bd : Nat) (v : Value) (size next : Nat) (l : List Ent) (w : World) (H : DocAt w bd v size next l) (hl : l.length ≤ 64) (hids : l.Pairwise fun a b => a.id < b.id) (k : Nat) (hk : k < l.length) (hh : l[k].h = 1000) :
    Calls Try.prog 22 #[.pointer (some ⟨bd, 0, none⟩), .int .i64 (l[k].id : Int)] w fun e w' => e = .returned (.int .i64 28) ∧ w = w' := by
  have HF := Lib.hid (doc_find_at bd v size next l w H hl hids k hk)
  obtain ⟨g, c, rfl, hn, hm, hg, hgb, a0, a1, a2, f2⟩ := H.at k hk
  rw [hh] at a2
  have c2 := H.h.cell 2
  have hlt := H.h.lt
  simp only [List.getElem?_cons_zero, List.getElem?_cons_succ] at c2
  clear H hh
  unfold maxLen at hm
  go_enter Try.func22, Try.ntmps22
  go_wp2_with fail
  refine HF.out.mono ?_
  rintro e w' ⟨rfl, rfl⟩
  go_wp2_with fail
  go_ret
  exact ⟨rfl, rfl⟩
theorem doc_hold_no (bd : Nat) (v : Value) (size next : Nat) (l : List Ent) (id : Int) (w : World) (H : DocAt w bd v size next l) (hl : l.length ≤ 64) (hno : ∀ x ∈ l, (x.id : Int) ≠ id) :
    Calls Try.prog 22 #[.pointer (some ⟨bd, 0, none⟩), .int .i64 id] w fun e w' => e = .returned (.int .i64 2) ∧ w = w' := by
  have HF := Lib.hid (doc_find_no bd v size next l id w H hl hno)
  clear H hno
  go_enter Try.func22, Try.ntmps22
  go_wp2_with fail
  refine HF.out.mono ?_
  rintro e w' ⟨rfl, rfl⟩
  go_wp2_with fail
  go_ret
  exact ⟨rfl, rfl⟩

/-- A fresh row that grows. -/
structure Grow (w0 w : World) (T : TypeId) (s : Nat) (v : Value) (n : Nat) (xs : List Value) : Prop where
  x : Ext [] w0 w
  a : w.ownsRow 0 T s v n xs
  fa : ∀ g, v.ownBlock = some g → w0.heap.size ≤ g
theorem Grow.new {w0 w : World} (x : Ext [] w0 w) (T : TypeId) (s : Nat) : Grow w0 (w.alloc (.cells #[] T)) T s (.slice (some ⟨w.heap.size, 0, none⟩) 0 0) 0 [] :=
  ⟨x.alloc _, (Blk.new w T #[]).owns (by simp) (by unfold maxLen; omega), fun g e => by cases e; exact x.size⟩
theorem Grow.app {w0 w w' : World} {T : TypeId} {s : Nat} {v v' : Value} {n n' : Nat} {xs xs' : List Value} (h : Grow w0 w T s v n xs) (hown : w'.ownsRow 0 T s v' n' xs') (hg : w.grownBy w' v.ownBlock) (hf : v'.ownBlock = v.ownBlock ∨ ∃ g, v'.ownBlock = some g ∧ w.heap.size ≤ g) : Grow w0 w' T s v' n' xs' := by
  have hsz := h.x.size
  refine ⟨h.x.grown hg (fun g hk => .inr (h.fa g hk)), hown, fun g e => ?_⟩
  rcases hf with h1 | ⟨g', h1, h2⟩
  · exact h.fa g (h1 ▸ e)
  · rw [h1] at e; cases e; omega

/-- One less, and gone. -/
def DocGone (bd : Nat) (v : Value) (size next : Nat) (l : List Ent) (w : World) (e : Ending) (w' : World) : Prop :=
  ∃ v', e = .returned (.tuple #[.bool true, .int .i64 0]) ∧ DocAt w' bd v' size next l ∧ Ext (bd :: v.ownBlock.toList) w w' ∧ (∀ g, v'.ownBlock = some g → w.heap.size ≤ g)

set_option maxHeartbeats 4000000 in
theorem doc_drop (bd : Nat) (v : Value) (size next : Nat) (l : List Ent) (w : World) (H : DocAt w bd v size next l) (hl : l.length ≤ 64) (hids : l.Pairwise fun a b => a.id < b.id) (k : Nat) (hk : k < l.length) (hh : 2 ≤ l[k].h) (hx : l[k].h ≤ 1000) :
    Calls Try.prog 23 #[.pointer (some ⟨bd, 0, none⟩), .int .i64 (l[k].id : Int)] w fun e w' => e = .returned (.tuple #[.bool false, .int .i64 0]) ∧ DocAt w' bd v size next (l.set k { l[k] with h := l[k].h - 1 }) ∧ Ext v.ownBlock.toList w w' := by
  have HF := Lib.hid (doc_find_at bd v size next l w H hl hids k hk)
  obtain ⟨g, c, rfl, hn, hm, hg, hgb, a0, a1, a2, f2⟩ := H.at k hk
  have HS := Lib.hid (H.setH k hk (l[k].h - 1))
  have c2 := H.h.cell 2
  have hlt := H.h.lt
  simp only [List.getElem?_cons_zero, List.getElem?_cons_succ] at c2
  obtain ⟨x, hxx⟩ : ∃ x, x = l[k] := ⟨_, rfl⟩
  rw [← hxx] at HF HS a0 a1 a2 hh hx ⊢
  clear hxx H
  have hcast : ((x.h - 1 : Nat) : Int) = (x.h : Int) - 1 := by omega
  rw [hcast] at HS
  clear hcast
  have hpos : 0 < (x.h : Int) - 1 := by omega
  unfold maxLen at hm
  go_enter Try.func23, Try.ntmps23
  go_wp2_with fail
  refine HF.out.mono ?_
  rintro e w' ⟨rfl, rfl⟩
  go_wp2_with fail
  go_ret2
  exact ⟨rfl, HS.out, (Ext.refl _ _).setCell (.inl (by simp [Value.ownBlock])) _⟩
theorem doc_drop_no (bd : Nat) (v : Value) (size next : Nat) (l : List Ent) (id : Int) (w : World) (H : DocAt w bd v size next l) (hl : l.length ≤ 64) (hno : ∀ x ∈ l, (x.id : Int) ≠ id) :
    Calls Try.prog 23 #[.pointer (some ⟨bd, 0, none⟩), .int .i64 id] w fun e w' => e = .returned (.tuple #[.bool false, .int .i64 2]) ∧ w = w' := by
  have HF := Lib.hid (doc_find_no bd v size next l id w H hl hno)
  clear H hno
  go_enter Try.func23, Try.ntmps23
  go_wp2_with fail
  refine HF.out.mono ?_
  rintro e w' ⟨rfl, rfl⟩
  go_wp2_with fail
  go_ret2
  exact ⟨rfl, rfl⟩

set_option maxHeartbeats 16000000 in
theorem doc_drop_last (bd : Nat) (v : Value) (size next : Nat) (l : List Ent) (w : World) (H : DocAt w bd v size next l) (hl : l.length ≤ 64) (hids : l.Pairwise fun a b => a.id < b.id) (h1c : ∀ x ∈ l, x.x.oneCell' = true) (k : Nat) (hk : k < l.length) (hh : l[k].h = 1) :
    Calls Try.prog 23 #[.pointer (some ⟨bd, 0, none⟩), .int .i64 (l[k].id : Int)] w (DocGone bd v size next (l.eraseIdx k) w) := by
  obtain ⟨i0, hi, hz0, hz1, hz2⟩ := info_parts info_one
  have HF := Lib.hid (doc_find_at bd v size next l w H hl hids k hk)
  obtain ⟨g, c, rfl, hn, hm, hg, hgb, a0, a1, a2, f2⟩ := H.at k hk
  have S0 := H.setH k hk 0
  rw [hh] at a2
  have c2 := H.h.cell 2
  have hlt := H.h.lt
  simp only [List.getElem?_cons_zero, List.getElem?_cons_succ] at c2
  have HER := Lib.hid (show (l.set k { l[k] with h := 0 }).eraseIdx k = l.eraseIdx k from List.eraseIdx_set_eq ..)
  have HL2 := Lib.hid (show (l.set k { l[k] with h := 0 }).length = l.length from List.length_set ..)
  have HC2 := Lib.hid (docV_one' (l.set k { l[k] with h := 0 }) (fun x hx => by
    rcases List.mem_or_eq_of_mem_set hx with h | h
    · exact h1c x h
    · rw [h]; exact h1c l[k] (List.getElem_mem hk)))
  generalize (l.set k { l[k] with h := 0 }) = l2 at *
  clear H hh h1c hids
  unfold maxLen at hm
  go_enter Try.func23, Try.ntmps23
  go_wp2_with fail
  refine HF.out.mono ?_
  rintro e w' ⟨rfl, rfl⟩
  clear HF
  go_upto_region 5 with (fail)
  have S1 : DocAt (w.setCell ⟨g, k * 3 + 2, none⟩ (.int .i64 0)) bd (.slice (some ⟨g, 0, none⟩) l.length c) size next l2 := S0
  have x1 : Ext (bd :: (Value.slice (some ⟨g, 0, none⟩) l.length c).ownBlock.toList) w (w.setCell ⟨g, k * 3 + 2, none⟩ (.int .i64 0)) := (Ext.refl _ _).setCell (.inl (by simp [Value.ownBlock])) _
  have hs1 := x1.size
  have g2 : (w.setCell ⟨g, k * 3 + 2, none⟩ (.int .i64 0)).cell? ⟨g, k * 3 + 2, none⟩ = some (.int .i64 0) := by go_simp
  clear a0 a1 a2 f2 c2 hlt hg S0
  generalize w.setCell ⟨g, k * 3 + 2, none⟩ (.int .i64 0) = w1 at *
  have c2 := S1.h.cell 2
  have hlt := S1.h.lt
  have hg := World.block_lt_of_cell? w1 _ g2
  simp only [List.getElem?_cons_zero, List.getElem?_cons_succ] at c2
  go_upto_region 7 with (fail)
  clear c2 g2
  have HB0 := Lib.hid (fun w' (x' : Ext [] w1 w') => S1.h.ext x' (by simp))
  have hown : w1.ownsRow 0 55 3 (.slice (some ⟨g, 0, none⟩) l.length c) l.length (docV l2) := by have := S1.own; rwa [HL2.out] at this
  have R1 := Lib.hid (fun w' (x' : Ext [] w1 w') => reads_to (owns_ext hown x' (by simp)) k (by omega))
  obtain ⟨u8, hu8, hr8⟩ := part_from (P := Try.prog) 49 55 i0 3 Try.underlying49 hi hz1 55 (some ⟨g, 0, none⟩) l.length c (k + 1) (by omega) (docV l2)
  have R2 := Lib.hid (fun w' (x' : Ext [] w1 w') => hr8 w' (owns_ext hown x' (by simp)))
  have hs8 := fun w => run_part_to (P := Try.prog) w 49 55 i0 Try.underlying49 hi (some ⟨g, 0, none⟩) l.length c k (by omega)
  rw [show ((k + 1 : Nat) : Int) = (k : Int) + 1 from by omega] at hu8
  have hw1 : IntKind.i64.wrap ((k : Int) + 1) = (k : Int) + 1 := IntWalk.i64_in _ (by omega)
  have zz : Ext [] w1 w1.drew := (Ext.refl _ _).drew
  clear hr8 hown S1
  refine wp_region_held_drew (S := fun _ => True) (by kernel_rfl) trivial (fun hS => ?_)
  generalize w1.drew = wq at zz ⊢
  refine wpAnyH_take (i := 0) (oi := ⟨some 32, _, _, _, _, _⟩) (v := ?_) rfl (by kernel_rfl) (by kernel_rfl) (by kernel_rfl) (fun _ _ _ h => h) (Or.inl ⟨by rfl, ?_⟩) (by assumption) ?_
  rotate_left 1
  · (intro w hSw; (try dsimp only at hSw); go_split_ands; (try go_simp); (try with_reducible rfl))
  try simp only [Act.put, List.setIfInBounds_toArray, List.set_cons_zero, List.set_cons_succ]
  refine wpAnyH_take (i := 2) (oi := ⟨some 34, _, _, _, _, _⟩) (v := ?_) rfl (by kernel_rfl) (by kernel_rfl) (by kernel_rfl) (fun _ _ _ h => h) (Or.inl ⟨by rfl, ?_⟩) (by assumption) ?_
  rotate_left 1
  · (intro w hSw; (try dsimp only at hSw); go_split_ands; (try go_simp); (try with_reducible rfl))
  try simp only [Act.put, List.setIfInBounds_toArray, List.set_cons_zero, List.set_cons_succ]
  refine wpAnyH_take (i := 3) (oi := ⟨some 35, _, _, _, _, _⟩) (v := ?_) rfl (by kernel_rfl) (by kernel_rfl) (by kernel_rfl) (fun _ _ _ h => h) (Or.inl ⟨by rfl, ?_⟩) (by assumption) ?_
  rotate_left 1
  · (intro w hSw; (try dsimp only at hSw); go_split_ands; (try go_simp); (try with_reducible rfl))
  try simp only [Act.put, List.setIfInBounds_toArray, List.set_cons_zero, List.set_cons_succ]
  refine wpAnyH_take (i := 4) (oi := ⟨some 36, _, _, _, _, _⟩) (v := ?_) rfl (by kernel_rfl) (by kernel_rfl) (by kernel_rfl) (fun _ _ _ h => h) (Or.inl ⟨by rfl, ?_⟩) (by assumption) ?_
  rotate_left 1
  · (intro w hSw; (try dsimp only at hSw); go_split_ands; (try go_simp); (try with_reducible rfl))
  try simp only [Act.put, List.setIfInBounds_toArray, List.set_cons_zero, List.set_cons_succ]
  refine wpAnyH_take (i := 6) (oi := ⟨some 38, _, _, _, _, _⟩) (v := ?_) rfl (by kernel_rfl) (by kernel_rfl) (by kernel_rfl) (fun _ _ _ h => h) (Or.inl ⟨by rfl, ?_⟩) (by assumption) ?_
  rotate_left 1
  · (intro w hSw; (try dsimp only at hSw); go_split_ands; (try go_simp); (try with_reducible rfl))
  try simp only [Act.put, List.setIfInBounds_toArray, List.set_cons_zero, List.set_cons_succ]
  refine wpAnyH_take (i := 9) (oi := ⟨some 41, _, _, _, _, _⟩) (v := ?_) rfl (by kernel_rfl) (by kernel_rfl) (by kernel_rfl) (fun _ _ _ h => h) (Or.inl ⟨by rfl, ?_⟩) (by assumption) ?_
  rotate_left 1
  · (intro w hSw; (try dsimp only at hSw); go_split_ands; (try go_simp); (try with_reducible rfl))
  try simp only [Act.put, List.setIfInBounds_toArray, List.set_cons_zero, List.set_cons_succ]
  refine wpAnyH_take (i := 10) (oi := ⟨some 42, _, _, _, _, _⟩) (v := ?_) rfl (by kernel_rfl) (by kernel_rfl) (by kernel_rfl) (fun _ _ _ h => h) (Or.inl ⟨by rfl, ?_⟩) (by assumption) ?_
  rotate_left 1
  · (intro w hSw; (try dsimp only at hSw); go_split_ands; (try go_simp); (try with_reducible rfl))
  try simp only [Act.put, List.setIfInBounds_toArray, List.set_cons_zero, List.set_cons_succ]
  refine wpAnyH_take (i := 11) (oi := ⟨some 43, _, _, _, _, _⟩) (v := ?_) rfl (by kernel_rfl) (by kernel_rfl) (by kernel_rfl) (fun _ _ _ h => h) (Or.inl ⟨by rfl, ?_⟩) (by assumption) ?_
  rotate_left 1
  · (intro w hSw; (try dsimp only at hSw); go_split_ands; (try go_simp); (try with_reducible rfl))
  try simp only [Act.put, List.setIfInBounds_toArray, List.set_cons_zero, List.set_cons_succ]
  refine wpAnyH_take (i := 13) (oi := ⟨some 45, _, _, _, _, _⟩) (v := ?_) rfl (by kernel_rfl) (by kernel_rfl) (by kernel_rfl) (fun _ _ _ h => h) (Or.inl ⟨by rfl, ?_⟩) (by assumption) ?_
  rotate_left 1
  · (intro w hSw; (try dsimp only at hSw); go_split_ands; (try go_simp); (try with_reducible rfl))
  try simp only [Act.put, List.setIfInBounds_toArray, List.set_cons_zero, List.set_cons_succ]
  refine wpAnyH_take (i := 14) (oi := ⟨some 46, _, _, _, _, _⟩) (v := ?_) rfl (by kernel_rfl) (by kernel_rfl) (by kernel_rfl) (fun _ _ _ h => h) (Or.inl ⟨by rfl, ?_⟩) (by assumption) ?_
  rotate_left 1
  · (intro w hSw; (try dsimp only at hSw); go_split_ands; (try go_simp); (try with_reducible rfl))
  try simp only [Act.put, List.setIfInBounds_toArray, List.set_cons_zero, List.set_cons_succ]
  refine wpAnyH_ready (rs := [1, 5, 12]) (by kernel_rfl) (by simp) ?_
  refine AllReadyH.cons (o := ⟨some 33, _, _, _, _, _⟩) rfl (fun K hK => ?_) (AllReadyH.cons (o := ⟨some 37, _, _, _, _, _⟩) rfl (fun K hK => ?_) (AllReadyH.cons (o := ⟨some 44, _, _, _, _, _⟩) rfl (fun K hK => ?_) AllReadyH.nil))
  · skip
    go_simp
    have G1 := Grow.new zz 55 3
    have zz' := G1.x
    clear zz
    generalize wq.heap.size = bq at G1 ⊢
    generalize wq.alloc (.cells #[] 55) = wp at G1 zz' ⊢
    have G := G1
    have zz := zz'
    clear G1 zz'
    obtain ⟨wq, hwq⟩ : ∃ w, w = wp := ⟨_, rfl⟩
    rw [← hwq] at G zz ⊢
    clear hwq
    refine hK.out _ _ trivial (fun hS => ?_)
    clear hK K
    try simp only [Act.put, List.setIfInBounds_toArray, List.set_cons_zero, List.set_cons_succ]
    refine wpAnyH_ready (rs := [5, 12]) (by kernel_rfl) (by simp) ?_
    refine AllReadyH.cons (o := ⟨some 37, _, _, _, _, _⟩) rfl (fun K hK => ?_) (AllReadyH.cons (o := ⟨some 44, _, _, _, _, _⟩) rfl (fun K hK => ?_) AllReadyH.nil)
    · skip
      have B3 := HB0.out _ zz
      have c2 := B3.cell 2
      have hbl := B3.lt
      simp only [List.getElem?_cons_zero, List.getElem?_cons_succ] at c2
      clear B3
      go_simp
      clear c2 hbl
      refine hK.out _ _ trivial (fun hS => ?_)
      clear hK K
      try simp only [Act.put, List.setIfInBounds_toArray, List.set_cons_zero, List.set_cons_succ]
      refine wpAnyH_take (i := 7) (oi := ⟨some 39, _, _, _, _, _⟩) (v := ?_) rfl (by kernel_rfl) (by kernel_rfl) (by kernel_rfl) (fun _ _ _ h => h) (Or.inl ⟨by rfl, ?_⟩) (by assumption) ?_
      rotate_left 1
      · (intro w hSw; (try dsimp only at hSw); go_split_ands; (try go_simp); (try with_reducible rfl))
      try simp only [Act.put, List.setIfInBounds_toArray, List.set_cons_zero, List.set_cons_succ]
      refine wpAnyH_ready (rs := [8, 12]) (by kernel_rfl) (by simp) ?_
      refine AllReadyH.cons (o := ⟨some 40, _, _, _, _, _⟩) rfl (fun K hK => ?_) (AllReadyH.cons (o := ⟨some 44, _, _, _, _, _⟩) rfl (fun K hK => ?_) AllReadyH.nil)
      · skip
        refine step_app _ rfl (.tmp 33) (.tmp 39) 49 rfl 55 i0 _ 3 24 Try.underlying49 hi hz0 hz1 hz2 rfl (by decide) _ _ _ rfl G.a (.slice (some ⟨g, 0, none⟩) k c) k _ rfl (R1.out _ zz) (fun u hu => HC2.out u (List.mem_of_mem_take hu)) (by unfold maxLen; omega) (by omega) ?_
        intro v4 w4 hown4 hgrow4 hfr4 _
        have G1 := G.app hown4 hgrow4 hfr4
        clear hown4 hgrow4 hfr4 G zz
        have G := G1
        have zz := G1.x
        clear G1
        obtain ⟨wq, hwq⟩ : ∃ w, w = w4 := ⟨_, rfl⟩
        rw [← hwq] at G zz ⊢
        clear hwq
        refine hK.out _ _ trivial (fun hS => ?_)
        clear hK K
        try simp only [Act.put, List.setIfInBounds_toArray, List.set_cons_zero, List.set_cons_succ]
        refine wpAnyH_ready (rs := [12]) (by kernel_rfl) (by simp) ?_
        refine AllReadyH.cons (o := ⟨some 44, _, _, _, _, _⟩) rfl (fun K hK => ?_) AllReadyH.nil
        have B3 := HB0.out _ zz
        have c2 := B3.cell 2
        have hbl := B3.lt
        simp only [List.getElem?_cons_zero, List.getElem?_cons_succ] at c2
        clear B3
        go_simp
        clear c2 hbl
        refine hK.out _ _ trivial (fun hS => ?_)
        clear hK K
        try simp only [Act.put, List.setIfInBounds_toArray, List.set_cons_zero, List.set_cons_succ]
        refine wpAnyH_take (i := 15) (oi := ⟨some 47, _, _, _, _, _⟩) (v := ?_) rfl (by kernel_rfl) (by kernel_rfl) (by kernel_rfl) (fun _ _ _ h => h) (Or.inl ⟨by rfl, ?_⟩) (by assumption) ?_
        rotate_left 1
        · (intro w hSw; (try dsimp only at hSw); go_split_ands; (try go_simp); (try with_reducible rfl))
        try simp only [Act.put, List.setIfInBounds_toArray, List.set_cons_zero, List.set_cons_succ]
        refine wpAnyH_ready (rs := [16]) (by kernel_rfl) (by simp) ?_
        refine AllReadyH.cons (o := ⟨some 48, _, _, _, _, _⟩) rfl (fun K hK => ?_) AllReadyH.nil
        refine step_app _ rfl (.tmp 40) (.tmp 47) 49 rfl 55 i0 _ 3 24 Try.underlying49 hi hz0 hz1 hz2 rfl (by decide) _ _ _ rfl G.a u8 _ _ rfl (R2.out _ zz) (fun u hu => HC2.out u (List.mem_of_mem_drop hu)) (by unfold maxLen; omega) (by omega) ?_
        intro v4 w4 hown4 hgrow4 hfr4 _
        have G1 := G.app hown4 hgrow4 hfr4
        clear hown4 hgrow4 hfr4 G zz
        have G := G1
        have zz := G1.x
        clear G1
        obtain ⟨wq, hwq⟩ : ∃ w, w = w4 := ⟨_, rfl⟩
        rw [← hwq] at G zz ⊢
        clear hwq
        rw [show 0 + k + (l.length - (k + 1)) = k + (l.length - (k + 1)) from by omega] at G
        obtain ⟨v4a, v4c, rfl⟩ := owns_slice G.a
        refine hK.out _ _ trivial (fun hS => ?_)
        clear hK K
        try simp only [Act.put, List.setIfInBounds_toArray, List.set_cons_zero, List.set_cons_succ]
        refine wpAnyH_take (i := 17) (oi := ⟨some 49, _, _, _, _, _⟩) (v := ?_) rfl (by kernel_rfl) (by kernel_rfl) (by kernel_rfl) (fun _ _ _ h => h) (Or.inl ⟨by rfl, ?_⟩) (by assumption) ?_
        rotate_left 1
        · (intro w hSw; (try dsimp only at hSw); go_split_ands; (try go_simp); (try with_reducible rfl))
        try simp only [Act.put, List.setIfInBounds_toArray, List.set_cons_zero, List.set_cons_succ]
        refine wpAnyH_take (i := 18) (oi := ⟨some 50, _, _, _, _, _⟩) (v := ?_) rfl (by kernel_rfl) (by kernel_rfl) (by kernel_rfl) (fun _ _ _ h => h) (Or.inl ⟨by rfl, ?_⟩) (by assumption) ?_
        rotate_left 1
        · (intro w hSw; (try dsimp only at hSw); go_split_ands; (try go_simp); (try with_reducible rfl))
        try simp only [Act.put, List.setIfInBounds_toArray, List.set_cons_zero, List.set_cons_succ]
        refine wpAnyH_ready (rs := [19]) (by kernel_rfl) (by simp) ?_
        refine AllReadyH.cons (o := ⟨none, _, _, _, _, _⟩) rfl (fun K hK => ?_) AllReadyH.nil
        have B3 := HB0.out _ zz
        have c2 := B3.cell 2
        have hbl := B3.lt
        have ff2 := B3.frozen 2
        simp only [List.getElem?_cons_zero, List.getElem?_cons_succ] at c2
        go_simp
        clear c2 hbl ff2
        refine hK.out _ _ trivial (fun hS => ?_)
        clear hK K
        try simp only [Act.put]
        refine wpAnyH_done (by kernel_rfl) ?_ _
        have B3 := HB0.out _ zz
        have B5 := B3.set 2 (.slice v4a (k + (l.length - (k + 1))) v4c)
        have x5 : Ext [bd] wq (wq.setCell ⟨bd, 2, none⟩ (.slice v4a (k + (l.length - (k + 1))) v4c)) := (Ext.refl _ _).setCell (.inl (by simp)) _
        have NB : ∀ q, (Value.slice v4a (k + (l.length - (k + 1))) v4c).ownBlock = some q → q ≠ bd := by intro q hq; have := G.fa q hq; omega
        have O5 := owns_ext G.a x5 (by intro q hq; have := NB q hq; simp; omega)
        have X5 : Ext (bd :: (Value.slice (some ⟨g, 0, none⟩) l.length c).ownBlock.toList) w (wq.setCell ⟨bd, 2, none⟩ (.slice v4a (k + (l.length - (k + 1))) v4c)) := (x1.trans (zz.sub (by simp))).setCell (.inl (by simp)) _
        have F5 : ∀ q, (Value.slice v4a (k + (l.length - (k + 1))) v4c).ownBlock = some q → w.heap.size ≤ q := fun q hq => Nat.le_trans hs1 (G.fa q hq)
        clear B3 x5 G zz x1 HB0 R1 R2
        go_wp2_with fail
        go_ret2
        refine ⟨_, rfl, ⟨by simpa using B5, ?_, NB⟩, X5, F5⟩
        rw [List.nil_append, docV_erase, HER.out] at O5
        rw [show (l.eraseIdx k).length = k + (l.length - (k + 1)) by rw [List.length_eraseIdx_of_lt hk]; omega]
        exact O5
      · skip
        have B3 := HB0.out _ zz
        have c2 := B3.cell 2
        have hbl := B3.lt
        simp only [List.getElem?_cons_zero, List.getElem?_cons_succ] at c2
        clear B3
        go_simp
        clear c2 hbl
        refine hK.out _ _ trivial (fun hS => ?_)
        clear hK K
        try simp only [Act.put, List.setIfInBounds_toArray, List.set_cons_zero, List.set_cons_succ]
        refine wpAnyH_take (i := 15) (oi := ⟨some 47, _, _, _, _, _⟩) (v := ?_) rfl (by kernel_rfl) (by kernel_rfl) (by kernel_rfl) (fun _ _ _ h => h) (Or.inl ⟨by rfl, ?_⟩) (by assumption) ?_
        rotate_left 1
        · (intro w hSw; (try dsimp only at hSw); go_split_ands; (try go_simp); (try with_reducible rfl))
        try simp only [Act.put, List.setIfInBounds_toArray, List.set_cons_zero, List.set_cons_succ]
        refine wpAnyH_ready (rs := [8]) (by kernel_rfl) (by simp) ?_
        refine AllReadyH.cons (o := ⟨some 40, _, _, _, _, _⟩) rfl (fun K hK => ?_) AllReadyH.nil
        refine step_app _ rfl (.tmp 33) (.tmp 39) 49 rfl 55 i0 _ 3 24 Try.underlying49 hi hz0 hz1 hz2 rfl (by decide) _ _ _ rfl G.a (.slice (some ⟨g, 0, none⟩) k c) k _ rfl (R1.out _ zz) (fun u hu => HC2.out u (List.mem_of_mem_take hu)) (by unfold maxLen; omega) (by omega) ?_
        intro v4 w4 hown4 hgrow4 hfr4 _
        have G1 := G.app hown4 hgrow4 hfr4
        clear hown4 hgrow4 hfr4 G zz
        have G := G1
        have zz := G1.x
        clear G1
        obtain ⟨wq, hwq⟩ : ∃ w, w = w4 := ⟨_, rfl⟩
        rw [← hwq] at G zz ⊢
        clear hwq
        refine hK.out _ _ trivial (fun hS => ?_)
        clear hK K
        try simp only [Act.put, List.setIfInBounds_toArray, List.set_cons_zero, List.set_cons_succ]
        refine wpAnyH_ready (rs := [16]) (by kernel_rfl) (by simp) ?_
        refine AllReadyH.cons (o := ⟨some 48, _, _, _, _, _⟩) rfl (fun K hK => ?_) AllReadyH.nil
        refine step_app _ rfl (.tmp 40) (.tmp 47) 49 rfl 55 i0 _ 3 24 Try.underlying49 hi hz0 hz1 hz2 rfl (by decide) _ _ _ rfl G.a u8 _ _ rfl (R2.out _ zz) (fun u hu => HC2.out u (List.mem_of_mem_drop hu)) (by unfold maxLen; omega) (by omega) ?_
        intro v4 w4 hown4 hgrow4 hfr4 _
        have G1 := G.app hown4 hgrow4 hfr4
        clear hown4 hgrow4 hfr4 G zz
        have G := G1
        have zz := G1.x
        clear G1
        obtain ⟨wq, hwq⟩ : ∃ w, w = w4 := ⟨_, rfl⟩
        rw [← hwq] at G zz ⊢
        clear hwq
        rw [show 0 + k + (l.length - (k + 1)) = k + (l.length - (k + 1)) from by omega] at G
        obtain ⟨v4a, v4c, rfl⟩ := owns_slice G.a
        refine hK.out _ _ trivial (fun hS => ?_)
        clear hK K
        try simp only [Act.put, List.setIfInBounds_toArray, List.set_cons_zero, List.set_cons_succ]
        refine wpAnyH_take (i := 17) (oi := ⟨some 49, _, _, _, _, _⟩) (v := ?_) rfl (by kernel_rfl) (by kernel_rfl) (by kernel_rfl) (fun _ _ _ h => h) (Or.inl ⟨by rfl, ?_⟩) (by assumption) ?_
        rotate_left 1
        · (intro w hSw; (try dsimp only at hSw); go_split_ands; (try go_simp); (try with_reducible rfl))
        try simp only [Act.put, List.setIfInBounds_toArray, List.set_cons_zero, List.set_cons_succ]
        refine wpAnyH_take (i := 18) (oi := ⟨some 50, _, _, _, _, _⟩) (v := ?_) rfl (by kernel_rfl) (by kernel_rfl) (by kernel_rfl) (fun _ _ _ h => h) (Or.inl ⟨by rfl, ?_⟩) (by assumption) ?_
        rotate_left 1
        · (intro w hSw; (try dsimp only at hSw); go_split_ands; (try go_simp); (try with_reducible rfl))
        try simp only [Act.put, List.setIfInBounds_toArray, List.set_cons_zero, List.set_cons_succ]
        refine wpAnyH_ready (rs := [19]) (by kernel_rfl) (by simp) ?_
        refine AllReadyH.cons (o := ⟨none, _, _, _, _, _⟩) rfl (fun K hK => ?_) AllReadyH.nil
        have B3 := HB0.out _ zz
        have c2 := B3.cell 2
        have hbl := B3.lt
        have ff2 := B3.frozen 2
        simp only [List.getElem?_cons_zero, List.getElem?_cons_succ] at c2
        go_simp
        clear c2 hbl ff2
        refine hK.out _ _ trivial (fun hS => ?_)
        clear hK K
        try simp only [Act.put]
        refine wpAnyH_done (by kernel_rfl) ?_ _
        have B3 := HB0.out _ zz
        have B5 := B3.set 2 (.slice v4a (k + (l.length - (k + 1))) v4c)
        have x5 : Ext [bd] wq (wq.setCell ⟨bd, 2, none⟩ (.slice v4a (k + (l.length - (k + 1))) v4c)) := (Ext.refl _ _).setCell (.inl (by simp)) _
        have NB : ∀ q, (Value.slice v4a (k + (l.length - (k + 1))) v4c).ownBlock = some q → q ≠ bd := by intro q hq; have := G.fa q hq; omega
        have O5 := owns_ext G.a x5 (by intro q hq; have := NB q hq; simp; omega)
        have X5 : Ext (bd :: (Value.slice (some ⟨g, 0, none⟩) l.length c).ownBlock.toList) w (wq.setCell ⟨bd, 2, none⟩ (.slice v4a (k + (l.length - (k + 1))) v4c)) := (x1.trans (zz.sub (by simp))).setCell (.inl (by simp)) _
        have F5 : ∀ q, (Value.slice v4a (k + (l.length - (k + 1))) v4c).ownBlock = some q → w.heap.size ≤ q := fun q hq => Nat.le_trans hs1 (G.fa q hq)
        clear B3 x5 G zz x1 HB0 R1 R2
        go_wp2_with fail
        go_ret2
        refine ⟨_, rfl, ⟨by simpa using B5, ?_, NB⟩, X5, F5⟩
        rw [List.nil_append, docV_erase, HER.out] at O5
        rw [show (l.eraseIdx k).length = k + (l.length - (k + 1)) by rw [List.length_eraseIdx_of_lt hk]; omega]
        exact O5
    · skip
      have B3 := HB0.out _ zz
      have c2 := B3.cell 2
      have hbl := B3.lt
      simp only [List.getElem?_cons_zero, List.getElem?_cons_succ] at c2
      clear B3
      go_simp
      clear c2 hbl
      refine hK.out _ _ trivial (fun hS => ?_)
      clear hK K
      try simp only [Act.put, List.setIfInBounds_toArray, List.set_cons_zero, List.set_cons_succ]
      refine wpAnyH_take (i := 15) (oi := ⟨some 47, _, _, _, _, _⟩) (v := ?_) rfl (by kernel_rfl) (by kernel_rfl) (by kernel_rfl) (fun _ _ _ h => h) (Or.inl ⟨by rfl, ?_⟩) (by assumption) ?_
      rotate_left 1
      · (intro w hSw; (try dsimp only at hSw); go_split_ands; (try go_simp); (try with_reducible rfl))
      try simp only [Act.put, List.setIfInBounds_toArray, List.set_cons_zero, List.set_cons_succ]
      refine wpAnyH_ready (rs := [5]) (by kernel_rfl) (by simp) ?_
      refine AllReadyH.cons (o := ⟨some 37, _, _, _, _, _⟩) rfl (fun K hK => ?_) AllReadyH.nil
      have B3 := HB0.out _ zz
      have c2 := B3.cell 2
      have hbl := B3.lt
      simp only [List.getElem?_cons_zero, List.getElem?_cons_succ] at c2
      clear B3
      go_simp
      clear c2 hbl
      refine hK.out _ _ trivial (fun hS => ?_)
      clear hK K
      try simp only [Act.put, List.setIfInBounds_toArray, List.set_cons_zero, List.set_cons_succ]
      refine wpAnyH_take (i := 7) (oi := ⟨some 39, _, _, _, _, _⟩) (v := ?_) rfl (by kernel_rfl) (by kernel_rfl) (by kernel_rfl) (fun _ _ _ h => h) (Or.inl ⟨by rfl, ?_⟩) (by assumption) ?_
      rotate_left 1
      · (intro w hSw; (try dsimp only at hSw); go_split_ands; (try go_simp); (try with_reducible rfl))
      try simp only [Act.put, List.setIfInBounds_toArray, List.set_cons_zero, List.set_cons_succ]
      refine wpAnyH_ready (rs := [8]) (by kernel_rfl) (by simp) ?_
      refine AllReadyH.cons (o := ⟨some 40, _, _, _, _, _⟩) rfl (fun K hK => ?_) AllReadyH.nil
      refine step_app _ rfl (.tmp 33) (.tmp 39) 49 rfl 55 i0 _ 3 24 Try.underlying49 hi hz0 hz1 hz2 rfl (by decide) _ _ _ rfl G.a (.slice (some ⟨g, 0, none⟩) k c) k _ rfl (R1.out _ zz) (fun u hu => HC2.out u (List.mem_of_mem_take hu)) (by unfold maxLen; omega) (by omega) ?_
      intro v4 w4 hown4 hgrow4 hfr4 _
      have G1 := G.app hown4 hgrow4 hfr4
      clear hown4 hgrow4 hfr4 G zz
      have G := G1
      have zz := G1.x
      clear G1
      obtain ⟨wq, hwq⟩ : ∃ w, w = w4 := ⟨_, rfl⟩
      rw [← hwq] at G zz ⊢
      clear hwq
      refine hK.out _ _ trivial (fun hS => ?_)
      clear hK K
      try simp only [Act.put, List.setIfInBounds_toArray, List.set_cons_zero, List.set_cons_succ]
      refine wpAnyH_ready (rs := [16]) (by kernel_rfl) (by simp) ?_
      refine AllReadyH.cons (o := ⟨some 48, _, _, _, _, _⟩) rfl (fun K hK => ?_) AllReadyH.nil
      refine step_app _ rfl (.tmp 40) (.tmp 47) 49 rfl 55 i0 _ 3 24 Try.underlying49 hi hz0 hz1 hz2 rfl (by decide) _ _ _ rfl G.a u8 _ _ rfl (R2.out _ zz) (fun u hu => HC2.out u (List.mem_of_mem_drop hu)) (by unfold maxLen; omega) (by omega) ?_
      intro v4 w4 hown4 hgrow4 hfr4 _
      have G1 := G.app hown4 hgrow4 hfr4
      clear hown4 hgrow4 hfr4 G zz
      have G := G1
      have zz := G1.x
      clear G1
      obtain ⟨wq, hwq⟩ : ∃ w, w = w4 := ⟨_, rfl⟩
      rw [← hwq] at G zz ⊢
      clear hwq
      rw [show 0 + k + (l.length - (k + 1)) = k + (l.length - (k + 1)) from by omega] at G
      obtain ⟨v4a, v4c, rfl⟩ := owns_slice G.a
      refine hK.out _ _ trivial (fun hS => ?_)
      clear hK K
      try simp only [Act.put, List.setIfInBounds_toArray, List.set_cons_zero, List.set_cons_succ]
      refine wpAnyH_take (i := 17) (oi := ⟨some 49, _, _, _, _, _⟩) (v := ?_) rfl (by kernel_rfl) (by kernel_rfl) (by kernel_rfl) (fun _ _ _ h => h) (Or.inl ⟨by rfl, ?_⟩) (by assumption) ?_
      rotate_left 1
      · (intro w hSw; (try dsimp only at hSw); go_split_ands; (try go_simp); (try with_reducible rfl))
      try simp only [Act.put, List.setIfInBounds_toArray, List.set_cons_zero, List.set_cons_succ]
      refine wpAnyH_take (i := 18) (oi := ⟨some 50, _, _, _, _, _⟩) (v := ?_) rfl (by kernel_rfl) (by kernel_rfl) (by kernel_rfl) (fun _ _ _ h => h) (Or.inl ⟨by rfl, ?_⟩) (by assumption) ?_
      rotate_left 1
      · (intro w hSw; (try dsimp only at hSw); go_split_ands; (try go_simp); (try with_reducible rfl))
      try simp only [Act.put, List.setIfInBounds_toArray, List.set_cons_zero, List.set_cons_succ]
      refine wpAnyH_ready (rs := [19]) (by kernel_rfl) (by simp) ?_
      refine AllReadyH.cons (o := ⟨none, _, _, _, _, _⟩) rfl (fun K hK => ?_) AllReadyH.nil
      have B3 := HB0.out _ zz
      have c2 := B3.cell 2
      have hbl := B3.lt
      have ff2 := B3.frozen 2
      simp only [List.getElem?_cons_zero, List.getElem?_cons_succ] at c2
      go_simp
      clear c2 hbl ff2
      refine hK.out _ _ trivial (fun hS => ?_)
      clear hK K
      try simp only [Act.put]
      refine wpAnyH_done (by kernel_rfl) ?_ _
      have B3 := HB0.out _ zz
      have B5 := B3.set 2 (.slice v4a (k + (l.length - (k + 1))) v4c)
      have x5 : Ext [bd] wq (wq.setCell ⟨bd, 2, none⟩ (.slice v4a (k + (l.length - (k + 1))) v4c)) := (Ext.refl _ _).setCell (.inl (by simp)) _
      have NB : ∀ q, (Value.slice v4a (k + (l.length - (k + 1))) v4c).ownBlock = some q → q ≠ bd := by intro q hq; have := G.fa q hq; omega
      have O5 := owns_ext G.a x5 (by intro q hq; have := NB q hq; simp; omega)
      have X5 : Ext (bd :: (Value.slice (some ⟨g, 0, none⟩) l.length c).ownBlock.toList) w (wq.setCell ⟨bd, 2, none⟩ (.slice v4a (k + (l.length - (k + 1))) v4c)) := (x1.trans (zz.sub (by simp))).setCell (.inl (by simp)) _
      have F5 : ∀ q, (Value.slice v4a (k + (l.length - (k + 1))) v4c).ownBlock = some q → w.heap.size ≤ q := fun q hq => Nat.le_trans hs1 (G.fa q hq)
      clear B3 x5 G zz x1 HB0 R1 R2
      go_wp2_with fail
      go_ret2
      refine ⟨_, rfl, ⟨by simpa using B5, ?_, NB⟩, X5, F5⟩
      rw [List.nil_append, docV_erase, HER.out] at O5
      rw [show (l.eraseIdx k).length = k + (l.length - (k + 1)) by rw [List.length_eraseIdx_of_lt hk]; omega]
      exact O5
  · skip
    have B3 := HB0.out _ zz
    have c2 := B3.cell 2
    have hbl := B3.lt
    simp only [List.getElem?_cons_zero, List.getElem?_cons_succ] at c2
    clear B3
    go_simp
    clear c2 hbl
    refine hK.out _ _ trivial (fun hS => ?_)
    clear hK K
    try simp only [Act.put, List.setIfInBounds_toArray, List.set_cons_zero, List.set_cons_succ]
    refine wpAnyH_take (i := 7) (oi := ⟨some 39, _, _, _, _, _⟩) (v := ?_) rfl (by kernel_rfl) (by kernel_rfl) (by kernel_rfl) (fun _ _ _ h => h) (Or.inl ⟨by rfl, ?_⟩) (by assumption) ?_
    rotate_left 1
    · (intro w hSw; (try dsimp only at hSw); go_split_ands; (try go_simp); (try with_reducible rfl))
    try simp only [Act.put, List.setIfInBounds_toArray, List.set_cons_zero, List.set_cons_succ]
    refine wpAnyH_ready (rs := [1, 12]) (by kernel_rfl) (by simp) ?_
    refine AllReadyH.cons (o := ⟨some 33, _, _, _, _, _⟩) rfl (fun K hK => ?_) (AllReadyH.cons (o := ⟨some 44, _, _, _, _, _⟩) rfl (fun K hK => ?_) AllReadyH.nil)
    · skip
      go_simp
      have G1 := Grow.new zz 55 3
      have zz' := G1.x
      clear zz
      generalize wq.heap.size = bq at G1 ⊢
      generalize wq.alloc (.cells #[] 55) = wp at G1 zz' ⊢
      have G := G1
      have zz := zz'
      clear G1 zz'
      obtain ⟨wq, hwq⟩ : ∃ w, w = wp := ⟨_, rfl⟩
      rw [← hwq] at G zz ⊢
      clear hwq
      refine hK.out _ _ trivial (fun hS => ?_)
      clear hK K
      try simp only [Act.put, List.setIfInBounds_toArray, List.set_cons_zero, List.set_cons_succ]
      refine wpAnyH_ready (rs := [8, 12]) (by kernel_rfl) (by simp) ?_
      refine AllReadyH.cons (o := ⟨some 40, _, _, _, _, _⟩) rfl (fun K hK => ?_) (AllReadyH.cons (o := ⟨some 44, _, _, _, _, _⟩) rfl (fun K hK => ?_) AllReadyH.nil)
      · skip
        refine step_app _ rfl (.tmp 33) (.tmp 39) 49 rfl 55 i0 _ 3 24 Try.underlying49 hi hz0 hz1 hz2 rfl (by decide) _ _ _ rfl G.a (.slice (some ⟨g, 0, none⟩) k c) k _ rfl (R1.out _ zz) (fun u hu => HC2.out u (List.mem_of_mem_take hu)) (by unfold maxLen; omega) (by omega) ?_
        intro v4 w4 hown4 hgrow4 hfr4 _
        have G1 := G.app hown4 hgrow4 hfr4
        clear hown4 hgrow4 hfr4 G zz
        have G := G1
        have zz := G1.x
        clear G1
        obtain ⟨wq, hwq⟩ : ∃ w, w = w4 := ⟨_, rfl⟩
        rw [← hwq] at G zz ⊢
        clear hwq
        refine hK.out _ _ trivial (fun hS => ?_)
        clear hK K
        try simp only [Act.put, List.setIfInBounds_toArray, List.set_cons_zero, List.set_cons_succ]
        refine wpAnyH_ready (rs := [12]) (by kernel_rfl) (by simp) ?_
        refine AllReadyH.cons (o := ⟨some 44, _, _, _, _, _⟩) rfl (fun K hK => ?_) AllReadyH.nil
        have B3 := HB0.out _ zz
        have c2 := B3.cell 2
        have hbl := B3.lt
        simp only [List.getElem?_cons_zero, List.getElem?_cons_succ] at c2
        clear B3
        go_simp
        clear c2 hbl
        refine hK.out _ _ trivial (fun hS => ?_)
        clear hK K
        try simp only [Act.put, List.setIfInBounds_toArray, List.set_cons_zero, List.set_cons_succ]
        refine wpAnyH_take (i := 15) (oi := ⟨some 47, _, _, _, _, _⟩) (v := ?_) rfl (by kernel_rfl) (by kernel_rfl) (by kernel_rfl) (fun _ _ _ h => h) (Or.inl ⟨by rfl, ?_⟩) (by assumption) ?_
        rotate_left 1
        · (intro w hSw; (try dsimp only at hSw); go_split_ands; (try go_simp); (try with_reducible rfl))
        try simp only [Act.put, List.setIfInBounds_toArray, List.set_cons_zero, List.set_cons_succ]
        refine wpAnyH_ready (rs := [16]) (by kernel_rfl) (by simp) ?_
        refine AllReadyH.cons (o := ⟨some 48, _, _, _, _, _⟩) rfl (fun K hK => ?_) AllReadyH.nil
        refine step_app _ rfl (.tmp 40) (.tmp 47) 49 rfl 55 i0 _ 3 24 Try.underlying49 hi hz0 hz1 hz2 rfl (by decide) _ _ _ rfl G.a u8 _ _ rfl (R2.out _ zz) (fun u hu => HC2.out u (List.mem_of_mem_drop hu)) (by unfold maxLen; omega) (by omega) ?_
        intro v4 w4 hown4 hgrow4 hfr4 _
        have G1 := G.app hown4 hgrow4 hfr4
        clear hown4 hgrow4 hfr4 G zz
        have G := G1
        have zz := G1.x
        clear G1
        obtain ⟨wq, hwq⟩ : ∃ w, w = w4 := ⟨_, rfl⟩
        rw [← hwq] at G zz ⊢
        clear hwq
        rw [show 0 + k + (l.length - (k + 1)) = k + (l.length - (k + 1)) from by omega] at G
        obtain ⟨v4a, v4c, rfl⟩ := owns_slice G.a
        refine hK.out _ _ trivial (fun hS => ?_)
        clear hK K
        try simp only [Act.put, List.setIfInBounds_toArray, List.set_cons_zero, List.set_cons_succ]
        refine wpAnyH_take (i := 17) (oi := ⟨some 49, _, _, _, _, _⟩) (v := ?_) rfl (by kernel_rfl) (by kernel_rfl) (by kernel_rfl) (fun _ _ _ h => h) (Or.inl ⟨by rfl, ?_⟩) (by assumption) ?_
        rotate_left 1
        · (intro w hSw; (try dsimp only at hSw); go_split_ands; (try go_simp); (try with_reducible rfl))
        try simp only [Act.put, List.setIfInBounds_toArray, List.set_cons_zero, List.set_cons_succ]
        refine wpAnyH_take (i := 18) (oi := ⟨some 50, _, _, _, _, _⟩) (v := ?_) rfl (by kernel_rfl) (by kernel_rfl) (by kernel_rfl) (fun _ _ _ h => h) (Or.inl ⟨by rfl, ?_⟩) (by assumption) ?_
        rotate_left 1
        · (intro w hSw; (try dsimp only at hSw); go_split_ands; (try go_simp); (try with_reducible rfl))
        try simp only [Act.put, List.setIfInBounds_toArray, List.set_cons_zero, List.set_cons_succ]
        refine wpAnyH_ready (rs := [19]) (by kernel_rfl) (by simp) ?_
        refine AllReadyH.cons (o := ⟨none, _, _, _, _, _⟩) rfl (fun K hK => ?_) AllReadyH.nil
        have B3 := HB0.out _ zz
        have c2 := B3.cell 2
        have hbl := B3.lt
        have ff2 := B3.frozen 2
        simp only [List.getElem?_cons_zero, List.getElem?_cons_succ] at c2
        go_simp
        clear c2 hbl ff2
        refine hK.out _ _ trivial (fun hS => ?_)
        clear hK K
        try simp only [Act.put]
        refine wpAnyH_done (by kernel_rfl) ?_ _
        have B3 := HB0.out _ zz
        have B5 := B3.set 2 (.slice v4a (k + (l.length - (k + 1))) v4c)
        have x5 : Ext [bd] wq (wq.setCell ⟨bd, 2, none⟩ (.slice v4a (k + (l.length - (k + 1))) v4c)) := (Ext.refl _ _).setCell (.inl (by simp)) _
        have NB : ∀ q, (Value.slice v4a (k + (l.length - (k + 1))) v4c).ownBlock = some q → q ≠ bd := by intro q hq; have := G.fa q hq; omega
        have O5 := owns_ext G.a x5 (by intro q hq; have := NB q hq; simp; omega)
        have X5 : Ext (bd :: (Value.slice (some ⟨g, 0, none⟩) l.length c).ownBlock.toList) w (wq.setCell ⟨bd, 2, none⟩ (.slice v4a (k + (l.length - (k + 1))) v4c)) := (x1.trans (zz.sub (by simp))).setCell (.inl (by simp)) _
        have F5 : ∀ q, (Value.slice v4a (k + (l.length - (k + 1))) v4c).ownBlock = some q → w.heap.size ≤ q := fun q hq => Nat.le_trans hs1 (G.fa q hq)
        clear B3 x5 G zz x1 HB0 R1 R2
        go_wp2_with fail
        go_ret2
        refine ⟨_, rfl, ⟨by simpa using B5, ?_, NB⟩, X5, F5⟩
        rw [List.nil_append, docV_erase, HER.out] at O5
        rw [show (l.eraseIdx k).length = k + (l.length - (k + 1)) by rw [List.length_eraseIdx_of_lt hk]; omega]
        exact O5
      · skip
        have B3 := HB0.out _ zz
        have c2 := B3.cell 2
        have hbl := B3.lt
        simp only [List.getElem?_cons_zero, List.getElem?_cons_succ] at c2
        clear B3
        go_simp
        clear c2 hbl
        refine hK.out _ _ trivial (fun hS => ?_)
        clear hK K
        try simp only [Act.put, List.setIfInBounds_toArray, List.set_cons_zero, List.set_cons_succ]
        refine wpAnyH_take (i := 15) (oi := ⟨some 47, _, _, _, _, _⟩) (v := ?_) rfl (by kernel_rfl) (by kernel_rfl) (by kernel_rfl) (fun _ _ _ h => h) (Or.inl ⟨by rfl, ?_⟩) (by assumption) ?_
        rotate_left 1
        · (intro w hSw; (try dsimp only at hSw); go_split_ands; (try go_simp); (try with_reducible rfl))
        try simp only [Act.put, List.setIfInBounds_toArray, List.set_cons_zero, List.set_cons_succ]
        refine wpAnyH_ready (rs := [8]) (by kernel_rfl) (by simp) ?_
        refine AllReadyH.cons (o := ⟨some 40, _, _, _, _, _⟩) rfl (fun K hK => ?_) AllReadyH.nil
        refine step_app _ rfl (.tmp 33) (.tmp 39) 49 rfl 55 i0 _ 3 24 Try.underlying49 hi hz0 hz1 hz2 rfl (by decide) _ _ _ rfl G.a (.slice (some ⟨g, 0, none⟩) k c) k _ rfl (R1.out _ zz) (fun u hu => HC2.out u (List.mem_of_mem_take hu)) (by unfold maxLen; omega) (by omega) ?_
        intro v4 w4 hown4 hgrow4 hfr4 _
        have G1 := G.app hown4 hgrow4 hfr4
        clear hown4 hgrow4 hfr4 G zz
        have G := G1
        have zz := G1.x
        clear G1
        obtain ⟨wq, hwq⟩ : ∃ w, w = w4 := ⟨_, rfl⟩
        rw [← hwq] at G zz ⊢
        clear hwq
        refine hK.out _ _ trivial (fun hS => ?_)
        clear hK K
        try simp only [Act.put, List.setIfInBounds_toArray, List.set_cons_zero, List.set_cons_succ]
        refine wpAnyH_ready (rs := [16]) (by kernel_rfl) (by simp) ?_
        refine AllReadyH.cons (o := ⟨some 48, _, _, _, _, _⟩) rfl (fun K hK => ?_) AllReadyH.nil
        refine step_app _ rfl (.tmp 40) (.tmp 47) 49 rfl 55 i0 _ 3 24 Try.underlying49 hi hz0 hz1 hz2 rfl (by decide) _ _ _ rfl G.a u8 _ _ rfl (R2.out _ zz) (fun u hu => HC2.out u (List.mem_of_mem_drop hu)) (by unfold maxLen; omega) (by omega) ?_
        intro v4 w4 hown4 hgrow4 hfr4 _
        have G1 := G.app hown4 hgrow4 hfr4
        clear hown4 hgrow4 hfr4 G zz
        have G := G1
        have zz := G1.x
        clear G1
        obtain ⟨wq, hwq⟩ : ∃ w, w = w4 := ⟨_, rfl⟩
        rw [← hwq] at G zz ⊢
        clear hwq
        rw [show 0 + k + (l.length - (k + 1)) = k + (l.length - (k + 1)) from by omega] at G
        obtain ⟨v4a, v4c, rfl⟩ := owns_slice G.a
        refine hK.out _ _ trivial (fun hS => ?_)
        clear hK K
        try simp only [Act.put, List.setIfInBounds_toArray, List.set_cons_zero, List.set_cons_succ]
        refine wpAnyH_take (i := 17) (oi := ⟨some 49, _, _, _, _, _⟩) (v := ?_) rfl (by kernel_rfl) (by kernel_rfl) (by kernel_rfl) (fun _ _ _ h => h) (Or.inl ⟨by rfl, ?_⟩) (by assumption) ?_
        rotate_left 1
        · (intro w hSw; (try dsimp only at hSw); go_split_ands; (try go_simp); (try with_reducible rfl))
        try simp only [Act.put, List.setIfInBounds_toArray, List.set_cons_zero, List.set_cons_succ]
        refine wpAnyH_take (i := 18) (oi := ⟨some 50, _, _, _, _, _⟩) (v := ?_) rfl (by kernel_rfl) (by kernel_rfl) (by kernel_rfl) (fun _ _ _ h => h) (Or.inl ⟨by rfl, ?_⟩) (by assumption) ?_
        rotate_left 1
        · (intro w hSw; (try dsimp only at hSw); go_split_ands; (try go_simp); (try with_reducible rfl))
        try simp only [Act.put, List.setIfInBounds_toArray, List.set_cons_zero, List.set_cons_succ]
        refine wpAnyH_ready (rs := [19]) (by kernel_rfl) (by simp) ?_
        refine AllReadyH.cons (o := ⟨none, _, _, _, _, _⟩) rfl (fun K hK => ?_) AllReadyH.nil
        have B3 := HB0.out _ zz
        have c2 := B3.cell 2
        have hbl := B3.lt
        have ff2 := B3.frozen 2
        simp only [List.getElem?_cons_zero, List.getElem?_cons_succ] at c2
        go_simp
        clear c2 hbl ff2
        refine hK.out _ _ trivial (fun hS => ?_)
        clear hK K
        try simp only [Act.put]
        refine wpAnyH_done (by kernel_rfl) ?_ _
        have B3 := HB0.out _ zz
        have B5 := B3.set 2 (.slice v4a (k + (l.length - (k + 1))) v4c)
        have x5 : Ext [bd] wq (wq.setCell ⟨bd, 2, none⟩ (.slice v4a (k + (l.length - (k + 1))) v4c)) := (Ext.refl _ _).setCell (.inl (by simp)) _
        have NB : ∀ q, (Value.slice v4a (k + (l.length - (k + 1))) v4c).ownBlock = some q → q ≠ bd := by intro q hq; have := G.fa q hq; omega
        have O5 := owns_ext G.a x5 (by intro q hq; have := NB q hq; simp; omega)
        have X5 : Ext (bd :: (Value.slice (some ⟨g, 0, none⟩) l.length c).ownBlock.toList) w (wq.setCell ⟨bd, 2, none⟩ (.slice v4a (k + (l.length - (k + 1))) v4c)) := (x1.trans (zz.sub (by simp))).setCell (.inl (by simp)) _
        have F5 : ∀ q, (Value.slice v4a (k + (l.length - (k + 1))) v4c).ownBlock = some q → w.heap.size ≤ q := fun q hq => Nat.le_trans hs1 (G.fa q hq)
        clear B3 x5 G zz x1 HB0 R1 R2
        go_wp2_with fail
        go_ret2
        refine ⟨_, rfl, ⟨by simpa using B5, ?_, NB⟩, X5, F5⟩
        rw [List.nil_append, docV_erase, HER.out] at O5
        rw [show (l.eraseIdx k).length = k + (l.length - (k + 1)) by rw [List.length_eraseIdx_of_lt hk]; omega]
        exact O5
    · skip
      have B3 := HB0.out _ zz
      have c2 := B3.cell 2
      have hbl := B3.lt
      simp only [List.getElem?_cons_zero, List.getElem?_cons_succ] at c2
      clear B3
      go_simp
      clear c2 hbl
      refine hK.out _ _ trivial (fun hS => ?_)
      clear hK K
      try simp only [Act.put, List.setIfInBounds_toArray, List.set_cons_zero, List.set_cons_succ]
      refine wpAnyH_take (i := 15) (oi := ⟨some 47, _, _, _, _, _⟩) (v := ?_) rfl (by kernel_rfl) (by kernel_rfl) (by kernel_rfl) (fun _ _ _ h => h) (Or.inl ⟨by rfl, ?_⟩) (by assumption) ?_
      rotate_left 1
      · (intro w hSw; (try dsimp only at hSw); go_split_ands; (try go_simp); (try with_reducible rfl))
      try simp only [Act.put, List.setIfInBounds_toArray, List.set_cons_zero, List.set_cons_succ]
      refine wpAnyH_ready (rs := [1]) (by kernel_rfl) (by simp) ?_
      refine AllReadyH.cons (o := ⟨some 33, _, _, _, _, _⟩) rfl (fun K hK => ?_) AllReadyH.nil
      go_simp
      have G1 := Grow.new zz 55 3
      have zz' := G1.x
      clear zz
      generalize wq.heap.size = bq at G1 ⊢
      generalize wq.alloc (.cells #[] 55) = wp at G1 zz' ⊢
      have G := G1
      have zz := zz'
      clear G1 zz'
      obtain ⟨wq, hwq⟩ : ∃ w, w = wp := ⟨_, rfl⟩
      rw [← hwq] at G zz ⊢
      clear hwq
      refine hK.out _ _ trivial (fun hS => ?_)
      clear hK K
      try simp only [Act.put, List.setIfInBounds_toArray, List.set_cons_zero, List.set_cons_succ]
      refine wpAnyH_ready (rs := [8]) (by kernel_rfl) (by simp) ?_
      refine AllReadyH.cons (o := ⟨some 40, _, _, _, _, _⟩) rfl (fun K hK => ?_) AllReadyH.nil
      refine step_app _ rfl (.tmp 33) (.tmp 39) 49 rfl 55 i0 _ 3 24 Try.underlying49 hi hz0 hz1 hz2 rfl (by decide) _ _ _ rfl G.a (.slice (some ⟨g, 0, none⟩) k c) k _ rfl (R1.out _ zz) (fun u hu => HC2.out u (List.mem_of_mem_take hu)) (by unfold maxLen; omega) (by omega) ?_
      intro v4 w4 hown4 hgrow4 hfr4 _
      have G1 := G.app hown4 hgrow4 hfr4
      clear hown4 hgrow4 hfr4 G zz
      have G := G1
      have zz := G1.x
      clear G1
      obtain ⟨wq, hwq⟩ : ∃ w, w = w4 := ⟨_, rfl⟩
      rw [← hwq] at G zz ⊢
      clear hwq
      refine hK.out _ _ trivial (fun hS => ?_)
      clear hK K
      try simp only [Act.put, List.setIfInBounds_toArray, List.set_cons_zero, List.set_cons_succ]
      refine wpAnyH_ready (rs := [16]) (by kernel_rfl) (by simp) ?_
      refine AllReadyH.cons (o := ⟨some 48, _, _, _, _, _⟩) rfl (fun K hK => ?_) AllReadyH.nil
      refine step_app _ rfl (.tmp 40) (.tmp 47) 49 rfl 55 i0 _ 3 24 Try.underlying49 hi hz0 hz1 hz2 rfl (by decide) _ _ _ rfl G.a u8 _ _ rfl (R2.out _ zz) (fun u hu => HC2.out u (List.mem_of_mem_drop hu)) (by unfold maxLen; omega) (by omega) ?_
      intro v4 w4 hown4 hgrow4 hfr4 _
      have G1 := G.app hown4 hgrow4 hfr4
      clear hown4 hgrow4 hfr4 G zz
      have G := G1
      have zz := G1.x
      clear G1
      obtain ⟨wq, hwq⟩ : ∃ w, w = w4 := ⟨_, rfl⟩
      rw [← hwq] at G zz ⊢
      clear hwq
      rw [show 0 + k + (l.length - (k + 1)) = k + (l.length - (k + 1)) from by omega] at G
      obtain ⟨v4a, v4c, rfl⟩ := owns_slice G.a
      refine hK.out _ _ trivial (fun hS => ?_)
      clear hK K
      try simp only [Act.put, List.setIfInBounds_toArray, List.set_cons_zero, List.set_cons_succ]
      refine wpAnyH_take (i := 17) (oi := ⟨some 49, _, _, _, _, _⟩) (v := ?_) rfl (by kernel_rfl) (by kernel_rfl) (by kernel_rfl) (fun _ _ _ h => h) (Or.inl ⟨by rfl, ?_⟩) (by assumption) ?_
      rotate_left 1
      · (intro w hSw; (try dsimp only at hSw); go_split_ands; (try go_simp); (try with_reducible rfl))
      try simp only [Act.put, List.setIfInBounds_toArray, List.set_cons_zero, List.set_cons_succ]
      refine wpAnyH_take (i := 18) (oi := ⟨some 50, _, _, _, _, _⟩) (v := ?_) rfl (by kernel_rfl) (by kernel_rfl) (by kernel_rfl) (fun _ _ _ h => h) (Or.inl ⟨by rfl, ?_⟩) (by assumption) ?_
      rotate_left 1
      · (intro w hSw; (try dsimp only at hSw); go_split_ands; (try go_simp); (try with_reducible rfl))
      try simp only [Act.put, List.setIfInBounds_toArray, List.set_cons_zero, List.set_cons_succ]
      refine wpAnyH_ready (rs := [19]) (by kernel_rfl) (by simp) ?_
      refine AllReadyH.cons (o := ⟨none, _, _, _, _, _⟩) rfl (fun K hK => ?_) AllReadyH.nil
      have B3 := HB0.out _ zz
      have c2 := B3.cell 2
      have hbl := B3.lt
      have ff2 := B3.frozen 2
      simp only [List.getElem?_cons_zero, List.getElem?_cons_succ] at c2
      go_simp
      clear c2 hbl ff2
      refine hK.out _ _ trivial (fun hS => ?_)
      clear hK K
      try simp only [Act.put]
      refine wpAnyH_done (by kernel_rfl) ?_ _
      have B3 := HB0.out _ zz
      have B5 := B3.set 2 (.slice v4a (k + (l.length - (k + 1))) v4c)
      have x5 : Ext [bd] wq (wq.setCell ⟨bd, 2, none⟩ (.slice v4a (k + (l.length - (k + 1))) v4c)) := (Ext.refl _ _).setCell (.inl (by simp)) _
      have NB : ∀ q, (Value.slice v4a (k + (l.length - (k + 1))) v4c).ownBlock = some q → q ≠ bd := by intro q hq; have := G.fa q hq; omega
      have O5 := owns_ext G.a x5 (by intro q hq; have := NB q hq; simp; omega)
      have X5 : Ext (bd :: (Value.slice (some ⟨g, 0, none⟩) l.length c).ownBlock.toList) w (wq.setCell ⟨bd, 2, none⟩ (.slice v4a (k + (l.length - (k + 1))) v4c)) := (x1.trans (zz.sub (by simp))).setCell (.inl (by simp)) _
      have F5 : ∀ q, (Value.slice v4a (k + (l.length - (k + 1))) v4c).ownBlock = some q → w.heap.size ≤ q := fun q hq => Nat.le_trans hs1 (G.fa q hq)
      clear B3 x5 G zz x1 HB0 R1 R2
      go_wp2_with fail
      go_ret2
      refine ⟨_, rfl, ⟨by simpa using B5, ?_, NB⟩, X5, F5⟩
      rw [List.nil_append, docV_erase, HER.out] at O5
      rw [show (l.eraseIdx k).length = k + (l.length - (k + 1)) by rw [List.length_eraseIdx_of_lt hk]; omega]
      exact O5
  · skip
    have B3 := HB0.out _ zz
    have c2 := B3.cell 2
    have hbl := B3.lt
    simp only [List.getElem?_cons_zero, List.getElem?_cons_succ] at c2
    clear B3
    go_simp
    clear c2 hbl
    refine hK.out _ _ trivial (fun hS => ?_)
    clear hK K
    try simp only [Act.put, List.setIfInBounds_toArray, List.set_cons_zero, List.set_cons_succ]
    refine wpAnyH_take (i := 15) (oi := ⟨some 47, _, _, _, _, _⟩) (v := ?_) rfl (by kernel_rfl) (by kernel_rfl) (by kernel_rfl) (fun _ _ _ h => h) (Or.inl ⟨by rfl, ?_⟩) (by assumption) ?_
    rotate_left 1
    · (intro w hSw; (try dsimp only at hSw); go_split_ands; (try go_simp); (try with_reducible rfl))
    try simp only [Act.put, List.setIfInBounds_toArray, List.set_cons_zero, List.set_cons_succ]
    refine wpAnyH_ready (rs := [1, 5]) (by kernel_rfl) (by simp) ?_
    refine AllReadyH.cons (o := ⟨some 33, _, _, _, _, _⟩) rfl (fun K hK => ?_) (AllReadyH.cons (o := ⟨some 37, _, _, _, _, _⟩) rfl (fun K hK => ?_) AllReadyH.nil)
    · skip
      go_simp
      have G1 := Grow.new zz 55 3
      have zz' := G1.x
      clear zz
      generalize wq.heap.size = bq at G1 ⊢
      generalize wq.alloc (.cells #[] 55) = wp at G1 zz' ⊢
      have G := G1
      have zz := zz'
      clear G1 zz'
      obtain ⟨wq, hwq⟩ : ∃ w, w = wp := ⟨_, rfl⟩
      rw [← hwq] at G zz ⊢
      clear hwq
      refine hK.out _ _ trivial (fun hS => ?_)
      clear hK K
      try simp only [Act.put, List.setIfInBounds_toArray, List.set_cons_zero, List.set_cons_succ]
      refine wpAnyH_ready (rs := [5]) (by kernel_rfl) (by simp) ?_
      refine AllReadyH.cons (o := ⟨some 37, _, _, _, _, _⟩) rfl (fun K hK => ?_) AllReadyH.nil
      have B3 := HB0.out _ zz
      have c2 := B3.cell 2
      have hbl := B3.lt
      simp only [List.getElem?_cons_zero, List.getElem?_cons_succ] at c2
      clear B3
      go_simp
      clear c2 hbl
      refine hK.out _ _ trivial (fun hS => ?_)
      clear hK K
      try simp only [Act.put, List.setIfInBounds_toArray, List.set_cons_zero, List.set_cons_succ]
      refine wpAnyH_take (i := 7) (oi := ⟨some 39, _, _, _, _, _⟩) (v := ?_) rfl (by kernel_rfl) (by kernel_rfl) (by kernel_rfl) (fun _ _ _ h => h) (Or.inl ⟨by rfl, ?_⟩) (by assumption) ?_
      rotate_left 1
      · (intro w hSw; (try dsimp only at hSw); go_split_ands; (try go_simp); (try with_reducible rfl))
      try simp only [Act.put, List.setIfInBounds_toArray, List.set_cons_zero, List.set_cons_succ]
      refine wpAnyH_ready (rs := [8]) (by kernel_rfl) (by simp) ?_
      refine AllReadyH.cons (o := ⟨some 40, _, _, _, _, _⟩) rfl (fun K hK => ?_) AllReadyH.nil
      refine step_app _ rfl (.tmp 33) (.tmp 39) 49 rfl 55 i0 _ 3 24 Try.underlying49 hi hz0 hz1 hz2 rfl (by decide) _ _ _ rfl G.a (.slice (some ⟨g, 0, none⟩) k c) k _ rfl (R1.out _ zz) (fun u hu => HC2.out u (List.mem_of_mem_take hu)) (by unfold maxLen; omega) (by omega) ?_
      intro v4 w4 hown4 hgrow4 hfr4 _
      have G1 := G.app hown4 hgrow4 hfr4
      clear hown4 hgrow4 hfr4 G zz
      have G := G1
      have zz := G1.x
      clear G1
      obtain ⟨wq, hwq⟩ : ∃ w, w = w4 := ⟨_, rfl⟩
      rw [← hwq] at G zz ⊢
      clear hwq
      refine hK.out _ _ trivial (fun hS => ?_)
      clear hK K
      try simp only [Act.put, List.setIfInBounds_toArray, List.set_cons_zero, List.set_cons_succ]
      refine wpAnyH_ready (rs := [16]) (by kernel_rfl) (by simp) ?_
      refine AllReadyH.cons (o := ⟨some 48, _, _, _, _, _⟩) rfl (fun K hK => ?_) AllReadyH.nil
      refine step_app _ rfl (.tmp 40) (.tmp 47) 49 rfl 55 i0 _ 3 24 Try.underlying49 hi hz0 hz1 hz2 rfl (by decide) _ _ _ rfl G.a u8 _ _ rfl (R2.out _ zz) (fun u hu => HC2.out u (List.mem_of_mem_drop hu)) (by unfold maxLen; omega) (by omega) ?_
      intro v4 w4 hown4 hgrow4 hfr4 _
      have G1 := G.app hown4 hgrow4 hfr4
      clear hown4 hgrow4 hfr4 G zz
      have G := G1
      have zz := G1.x
      clear G1
      obtain ⟨wq, hwq⟩ : ∃ w, w = w4 := ⟨_, rfl⟩
      rw [← hwq] at G zz ⊢
      clear hwq
      rw [show 0 + k + (l.length - (k + 1)) = k + (l.length - (k + 1)) from by omega] at G
      obtain ⟨v4a, v4c, rfl⟩ := owns_slice G.a
      refine hK.out _ _ trivial (fun hS => ?_)
      clear hK K
      try simp only [Act.put, List.setIfInBounds_toArray, List.set_cons_zero, List.set_cons_succ]
      refine wpAnyH_take (i := 17) (oi := ⟨some 49, _, _, _, _, _⟩) (v := ?_) rfl (by kernel_rfl) (by kernel_rfl) (by kernel_rfl) (fun _ _ _ h => h) (Or.inl ⟨by rfl, ?_⟩) (by assumption) ?_
      rotate_left 1
      · (intro w hSw; (try dsimp only at hSw); go_split_ands; (try go_simp); (try with_reducible rfl))
      try simp only [Act.put, List.setIfInBounds_toArray, List.set_cons_zero, List.set_cons_succ]
      refine wpAnyH_take (i := 18) (oi := ⟨some 50, _, _, _, _, _⟩) (v := ?_) rfl (by kernel_rfl) (by kernel_rfl) (by kernel_rfl) (fun _ _ _ h => h) (Or.inl ⟨by rfl, ?_⟩) (by assumption) ?_
      rotate_left 1
      · (intro w hSw; (try dsimp only at hSw); go_split_ands; (try go_simp); (try with_reducible rfl))
      try simp only [Act.put, List.setIfInBounds_toArray, List.set_cons_zero, List.set_cons_succ]
      refine wpAnyH_ready (rs := [19]) (by kernel_rfl) (by simp) ?_
      refine AllReadyH.cons (o := ⟨none, _, _, _, _, _⟩) rfl (fun K hK => ?_) AllReadyH.nil
      have B3 := HB0.out _ zz
      have c2 := B3.cell 2
      have hbl := B3.lt
      have ff2 := B3.frozen 2
      simp only [List.getElem?_cons_zero, List.getElem?_cons_succ] at c2
      go_simp
      clear c2 hbl ff2
      refine hK.out _ _ trivial (fun hS => ?_)
      clear hK K
      try simp only [Act.put]
      refine wpAnyH_done (by kernel_rfl) ?_ _
      have B3 := HB0.out _ zz
      have B5 := B3.set 2 (.slice v4a (k + (l.length - (k + 1))) v4c)
      have x5 : Ext [bd] wq (wq.setCell ⟨bd, 2, none⟩ (.slice v4a (k + (l.length - (k + 1))) v4c)) := (Ext.refl _ _).setCell (.inl (by simp)) _
      have NB : ∀ q, (Value.slice v4a (k + (l.length - (k + 1))) v4c).ownBlock = some q → q ≠ bd := by intro q hq; have := G.fa q hq; omega
      have O5 := owns_ext G.a x5 (by intro q hq; have := NB q hq; simp; omega)
      have X5 : Ext (bd :: (Value.slice (some ⟨g, 0, none⟩) l.length c).ownBlock.toList) w (wq.setCell ⟨bd, 2, none⟩ (.slice v4a (k + (l.length - (k + 1))) v4c)) := (x1.trans (zz.sub (by simp))).setCell (.inl (by simp)) _
      have F5 : ∀ q, (Value.slice v4a (k + (l.length - (k + 1))) v4c).ownBlock = some q → w.heap.size ≤ q := fun q hq => Nat.le_trans hs1 (G.fa q hq)
      clear B3 x5 G zz x1 HB0 R1 R2
      go_wp2_with fail
      go_ret2
      refine ⟨_, rfl, ⟨by simpa using B5, ?_, NB⟩, X5, F5⟩
      rw [List.nil_append, docV_erase, HER.out] at O5
      rw [show (l.eraseIdx k).length = k + (l.length - (k + 1)) by rw [List.length_eraseIdx_of_lt hk]; omega]
      exact O5
    · skip
      have B3 := HB0.out _ zz
      have c2 := B3.cell 2
      have hbl := B3.lt
      simp only [List.getElem?_cons_zero, List.getElem?_cons_succ] at c2
      clear B3
      go_simp
      clear c2 hbl
      refine hK.out _ _ trivial (fun hS => ?_)
      clear hK K
      try simp only [Act.put, List.setIfInBounds_toArray, List.set_cons_zero, List.set_cons_succ]
      refine wpAnyH_take (i := 7) (oi := ⟨some 39, _, _, _, _, _⟩) (v := ?_) rfl (by kernel_rfl) (by kernel_rfl) (by kernel_rfl) (fun _ _ _ h => h) (Or.inl ⟨by rfl, ?_⟩) (by assumption) ?_
      rotate_left 1
      · (intro w hSw; (try dsimp only at hSw); go_split_ands; (try go_simp); (try with_reducible rfl))
      try simp only [Act.put, List.setIfInBounds_toArray, List.set_cons_zero, List.set_cons_succ]
      refine wpAnyH_ready (rs := [1]) (by kernel_rfl) (by simp) ?_
      refine AllReadyH.cons (o := ⟨some 33, _, _, _, _, _⟩) rfl (fun K hK => ?_) AllReadyH.nil
      go_simp
      have G1 := Grow.new zz 55 3
      have zz' := G1.x
      clear zz
      generalize wq.heap.size = bq at G1 ⊢
      generalize wq.alloc (.cells #[] 55) = wp at G1 zz' ⊢
      have G := G1
      have zz := zz'
      clear G1 zz'
      obtain ⟨wq, hwq⟩ : ∃ w, w = wp := ⟨_, rfl⟩
      rw [← hwq] at G zz ⊢
      clear hwq
      refine hK.out _ _ trivial (fun hS => ?_)
      clear hK K
      try simp only [Act.put, List.setIfInBounds_toArray, List.set_cons_zero, List.set_cons_succ]
      refine wpAnyH_ready (rs := [8]) (by kernel_rfl) (by simp) ?_
      refine AllReadyH.cons (o := ⟨some 40, _, _, _, _, _⟩) rfl (fun K hK => ?_) AllReadyH.nil
      refine step_app _ rfl (.tmp 33) (.tmp 39) 49 rfl 55 i0 _ 3 24 Try.underlying49 hi hz0 hz1 hz2 rfl (by decide) _ _ _ rfl G.a (.slice (some ⟨g, 0, none⟩) k c) k _ rfl (R1.out _ zz) (fun u hu => HC2.out u (List.mem_of_mem_take hu)) (by unfold maxLen; omega) (by omega) ?_
      intro v4 w4 hown4 hgrow4 hfr4 _
      have G1 := G.app hown4 hgrow4 hfr4
      clear hown4 hgrow4 hfr4 G zz
      have G := G1
      have zz := G1.x
      clear G1
      obtain ⟨wq, hwq⟩ : ∃ w, w = w4 := ⟨_, rfl⟩
      rw [← hwq] at G zz ⊢
      clear hwq
      refine hK.out _ _ trivial (fun hS => ?_)
      clear hK K
      try simp only [Act.put, List.setIfInBounds_toArray, List.set_cons_zero, List.set_cons_succ]
      refine wpAnyH_ready (rs := [16]) (by kernel_rfl) (by simp) ?_
      refine AllReadyH.cons (o := ⟨some 48, _, _, _, _, _⟩) rfl (fun K hK => ?_) AllReadyH.nil
      refine step_app _ rfl (.tmp 40) (.tmp 47) 49 rfl 55 i0 _ 3 24 Try.underlying49 hi hz0 hz1 hz2 rfl (by decide) _ _ _ rfl G.a u8 _ _ rfl (R2.out _ zz) (fun u hu => HC2.out u (List.mem_of_mem_drop hu)) (by unfold maxLen; omega) (by omega) ?_
      intro v4 w4 hown4 hgrow4 hfr4 _
      have G1 := G.app hown4 hgrow4 hfr4
      clear hown4 hgrow4 hfr4 G zz
      have G := G1
      have zz := G1.x
      clear G1
      obtain ⟨wq, hwq⟩ : ∃ w, w = w4 := ⟨_, rfl⟩
      rw [← hwq] at G zz ⊢
      clear hwq
      rw [show 0 + k + (l.length - (k + 1)) = k + (l.length - (k + 1)) from by omega] at G
      obtain ⟨v4a, v4c, rfl⟩ := owns_slice G.a
      refine hK.out _ _ trivial (fun hS => ?_)
      clear hK K
      try simp only [Act.put, List.setIfInBounds_toArray, List.set_cons_zero, List.set_cons_succ]
      refine wpAnyH_take (i := 17) (oi := ⟨some 49, _, _, _, _, _⟩) (v := ?_) rfl (by kernel_rfl) (by kernel_rfl) (by kernel_rfl) (fun _ _ _ h => h) (Or.inl ⟨by rfl, ?_⟩) (by assumption) ?_
      rotate_left 1
      · (intro w hSw; (try dsimp only at hSw); go_split_ands; (try go_simp); (try with_reducible rfl))
      try simp only [Act.put, List.setIfInBounds_toArray, List.set_cons_zero, List.set_cons_succ]
      refine wpAnyH_take (i := 18) (oi := ⟨some 50, _, _, _, _, _⟩) (v := ?_) rfl (by kernel_rfl) (by kernel_rfl) (by kernel_rfl) (fun _ _ _ h => h) (Or.inl ⟨by rfl, ?_⟩) (by assumption) ?_
      rotate_left 1
      · (intro w hSw; (try dsimp only at hSw); go_split_ands; (try go_simp); (try with_reducible rfl))
      try simp only [Act.put, List.setIfInBounds_toArray, List.set_cons_zero, List.set_cons_succ]
      refine wpAnyH_ready (rs := [19]) (by kernel_rfl) (by simp) ?_
      refine AllReadyH.cons (o := ⟨none, _, _, _, _, _⟩) rfl (fun K hK => ?_) AllReadyH.nil
      have B3 := HB0.out _ zz
      have c2 := B3.cell 2
      have hbl := B3.lt
      have ff2 := B3.frozen 2
      simp only [List.getElem?_cons_zero, List.getElem?_cons_succ] at c2
      go_simp
      clear c2 hbl ff2
      refine hK.out _ _ trivial (fun hS => ?_)
      clear hK K
      try simp only [Act.put]
      refine wpAnyH_done (by kernel_rfl) ?_ _
      have B3 := HB0.out _ zz
      have B5 := B3.set 2 (.slice v4a (k + (l.length - (k + 1))) v4c)
      have x5 : Ext [bd] wq (wq.setCell ⟨bd, 2, none⟩ (.slice v4a (k + (l.length - (k + 1))) v4c)) := (Ext.refl _ _).setCell (.inl (by simp)) _
      have NB : ∀ q, (Value.slice v4a (k + (l.length - (k + 1))) v4c).ownBlock = some q → q ≠ bd := by intro q hq; have := G.fa q hq; omega
      have O5 := owns_ext G.a x5 (by intro q hq; have := NB q hq; simp; omega)
      have X5 : Ext (bd :: (Value.slice (some ⟨g, 0, none⟩) l.length c).ownBlock.toList) w (wq.setCell ⟨bd, 2, none⟩ (.slice v4a (k + (l.length - (k + 1))) v4c)) := (x1.trans (zz.sub (by simp))).setCell (.inl (by simp)) _
      have F5 : ∀ q, (Value.slice v4a (k + (l.length - (k + 1))) v4c).ownBlock = some q → w.heap.size ≤ q := fun q hq => Nat.le_trans hs1 (G.fa q hq)
      clear B3 x5 G zz x1 HB0 R1 R2
      go_wp2_with fail
      go_ret2
      refine ⟨_, rfl, ⟨by simpa using B5, ?_, NB⟩, X5, F5⟩
      rw [List.nil_append, docV_erase, HER.out] at O5
      rw [show (l.eraseIdx k).length = k + (l.length - (k + 1)) by rw [List.length_eraseIdx_of_lt hk]; omega]
      exact O5
end Go.Proofs.Ytknghmogfbpclaa
