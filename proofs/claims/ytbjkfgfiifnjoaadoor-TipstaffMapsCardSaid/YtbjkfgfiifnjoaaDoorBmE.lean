/- Package bmap: Update of a key that is not there. -/
import Derived.Test.YtbjkfgfiifnjoaaDoorBmD
import Derived.Test.YtbjkfgfiifnjoaaDoorHeld
namespace Go.Proofs.YtbjkfgfiifnjoaaDoor
open Go.RowKit
set_option maxRecDepth 100000

theorem info_ptrB : (Tryd.prog.info? 116).map (fun i => (i.zero, i.size, i.bytes)) = some (some (.pointer none), 1, 8) := by kernel_rfl

theorem make2 (w : World) : (Instr.makeSlice 39 (.int .i64 2) (.int .i64 2)).run Tryd.prog w = .ok (.slice (some ⟨w.heap.size, 0, none⟩) 2 2) (w.alloc (.cells (bytesV [0, 0]).toArray 5)) := by
  obtain ⟨i0, hi, hz0, hz1, hz2⟩ := info_parts info_byte
  have h := run_make (P := Tryd.prog) w 39 5 i0 (.int .u8 0) Tryd.underlying39 hi hz0 .i64 .i64 2 2 (by omega) (Int.le_refl _) (by rw [hz2]; decide) (by decide)
  have hm : madeCells (Value.int .u8 0).cells 2 = (bytesV [0, 0]).toArray := by
    have e : (Value.int .u8 0).cells = #[.int .u8 0] := rfl
    rw [e, show (bytesV [0, 0] : List Value) = List.replicate 2 (.int .u8 0) from rfl, ← toList_madeCells_one]
  rw [h, hz1]
  show Result.ok _ (w.alloc (.cells (madeCells (Value.int .u8 0).cells 2) 5)) = _
  rw [hm]
  rfl

section
variable {b : Nat} {t : Int} {l : Value} {ck : Nat} {es : List BE} {w : World}
/-- One entry more. -/
theorem MapAt.add {w2 : World} {l2 : Value} (h : MapAt w b t l ck es) (y : BE) (hk : ∀ x ∈ es, x.k ≠ y.k) (hk8 : y.k < 8) (x : Ext (b :: l.ownBlock.toList) w w2)
    (he : w.heap.size ≤ y.e) (hc : w.heap.size ≤ y.c) (hp : w.heap.size ≤ y.p)
    (hb : Blk w2 b 115 [.int .i64 t, .int .i64 4, .int .i64 2, .int .i64 8, l2, .bool false, .int .i64 (ck : Int)])
    (hown : w2.ownsRow 0 116 1 l2 (es.length + 1) (ptrE es ++ [.pointer (some ⟨y.e, 0, none⟩)]))
    (hE : Blk w2 y.e 122 [.string (keyS y.k), .pointer (some ⟨y.c, 0, none⟩), .int .i64 (y.u : Int)]) (hC : Blk w2 y.c 120 [.slice (some ⟨y.p, 0, none⟩) 2 2]) (hV : Blk w2 y.p 5 (bytesV [y.v0, y.v1])) :
    MapAt w2 b t l2 ck (es ++ [y]) := by
  have hoff : ∀ {k T cs}, Blk w k T cs → T ≠ 115 → T ≠ 116 → k ∉ b :: l.ownBlock.toList := by
    intro k T cs hB h1 h2 hm
    rcases List.mem_cons.1 hm with rfl | hm
    · exact blk_ne hB h.h h1 rfl
    · exact blk_off_row hB h2 h.own (by simpa using hm : l.ownBlock = some k).symm
  have hlt := h.lt
  refine ⟨hb, ?_, ?_, ?_, ?_, ?_, ?_, ?_⟩
  · simpa [ptrE] using hown
  · intro z hz
    rcases List.mem_append.1 hz with hz | hz
    · exact (h.en z hz).ext x (hoff (h.en z hz) (by decide) (by decide))
    · simp at hz; subst hz; exact hE
  · intro z hz
    rcases List.mem_append.1 hz with hz | hz
    · exact (h.ce z hz).ext x (hoff (h.ce z hz) (by decide) (by decide))
    · simp at hz; subst hz; exact hC
  · intro z hz
    rcases List.mem_append.1 hz with hz | hz
    · exact (h.vb z hz).ext x (hoff (h.vb z hz) (by decide) (by decide))
    · simp at hz; subst hz; exact hV
  · refine List.pairwise_append.2 ⟨h.ks, by simp, ?_⟩
    intro a ha c hc'
    simp at hc'; subst hc'
    exact hk a ha
  · intro z hz
    rcases List.mem_append.1 hz with hz | hz
    · exact h.k8 z hz
    · simp at hz; subst hz; exact hk8
  · refine List.pairwise_append.2 ⟨h.ne, by simp, ?_⟩
    intro a ha c hc'
    simp at hc'; subst hc'
    have h1 := hlt _ (foot_e (b := b) (l := l) ha).1
    have h2 := hlt _ (foot_e (b := b) (l := l) ha).2.1
    have h3 := hlt _ (foot_e (b := b) (l := l) ha).2.2
    exact ⟨by omega, by omega, by omega⟩

set_option maxHeartbeats 16000000 in
theorem bm_update_new (h : MapAt w b t l ck es) (ht : t = 1 ∨ t = 2) (k : Nat) (hk8 : k < 8) (hno : ∀ x ∈ es, x.k ≠ k) (hck : ck ≤ 1000000) (kv : Value) (hr : Reads w kv 1 4 (bytesV (keyB4 k))) (v0 v1 : UInt8) (gv cv : Nat) (hv : Blk w gv 5 (bytesV [v0, v1])) :
    Calls Tryd.prog 17 #[.pointer (some ⟨b, 0, none⟩), kv, .slice (some ⟨gv, 0, none⟩) 2 cv, .int .u64 0] w fun e w' => e = .returned (.int .i64 0) ∧
      ∃ l2 y, y.k = k ∧ y.v0 = v0 ∧ y.v1 = v1 ∧ MapAt w' b t l2 (ck + 1) (es ++ [y]) ∧ (∀ g ∈ foot b l2 (es ++ [y]), g ∈ foot b l es ∨ w.heap.size ≤ g) ∧ Ext (b :: l.ownBlock.toList) w w' := by
  obtain ⟨i0, hi, hz0, hz1, hz2⟩ := info_parts info_ptrB
  have ht3 : t = 0 ∨ t = 1 ∨ t = 2 := .inr ht
  have hl8 := h.lt8 k hk8 hno
  have HCH := Lib.hid (bm_changes h)
  have HRI := Lib.hid (fun a c => bm_right h ht3 a c)
  have HEX := Lib.hid (bm_exact_no h ht3 k hk8 hno kv hr)
  have HPL := Lib.hid (fun w' (x : Ext [] w w') => bm_plain (h.ext0 x) ht3 k kv (hr.ext x))
  obtain ⟨c0, c1, c2, c3, c4, c5, c6, hlt⟩ := h.cs
  obtain ⟨ao, ac, rfl, -, -, -⟩ := hr
  obtain ⟨la, lc, rfl⟩ := owns_slice h.own
  have HH := Lib.hid h
  clear h
  go_enter Tryd.func17, Tryd.ntmps17
  go_wp2_with fail
  refine HCH.out.mono ?_
  rintro e w' ⟨rfl, rfl⟩
  go_wp2_with fail
  refine (HRI.out _ _).mono ?_
  rintro e w' ⟨rfl, rfl⟩
  go_wp2_with fail
  refine HEX.out.mono ?_
  rintro e w1 ⟨rfl, x1⟩
  have h1 := HH.out.ext0 x1
  clear c0 c1 c2 c3 c4 c5 c6 hlt HCH HRI HEX
  go_wp2_with fail
  refine (bm_flagged_no h1 ht).mono ?_
  rintro e w' ⟨rfl, rfl⟩
  go_wp2_with fail
  refine (bm_room h1 hl8).mono ?_
  rintro e w2 ⟨rfl, x2⟩
  have y2 := x1.trans x2
  clear h1 x1 x2
  go_upto_region 14 with (fail)
  have y3 := y2.drew
  refine wp_region_held_drew (S := fun w' => Ext [] w w') (by kernel_rfl) y3 (fun hS => ?_)
  generalize w2.drew = wq at *
  have hs3 := y3.size
  clear y2 y3
  refine wpAnyH_take (i := 0) (oi := ⟨some 53, _, _, _, _, _⟩) (v := ?_) rfl (by kernel_rfl) (by kernel_rfl) (by kernel_rfl) (fun _ _ _ h => h) (Or.inl ⟨by rfl, ?_⟩) (by assumption) ?_
  rotate_left 1
  · (intro w hSw; (try dsimp only at hSw); go_split_ands; (try go_simp); (try with_reducible rfl))
  try simp only [Act.put, List.setIfInBounds_toArray, List.set_cons_zero, List.set_cons_succ]
  refine wpAnyH_take (i := 1) (oi := ⟨some 54, _, _, _, _, _⟩) (v := ?_) rfl (by kernel_rfl) (by kernel_rfl) (by kernel_rfl) (fun _ _ _ h => h) (Or.inl ⟨by rfl, ?_⟩) (by assumption) ?_
  rotate_left 1
  · (intro w hSw; (try dsimp only at hSw); go_split_ands; (try go_simp); (try with_reducible rfl))
  try simp only [Act.put, List.setIfInBounds_toArray, List.set_cons_zero, List.set_cons_succ]
  refine wpAnyH_take (i := 3) (oi := ⟨some 56, _, _, _, _, _⟩) (v := ?_) rfl (by kernel_rfl) (by kernel_rfl) (by kernel_rfl) (fun _ _ _ h => h) (Or.inl ⟨by rfl, ?_⟩) (by assumption) ?_
  rotate_left 1
  · (intro w hSw; (try dsimp only at hSw); go_split_ands; (try go_simp); (try with_reducible rfl))
  try simp only [Act.put, List.setIfInBounds_toArray, List.set_cons_zero, List.set_cons_succ]
  refine wpAnyH_take (i := 4) (oi := ⟨some 57, _, _, _, _, _⟩) (v := ?_) rfl (by kernel_rfl) (by kernel_rfl) (by kernel_rfl) (fun _ _ _ h => h) (Or.inl ⟨by rfl, ?_⟩) (by assumption) ?_
  rotate_left 1
  · (intro w hSw; (try dsimp only at hSw); go_split_ands; (try go_simp); (try with_reducible rfl))
  try simp only [Act.put, List.setIfInBounds_toArray, List.set_cons_zero, List.set_cons_succ]
  refine wpAnyH_take (i := 5) (oi := ⟨some 58, _, _, _, _, _⟩) (v := ?_) rfl (by kernel_rfl) (by kernel_rfl) (by kernel_rfl) (fun _ _ _ h => h) (Or.inl ⟨by rfl, ?_⟩) (by assumption) ?_
  rotate_left 1
  · (intro w hSw; (try dsimp only at hSw); go_split_ands; (try go_simp); (try with_reducible rfl))
  try simp only [Act.put, List.setIfInBounds_toArray, List.set_cons_zero, List.set_cons_succ]
  refine wpAnyH_take (i := 6) (oi := ⟨some 59, _, _, _, _, _⟩) (v := ?_) rfl (by kernel_rfl) (by kernel_rfl) (by kernel_rfl) (fun _ _ _ h => h) (Or.inl ⟨by rfl, ?_⟩) (by assumption) ?_
  rotate_left 1
  · (intro w hSw; (try dsimp only at hSw); go_split_ands; (try go_simp); (try with_reducible rfl))
  try simp only [Act.put, List.setIfInBounds_toArray, List.set_cons_zero, List.set_cons_succ]
  refine wpAnyH_take (i := 7) (oi := ⟨some 60, _, _, _, _, _⟩) (v := ?_) rfl (by kernel_rfl) (by kernel_rfl) (by kernel_rfl) (fun _ _ _ h => h) (Or.inl ⟨by rfl, ?_⟩) (by assumption) ?_
  rotate_left 1
  · (intro w hSw; (try dsimp only at hSw); go_split_ands; obtain ⟨c0, c1, c2, c3, c4, c5, c6, hlt⟩ := (HH.out.ext0 (by assumption : Ext [] _ w)).cs; (try go_simp); (try with_reducible rfl))
  try simp only [Act.put, List.setIfInBounds_toArray, List.set_cons_zero, List.set_cons_succ]
  refine wpAnyH_ready (rs := [2, 8]) (by kernel_rfl) (by simp) ?_
  refine AllReadyH.cons (o := ⟨some 55, _, _, _, _, _⟩) rfl (fun K hK => ?_) (AllReadyH.cons (o := ⟨some 61, _, _, _, _, _⟩) rfl (fun K hK => ?_) AllReadyH.nil)
  · skip
    go_simp
    refine (HPL.out _ hS).mono ?_
    rintro e w' ⟨rfl, rfl⟩
    go_simp
    refine hK.out _ _ hS (fun hS => ?_)
    clear hK K
    try simp only [Act.put, List.setIfInBounds_toArray, List.set_cons_zero, List.set_cons_succ]
    refine wpAnyH_ready (rs := [8]) (by kernel_rfl) (by simp) ?_
    refine AllReadyH.cons (o := ⟨some 61, _, _, _, _, _⟩) rfl (fun K hK => ?_) AllReadyH.nil
    have hmk := make2
    go_simp
    clear hmk
    have BP := Blk.new wq 5 (bytesV [0, 0]).toArray
    have xq : Ext [] wq (wq.alloc (.cells (bytesV [0, 0]).toArray 5)) := (Ext.refl _ _).alloc _
    have hS8 := hS.trans xq
    have hpg : w.heap.size ≤ wq.heap.size := hS.size
    clear hS xq
    generalize wq.alloc (.cells (bytesV [0, 0]).toArray 5) = wq2 at *
    generalize wq.heap.size = pb at *
    obtain ⟨wq, hwq⟩ : ∃ w, w = wq2 := ⟨_, rfl⟩
    subst hwq
    refine hK.out _ _ hS8 (fun hS => ?_)
    clear hS8
    clear hK K
    try simp only [Act.put, List.setIfInBounds_toArray, List.set_cons_zero, List.set_cons_succ]
    refine wpAnyH_take (i := 9) (oi := ⟨some 62, _, _, _, _, _⟩) (v := ?_) rfl (by kernel_rfl) (by kernel_rfl) (by kernel_rfl) (fun _ _ _ h => h) (Or.inl ⟨by rfl, ?_⟩) (by assumption) ?_
    rotate_left 1
    · (intro w hSw; (try dsimp only at hSw); go_split_ands; (try go_simp); (try with_reducible rfl))
    try simp only [Act.put, List.setIfInBounds_toArray, List.set_cons_zero, List.set_cons_succ]
    refine wpAnyH_ready (rs := [10]) (by kernel_rfl) (by simp) ?_
    refine AllReadyH.cons (o := ⟨some 63, _, _, _, _, _⟩) rfl (fun K hK => ?_) AllReadyH.nil
    go_simp
    have BC := Blk.new wq 120 #[.slice (some ⟨pb, 0, none⟩) 2 2]
    have xq : Ext [] wq (wq.alloc (.cells #[.slice (some ⟨pb, 0, none⟩) 2 2] 120)) := (Ext.refl _ _).alloc _
    have hS10 := hS.trans xq
    have BP := BP.ext xq (by simp)
    have hcg : w.heap.size ≤ wq.heap.size := hS.size
    clear hS xq
    generalize wq.alloc (.cells #[.slice (some ⟨pb, 0, none⟩) 2 2] 120) = wq2 at *
    generalize wq.heap.size = cb at *
    obtain ⟨wq, hwq⟩ : ∃ w, w = wq2 := ⟨_, rfl⟩
    subst hwq
    refine hK.out _ _ hS10 (fun hS => ?_)
    clear hS10
    clear hK K
    try simp only [Act.put, List.setIfInBounds_toArray, List.set_cons_zero, List.set_cons_succ]
    refine wpAnyH_take (i := 11) (oi := ⟨some 64, _, _, _, _, _⟩) (v := ?_) rfl (by kernel_rfl) (by kernel_rfl) (by kernel_rfl) (fun _ _ _ h => h) (Or.inl ⟨by rfl, ?_⟩) (by assumption) ?_
    rotate_left 1
    · (intro w hSw; (try dsimp only at hSw); go_split_ands; (try go_simp); (try with_reducible rfl))
    try simp only [Act.put, List.setIfInBounds_toArray, List.set_cons_zero, List.set_cons_succ]
    refine wpAnyH_ready (rs := [12]) (by kernel_rfl) (by simp) ?_
    refine AllReadyH.cons (o := ⟨some 65, _, _, _, _, _⟩) rfl (fun K hK => ?_) AllReadyH.nil
    go_simp
    have BE1 := Blk.new wq 122 #[.string (keyS k), .pointer (some ⟨cb, 0, none⟩), .int .i64 0]
    have xq : Ext [] wq (wq.alloc (.cells #[.string (keyS k), .pointer (some ⟨cb, 0, none⟩), .int .i64 0] 122)) := (Ext.refl _ _).alloc _
    have hS12 := hS.trans xq
    have BP := BP.ext xq (by simp)
    have BC := BC.ext xq (by simp)
    have heg : w.heap.size ≤ wq.heap.size := hS.size
    clear hS xq
    generalize wq.alloc (.cells #[.string (keyS k), .pointer (some ⟨cb, 0, none⟩), .int .i64 0] 122) = wq2 at *
    generalize wq.heap.size = eb at *
    obtain ⟨wq, hwq⟩ : ∃ w, w = wq2 := ⟨_, rfl⟩
    subst hwq
    refine hK.out _ _ hS12 (fun hS => ?_)
    clear hS12
    clear hK K
    try simp only [Act.put, List.setIfInBounds_toArray, List.set_cons_zero, List.set_cons_succ]
    refine wpAnyH_take (i := 13) (oi := ⟨some 10, _, _, _, _, _⟩) (v := ?_) rfl (by kernel_rfl) (by kernel_rfl) (by kernel_rfl) (fun _ _ _ h => h) (Or.inl ⟨by rfl, ?_⟩) (by assumption) ?_
    rotate_left 1
    · (intro w hSw; (try dsimp only at hSw); go_split_ands; (try go_simp); (try with_reducible rfl))
    try simp only [Act.put, List.setIfInBounds_toArray, List.set_cons_zero, List.set_cons_succ]
    refine wpAnyH_done (by kernel_rfl) ?_ _
    have h4 := HH.out.ext0 hS
    have hnb : b ∉ (Value.slice la es.length lc).ownBlock.toList := fun hm => blk_off_row h4.h (by decide) h4.own (by simpa using hm : (Value.slice la es.length lc).ownBlock = some b).symm
    have hne : eb ∉ (Value.slice la es.length lc).ownBlock.toList := fun hm => blk_off_row BE1 (by decide) h4.own (by simpa using hm : (Value.slice la es.length lc).ownBlock = some eb).symm
    have hnc : cb ∉ (Value.slice la es.length lc).ownBlock.toList := fun hm => blk_off_row BC (by decide) h4.own (by simpa using hm : (Value.slice la es.length lc).ownBlock = some cb).symm
    have hnp : pb ∉ (Value.slice la es.length lc).ownBlock.toList := fun hm => blk_off_row BP (by decide) h4.own (by simpa using hm : (Value.slice la es.length lc).ownBlock = some pb).symm
    obtain ⟨c0, c1, c2, c3, c4, c5, c6, hlt⟩ := h4.cs
    clear c0 c1 c2 c3 c5 c6
    go_upto_region 16 with (at_builtin; go_must (refine wpList_app _ rfl (.tmp 70) (.tmp 72) 113 rfl 116 i0 _ 1 8 Tryd.underlying113 hi hz0 hz1 hz2 rfl (by decide) (.slice la es.length lc) es.length (ptrE es) rfl (owns_ext h4.own ((Ext.refl [] wq).alloc _) (by simp)) (.slice (some ⟨wq.heap.size, 0, none⟩) 1 1) 1 [.pointer (some ⟨eb, 0, none⟩)] rfl (blk_reads (Blk.new wq _ _) 1 rfl) (by intro u hu; simp at hu; subst hu; rfl) (by unfold maxLen; omega) (by omega) ?_); intro v5 w5 hown5 hgrow5 hfr5 _; obtain ⟨a5, c5, rfl⟩ := owns_slice hown5; have x5 : Ext (Value.slice la es.length lc).ownBlock.toList wq w5 := ((Ext.refl _ _).alloc _).grown hgrow5 (fun k hk => .inl (by simp [hk])); have B5 := h4.h.ext x5 hnb; have hb5 := B5.lt; have f5 := B5.frozen 4; have d5 := B5.cell 4; simp only [List.getElem?_cons_succ, List.getElem?_cons_zero] at d5)
    have hgv : gv ∉ b :: (Value.slice la es.length lc).ownBlock.toList := by
      intro hm
      rcases List.mem_cons.1 hm with hm | hm
      · exact blk_ne hv HH.out.h (by decide) hm
      · exact blk_off_row hv (by decide) HH.out.own (by simpa using hm : (Value.slice la es.length lc).ownBlock = some gv).symm
    have xs : Ext [b] w5 (w5.setCell ⟨b, 4, none⟩ (.slice a5 (es.length + 1) c5)) := (Ext.refl _ _).setCell (.inl (by simp)) _
    have X6 : Ext (b :: (Value.slice la es.length lc).ownBlock.toList) w (w5.setCell ⟨b, 4, none⟩ (.slice a5 (es.length + 1) c5)) :=
      (((hS.sub (by simp)).trans (x5.sub (fun i hi => .inl (List.mem_cons_of_mem _ hi)))).trans (xs.sub (fun i hi => .inl (by simp at hi; simp [hi]))))
    have h6 := HH.out.add ⟨k, eb, cb, pb, 0, 0, 0⟩ hno hk8 X6 heg hcg hpg (B5.set 4 (.slice a5 (es.length + 1) c5)) (owns_ext hown5 xs (fun g hg hm => blk_off_row B5 (by decide) hown5 (by simp at hm; rw [hg, hm])))
      ((BE1.ext x5 hne).setOther (p := ⟨b, 4, none⟩) (blk_ne BE1 h4.h (by decide)) _) ((BC.ext x5 hnc).setOther (p := ⟨b, 4, none⟩) (blk_ne BC h4.h (by decide)) _) ((BP.ext x5 hnp).setOther (p := ⟨b, 4, none⟩) (blk_ne BP h4.h (by decide)) _)
    have hv6 := hv.ext X6 hgv
    have hfr : ∀ g, (Value.slice a5 (es.length + 1) c5).ownBlock = some g → (Value.slice la es.length lc).ownBlock = some g ∨ w.heap.size ≤ g := by
      intro g hg
      rcases hfr5 with e | ⟨g', e, hle⟩
      · exact .inl (e ▸ hg)
      · rw [e] at hg; cases hg
        have h9 := hS.size
        have h10 : wq.heap.size ≤ (wq.alloc (.cells #[.pointer (some ⟨eb, 0, none⟩)] 116)).heap.size := by simp
        right; omega
    clear xs hown5 hgrow5 hfr5 x5 B5 hb5 f5 d5 c4 hlt h4 BE1 BC BP hS hne hnc hnp hnb
    generalize w5.setCell ⟨b, 4, none⟩ (.slice a5 (es.length + 1) c5) = w6 at *
    have hm : (⟨k, eb, cb, pb, 0, 0, 0⟩ : BE) ∈ es ++ [⟨k, eb, cb, pb, 0, 0, 0⟩] := by simp
    have e1 : w6.cell? ⟨eb, 1, none⟩ = some (.pointer (some ⟨cb, 0, none⟩)) := (h6.en _ hm).cell 1
    have d0 : w6.cell? ⟨cb, 0, none⟩ = some (.slice (some ⟨pb, 0, none⟩) 2 2) := (h6.ce _ hm).cell 0
    have hel : eb < w6.heap.size := (h6.en _ hm).lt
    have hcl : cb < w6.heap.size := (h6.ce _ hm).lt
    obtain ⟨w7, hcp, hV7, x7⟩ := copy_full (c := cv) 3 (h6.vb _ hm) hv6 (n := 2) rfl rfl (by
      intro u hu
      simp only [bytesV, List.map_cons, List.map_nil, List.mem_cons, List.not_mem_nil, or_false] at hu
      rcases hu with rfl | rfl <;> rfl)
    have n2 := blk_ne h6.h (h6.vb _ hm) (by decide)
    have n3 := blk_ne (h6.en _ hm) (h6.vb _ hm) (by decide)
    obtain ⟨h7, hf7⟩ := h6.setE es.length (by simp) ⟨k, eb, cb, pb, v0, v1, 0⟩ (by simp) (by simp) (by simp) (by simp) ck (x7.sub (fun i hi => .inl (by simp at hi; simp [hi]))) (h6.h.ext x7 (by simp [n2])) ((h6.en _ hm).ext x7 (by simp [n3])) hV7
    rw [show (es ++ [(⟨k, eb, cb, pb, 0, 0, 0⟩ : BE)]).set es.length ⟨k, eb, cb, pb, v0, v1, 0⟩ = es ++ [⟨k, eb, cb, pb, v0, v1, 0⟩] by simp] at h7 hf7
    have hu := bm_use h7 es.length (by simp) hck
    rw [show (es ++ [(⟨k, eb, cb, pb, v0, v1, 0⟩ : BE)])[es.length]'(by simp) = ⟨k, eb, cb, pb, v0, v1, 0⟩ by simp] at hu
    have HU := Lib.hid hu
    clear hu h6 h7 hv6 hV7
    go_wp2_with fail
    refine HU.out.mono ?_
    rintro e w8 ⟨rfl, h8, hf8, x8⟩
    rw [show (es ++ [(⟨k, eb, cb, pb, v0, v1, 0⟩ : BE)]).set es.length ⟨k, eb, cb, pb, v0, v1, ck + 1⟩ = es ++ [⟨k, eb, cb, pb, v0, v1, ck + 1⟩] by simp] at h8 hf8
    clear HU hcp
    go_wp2_with fail
    go_ret
    refine ⟨rfl, _, _, rfl, rfl, rfl, h8, ?_, ?_⟩
    · intro g hg
      rw [hf8, hf7] at hg
      rcases foot_iff.1 hg with rfl | hg | ⟨x, hx, hg⟩
      · exact .inl foot_b
      · rcases hfr g hg with h | h
        · exact .inl (foot_l h)
        · exact .inr h
      · rcases List.mem_append.1 hx with hx | hx
        · left; rcases hg with rfl | rfl | rfl
          · exact (foot_e hx).1
          · exact (foot_e hx).2.1
          · exact (foot_e hx).2.2
        · simp at hx; subst hx
          right; rcases hg with rfl | rfl | rfl <;> assumption
    · refine (X6.trans' x7 (fun i hi => .inr (by simp at hi; subst hi; exact hpg))).trans' x8 (fun i hi => ?_)
      simp at hi
      rcases hi with rfl | rfl
      · exact .inl (by simp)
      · exact .inr heg
  · skip
    have hmk := make2
    go_simp
    clear hmk
    have BP := Blk.new wq 5 (bytesV [0, 0]).toArray
    have xq : Ext [] wq (wq.alloc (.cells (bytesV [0, 0]).toArray 5)) := (Ext.refl _ _).alloc _
    have hS8 := hS.trans xq
    have hpg : w.heap.size ≤ wq.heap.size := hS.size
    clear hS xq
    generalize wq.alloc (.cells (bytesV [0, 0]).toArray 5) = wq2 at *
    generalize wq.heap.size = pb at *
    obtain ⟨wq, hwq⟩ : ∃ w, w = wq2 := ⟨_, rfl⟩
    subst hwq
    refine hK.out _ _ hS8 (fun hS => ?_)
    clear hS8
    clear hK K
    try simp only [Act.put, List.setIfInBounds_toArray, List.set_cons_zero, List.set_cons_succ]
    refine wpAnyH_take (i := 9) (oi := ⟨some 62, _, _, _, _, _⟩) (v := ?_) rfl (by kernel_rfl) (by kernel_rfl) (by kernel_rfl) (fun _ _ _ h => h) (Or.inl ⟨by rfl, ?_⟩) (by assumption) ?_
    rotate_left 1
    · (intro w hSw; (try dsimp only at hSw); go_split_ands; (try go_simp); (try with_reducible rfl))
    try simp only [Act.put, List.setIfInBounds_toArray, List.set_cons_zero, List.set_cons_succ]
    refine wpAnyH_ready (rs := [2, 10]) (by kernel_rfl) (by simp) ?_
    refine AllReadyH.cons (o := ⟨some 55, _, _, _, _, _⟩) rfl (fun K hK => ?_) (AllReadyH.cons (o := ⟨some 63, _, _, _, _, _⟩) rfl (fun K hK => ?_) AllReadyH.nil)
    · skip
      go_simp
      refine (HPL.out _ hS).mono ?_
      rintro e w' ⟨rfl, rfl⟩
      go_simp
      refine hK.out _ _ hS (fun hS => ?_)
      clear hK K
      try simp only [Act.put, List.setIfInBounds_toArray, List.set_cons_zero, List.set_cons_succ]
      refine wpAnyH_ready (rs := [10]) (by kernel_rfl) (by simp) ?_
      refine AllReadyH.cons (o := ⟨some 63, _, _, _, _, _⟩) rfl (fun K hK => ?_) AllReadyH.nil
      go_simp
      have BC := Blk.new wq 120 #[.slice (some ⟨pb, 0, none⟩) 2 2]
      have xq : Ext [] wq (wq.alloc (.cells #[.slice (some ⟨pb, 0, none⟩) 2 2] 120)) := (Ext.refl _ _).alloc _
      have hS10 := hS.trans xq
      have BP := BP.ext xq (by simp)
      have hcg : w.heap.size ≤ wq.heap.size := hS.size
      clear hS xq
      generalize wq.alloc (.cells #[.slice (some ⟨pb, 0, none⟩) 2 2] 120) = wq2 at *
      generalize wq.heap.size = cb at *
      obtain ⟨wq, hwq⟩ : ∃ w, w = wq2 := ⟨_, rfl⟩
      subst hwq
      refine hK.out _ _ hS10 (fun hS => ?_)
      clear hS10
      clear hK K
      try simp only [Act.put, List.setIfInBounds_toArray, List.set_cons_zero, List.set_cons_succ]
      refine wpAnyH_take (i := 11) (oi := ⟨some 64, _, _, _, _, _⟩) (v := ?_) rfl (by kernel_rfl) (by kernel_rfl) (by kernel_rfl) (fun _ _ _ h => h) (Or.inl ⟨by rfl, ?_⟩) (by assumption) ?_
      rotate_left 1
      · (intro w hSw; (try dsimp only at hSw); go_split_ands; (try go_simp); (try with_reducible rfl))
      try simp only [Act.put, List.setIfInBounds_toArray, List.set_cons_zero, List.set_cons_succ]
      refine wpAnyH_ready (rs := [12]) (by kernel_rfl) (by simp) ?_
      refine AllReadyH.cons (o := ⟨some 65, _, _, _, _, _⟩) rfl (fun K hK => ?_) AllReadyH.nil
      go_simp
      have BE1 := Blk.new wq 122 #[.string (keyS k), .pointer (some ⟨cb, 0, none⟩), .int .i64 0]
      have xq : Ext [] wq (wq.alloc (.cells #[.string (keyS k), .pointer (some ⟨cb, 0, none⟩), .int .i64 0] 122)) := (Ext.refl _ _).alloc _
      have hS12 := hS.trans xq
      have BP := BP.ext xq (by simp)
      have BC := BC.ext xq (by simp)
      have heg : w.heap.size ≤ wq.heap.size := hS.size
      clear hS xq
      generalize wq.alloc (.cells #[.string (keyS k), .pointer (some ⟨cb, 0, none⟩), .int .i64 0] 122) = wq2 at *
      generalize wq.heap.size = eb at *
      obtain ⟨wq, hwq⟩ : ∃ w, w = wq2 := ⟨_, rfl⟩
      subst hwq
      refine hK.out _ _ hS12 (fun hS => ?_)
      clear hS12
      clear hK K
      try simp only [Act.put, List.setIfInBounds_toArray, List.set_cons_zero, List.set_cons_succ]
      refine wpAnyH_take (i := 13) (oi := ⟨some 10, _, _, _, _, _⟩) (v := ?_) rfl (by kernel_rfl) (by kernel_rfl) (by kernel_rfl) (fun _ _ _ h => h) (Or.inl ⟨by rfl, ?_⟩) (by assumption) ?_
      rotate_left 1
      · (intro w hSw; (try dsimp only at hSw); go_split_ands; (try go_simp); (try with_reducible rfl))
      try simp only [Act.put, List.setIfInBounds_toArray, List.set_cons_zero, List.set_cons_succ]
      refine wpAnyH_done (by kernel_rfl) ?_ _
      have h4 := HH.out.ext0 hS
      have hnb : b ∉ (Value.slice la es.length lc).ownBlock.toList := fun hm => blk_off_row h4.h (by decide) h4.own (by simpa using hm : (Value.slice la es.length lc).ownBlock = some b).symm
      have hne : eb ∉ (Value.slice la es.length lc).ownBlock.toList := fun hm => blk_off_row BE1 (by decide) h4.own (by simpa using hm : (Value.slice la es.length lc).ownBlock = some eb).symm
      have hnc : cb ∉ (Value.slice la es.length lc).ownBlock.toList := fun hm => blk_off_row BC (by decide) h4.own (by simpa using hm : (Value.slice la es.length lc).ownBlock = some cb).symm
      have hnp : pb ∉ (Value.slice la es.length lc).ownBlock.toList := fun hm => blk_off_row BP (by decide) h4.own (by simpa using hm : (Value.slice la es.length lc).ownBlock = some pb).symm
      obtain ⟨c0, c1, c2, c3, c4, c5, c6, hlt⟩ := h4.cs
      clear c0 c1 c2 c3 c5 c6
      go_upto_region 16 with (at_builtin; go_must (refine wpList_app _ rfl (.tmp 70) (.tmp 72) 113 rfl 116 i0 _ 1 8 Tryd.underlying113 hi hz0 hz1 hz2 rfl (by decide) (.slice la es.length lc) es.length (ptrE es) rfl (owns_ext h4.own ((Ext.refl [] wq).alloc _) (by simp)) (.slice (some ⟨wq.heap.size, 0, none⟩) 1 1) 1 [.pointer (some ⟨eb, 0, none⟩)] rfl (blk_reads (Blk.new wq _ _) 1 rfl) (by intro u hu; simp at hu; subst hu; rfl) (by unfold maxLen; omega) (by omega) ?_); intro v5 w5 hown5 hgrow5 hfr5 _; obtain ⟨a5, c5, rfl⟩ := owns_slice hown5; have x5 : Ext (Value.slice la es.length lc).ownBlock.toList wq w5 := ((Ext.refl _ _).alloc _).grown hgrow5 (fun k hk => .inl (by simp [hk])); have B5 := h4.h.ext x5 hnb; have hb5 := B5.lt; have f5 := B5.frozen 4; have d5 := B5.cell 4; simp only [List.getElem?_cons_succ, List.getElem?_cons_zero] at d5)
      have hgv : gv ∉ b :: (Value.slice la es.length lc).ownBlock.toList := by
        intro hm
        rcases List.mem_cons.1 hm with hm | hm
        · exact blk_ne hv HH.out.h (by decide) hm
        · exact blk_off_row hv (by decide) HH.out.own (by simpa using hm : (Value.slice la es.length lc).ownBlock = some gv).symm
      have xs : Ext [b] w5 (w5.setCell ⟨b, 4, none⟩ (.slice a5 (es.length + 1) c5)) := (Ext.refl _ _).setCell (.inl (by simp)) _
      have X6 : Ext (b :: (Value.slice la es.length lc).ownBlock.toList) w (w5.setCell ⟨b, 4, none⟩ (.slice a5 (es.length + 1) c5)) :=
        (((hS.sub (by simp)).trans (x5.sub (fun i hi => .inl (List.mem_cons_of_mem _ hi)))).trans (xs.sub (fun i hi => .inl (by simp at hi; simp [hi]))))
      have h6 := HH.out.add ⟨k, eb, cb, pb, 0, 0, 0⟩ hno hk8 X6 heg hcg hpg (B5.set 4 (.slice a5 (es.length + 1) c5)) (owns_ext hown5 xs (fun g hg hm => blk_off_row B5 (by decide) hown5 (by simp at hm; rw [hg, hm])))
        ((BE1.ext x5 hne).setOther (p := ⟨b, 4, none⟩) (blk_ne BE1 h4.h (by decide)) _) ((BC.ext x5 hnc).setOther (p := ⟨b, 4, none⟩) (blk_ne BC h4.h (by decide)) _) ((BP.ext x5 hnp).setOther (p := ⟨b, 4, none⟩) (blk_ne BP h4.h (by decide)) _)
      have hv6 := hv.ext X6 hgv
      have hfr : ∀ g, (Value.slice a5 (es.length + 1) c5).ownBlock = some g → (Value.slice la es.length lc).ownBlock = some g ∨ w.heap.size ≤ g := by
        intro g hg
        rcases hfr5 with e | ⟨g', e, hle⟩
        · exact .inl (e ▸ hg)
        · rw [e] at hg; cases hg
          have h9 := hS.size
          have h10 : wq.heap.size ≤ (wq.alloc (.cells #[.pointer (some ⟨eb, 0, none⟩)] 116)).heap.size := by simp
          right; omega
      clear xs hown5 hgrow5 hfr5 x5 B5 hb5 f5 d5 c4 hlt h4 BE1 BC BP hS hne hnc hnp hnb
      generalize w5.setCell ⟨b, 4, none⟩ (.slice a5 (es.length + 1) c5) = w6 at *
      have hm : (⟨k, eb, cb, pb, 0, 0, 0⟩ : BE) ∈ es ++ [⟨k, eb, cb, pb, 0, 0, 0⟩] := by simp
      have e1 : w6.cell? ⟨eb, 1, none⟩ = some (.pointer (some ⟨cb, 0, none⟩)) := (h6.en _ hm).cell 1
      have d0 : w6.cell? ⟨cb, 0, none⟩ = some (.slice (some ⟨pb, 0, none⟩) 2 2) := (h6.ce _ hm).cell 0
      have hel : eb < w6.heap.size := (h6.en _ hm).lt
      have hcl : cb < w6.heap.size := (h6.ce _ hm).lt
      obtain ⟨w7, hcp, hV7, x7⟩ := copy_full (c := cv) 3 (h6.vb _ hm) hv6 (n := 2) rfl rfl (by
        intro u hu
        simp only [bytesV, List.map_cons, List.map_nil, List.mem_cons, List.not_mem_nil, or_false] at hu
        rcases hu with rfl | rfl <;> rfl)
      have n2 := blk_ne h6.h (h6.vb _ hm) (by decide)
      have n3 := blk_ne (h6.en _ hm) (h6.vb _ hm) (by decide)
      obtain ⟨h7, hf7⟩ := h6.setE es.length (by simp) ⟨k, eb, cb, pb, v0, v1, 0⟩ (by simp) (by simp) (by simp) (by simp) ck (x7.sub (fun i hi => .inl (by simp at hi; simp [hi]))) (h6.h.ext x7 (by simp [n2])) ((h6.en _ hm).ext x7 (by simp [n3])) hV7
      rw [show (es ++ [(⟨k, eb, cb, pb, 0, 0, 0⟩ : BE)]).set es.length ⟨k, eb, cb, pb, v0, v1, 0⟩ = es ++ [⟨k, eb, cb, pb, v0, v1, 0⟩] by simp] at h7 hf7
      have hu := bm_use h7 es.length (by simp) hck
      rw [show (es ++ [(⟨k, eb, cb, pb, v0, v1, 0⟩ : BE)])[es.length]'(by simp) = ⟨k, eb, cb, pb, v0, v1, 0⟩ by simp] at hu
      have HU := Lib.hid hu
      clear hu h6 h7 hv6 hV7
      go_wp2_with fail
      refine HU.out.mono ?_
      rintro e w8 ⟨rfl, h8, hf8, x8⟩
      rw [show (es ++ [(⟨k, eb, cb, pb, v0, v1, 0⟩ : BE)]).set es.length ⟨k, eb, cb, pb, v0, v1, ck + 1⟩ = es ++ [⟨k, eb, cb, pb, v0, v1, ck + 1⟩] by simp] at h8 hf8
      clear HU hcp
      go_wp2_with fail
      go_ret
      refine ⟨rfl, _, _, rfl, rfl, rfl, h8, ?_, ?_⟩
      · intro g hg
        rw [hf8, hf7] at hg
        rcases foot_iff.1 hg with rfl | hg | ⟨x, hx, hg⟩
        · exact .inl foot_b
        · rcases hfr g hg with h | h
          · exact .inl (foot_l h)
          · exact .inr h
        · rcases List.mem_append.1 hx with hx | hx
          · left; rcases hg with rfl | rfl | rfl
            · exact (foot_e hx).1
            · exact (foot_e hx).2.1
            · exact (foot_e hx).2.2
          · simp at hx; subst hx
            right; rcases hg with rfl | rfl | rfl <;> assumption
      · refine (X6.trans' x7 (fun i hi => .inr (by simp at hi; subst hi; exact hpg))).trans' x8 (fun i hi => ?_)
        simp at hi
        rcases hi with rfl | rfl
        · exact .inl (by simp)
        · exact .inr heg
    · skip
      go_simp
      have BC := Blk.new wq 120 #[.slice (some ⟨pb, 0, none⟩) 2 2]
      have xq : Ext [] wq (wq.alloc (.cells #[.slice (some ⟨pb, 0, none⟩) 2 2] 120)) := (Ext.refl _ _).alloc _
      have hS10 := hS.trans xq
      have BP := BP.ext xq (by simp)
      have hcg : w.heap.size ≤ wq.heap.size := hS.size
      clear hS xq
      generalize wq.alloc (.cells #[.slice (some ⟨pb, 0, none⟩) 2 2] 120) = wq2 at *
      generalize wq.heap.size = cb at *
      obtain ⟨wq, hwq⟩ : ∃ w, w = wq2 := ⟨_, rfl⟩
      subst hwq
      refine hK.out _ _ hS10 (fun hS => ?_)
      clear hS10
      clear hK K
      try simp only [Act.put, List.setIfInBounds_toArray, List.set_cons_zero, List.set_cons_succ]
      refine wpAnyH_ready (rs := [2]) (by kernel_rfl) (by simp) ?_
      refine AllReadyH.cons (o := ⟨some 55, _, _, _, _, _⟩) rfl (fun K hK => ?_) AllReadyH.nil
      go_simp
      refine (HPL.out _ hS).mono ?_
      rintro e w' ⟨rfl, rfl⟩
      go_simp
      refine hK.out _ _ hS (fun hS => ?_)
      clear hK K
      try simp only [Act.put, List.setIfInBounds_toArray, List.set_cons_zero, List.set_cons_succ]
      refine wpAnyH_take (i := 11) (oi := ⟨some 64, _, _, _, _, _⟩) (v := ?_) rfl (by kernel_rfl) (by kernel_rfl) (by kernel_rfl) (fun _ _ _ h => h) (Or.inl ⟨by rfl, ?_⟩) (by assumption) ?_
      rotate_left 1
      · (intro w hSw; (try dsimp only at hSw); go_split_ands; (try go_simp); (try with_reducible rfl))
      try simp only [Act.put, List.setIfInBounds_toArray, List.set_cons_zero, List.set_cons_succ]
      refine wpAnyH_ready (rs := [12]) (by kernel_rfl) (by simp) ?_
      refine AllReadyH.cons (o := ⟨some 65, _, _, _, _, _⟩) rfl (fun K hK => ?_) AllReadyH.nil
      go_simp
      have BE1 := Blk.new wq 122 #[.string (keyS k), .pointer (some ⟨cb, 0, none⟩), .int .i64 0]
      have xq : Ext [] wq (wq.alloc (.cells #[.string (keyS k), .pointer (some ⟨cb, 0, none⟩), .int .i64 0] 122)) := (Ext.refl _ _).alloc _
      have hS12 := hS.trans xq
      have BP := BP.ext xq (by simp)
      have BC := BC.ext xq (by simp)
      have heg : w.heap.size ≤ wq.heap.size := hS.size
      clear hS xq
      generalize wq.alloc (.cells #[.string (keyS k), .pointer (some ⟨cb, 0, none⟩), .int .i64 0] 122) = wq2 at *
      generalize wq.heap.size = eb at *
      obtain ⟨wq, hwq⟩ : ∃ w, w = wq2 := ⟨_, rfl⟩
      subst hwq
      refine hK.out _ _ hS12 (fun hS => ?_)
      clear hS12
      clear hK K
      try simp only [Act.put, List.setIfInBounds_toArray, List.set_cons_zero, List.set_cons_succ]
      refine wpAnyH_take (i := 13) (oi := ⟨some 10, _, _, _, _, _⟩) (v := ?_) rfl (by kernel_rfl) (by kernel_rfl) (by kernel_rfl) (fun _ _ _ h => h) (Or.inl ⟨by rfl, ?_⟩) (by assumption) ?_
      rotate_left 1
      · (intro w hSw; (try dsimp only at hSw); go_split_ands; (try go_simp); (try with_reducible rfl))
      try simp only [Act.put, List.setIfInBounds_toArray, List.set_cons_zero, List.set_cons_succ]
      refine wpAnyH_done (by kernel_rfl) ?_ _
      have h4 := HH.out.ext0 hS
      have hnb : b ∉ (Value.slice la es.length lc).ownBlock.toList := fun hm => blk_off_row h4.h (by decide) h4.own (by simpa using hm : (Value.slice la es.length lc).ownBlock = some b).symm
      have hne : eb ∉ (Value.slice la es.length lc).ownBlock.toList := fun hm => blk_off_row BE1 (by decide) h4.own (by simpa using hm : (Value.slice la es.length lc).ownBlock = some eb).symm
      have hnc : cb ∉ (Value.slice la es.length lc).ownBlock.toList := fun hm => blk_off_row BC (by decide) h4.own (by simpa using hm : (Value.slice la es.length lc).ownBlock = some cb).symm
      have hnp : pb ∉ (Value.slice la es.length lc).ownBlock.toList := fun hm => blk_off_row BP (by decide) h4.own (by simpa using hm : (Value.slice la es.length lc).ownBlock = some pb).symm
      obtain ⟨c0, c1, c2, c3, c4, c5, c6, hlt⟩ := h4.cs
      clear c0 c1 c2 c3 c5 c6
      go_upto_region 16 with (at_builtin; go_must (refine wpList_app _ rfl (.tmp 70) (.tmp 72) 113 rfl 116 i0 _ 1 8 Tryd.underlying113 hi hz0 hz1 hz2 rfl (by decide) (.slice la es.length lc) es.length (ptrE es) rfl (owns_ext h4.own ((Ext.refl [] wq).alloc _) (by simp)) (.slice (some ⟨wq.heap.size, 0, none⟩) 1 1) 1 [.pointer (some ⟨eb, 0, none⟩)] rfl (blk_reads (Blk.new wq _ _) 1 rfl) (by intro u hu; simp at hu; subst hu; rfl) (by unfold maxLen; omega) (by omega) ?_); intro v5 w5 hown5 hgrow5 hfr5 _; obtain ⟨a5, c5, rfl⟩ := owns_slice hown5; have x5 : Ext (Value.slice la es.length lc).ownBlock.toList wq w5 := ((Ext.refl _ _).alloc _).grown hgrow5 (fun k hk => .inl (by simp [hk])); have B5 := h4.h.ext x5 hnb; have hb5 := B5.lt; have f5 := B5.frozen 4; have d5 := B5.cell 4; simp only [List.getElem?_cons_succ, List.getElem?_cons_zero] at d5)
      have hgv : gv ∉ b :: (Value.slice la es.length lc).ownBlock.toList := by
        intro hm
        rcases List.mem_cons.1 hm with hm | hm
        · exact blk_ne hv HH.out.h (by decide) hm
        · exact blk_off_row hv (by decide) HH.out.own (by simpa using hm : (Value.slice la es.length lc).ownBlock = some gv).symm
      have xs : Ext [b] w5 (w5.setCell ⟨b, 4, none⟩ (.slice a5 (es.length + 1) c5)) := (Ext.refl _ _).setCell (.inl (by simp)) _
      have X6 : Ext (b :: (Value.slice la es.length lc).ownBlock.toList) w (w5.setCell ⟨b, 4, none⟩ (.slice a5 (es.length + 1) c5)) :=
        (((hS.sub (by simp)).trans (x5.sub (fun i hi => .inl (List.mem_cons_of_mem _ hi)))).trans (xs.sub (fun i hi => .inl (by simp at hi; simp [hi]))))
      have h6 := HH.out.add ⟨k, eb, cb, pb, 0, 0, 0⟩ hno hk8 X6 heg hcg hpg (B5.set 4 (.slice a5 (es.length + 1) c5)) (owns_ext hown5 xs (fun g hg hm => blk_off_row B5 (by decide) hown5 (by simp at hm; rw [hg, hm])))
        ((BE1.ext x5 hne).setOther (p := ⟨b, 4, none⟩) (blk_ne BE1 h4.h (by decide)) _) ((BC.ext x5 hnc).setOther (p := ⟨b, 4, none⟩) (blk_ne BC h4.h (by decide)) _) ((BP.ext x5 hnp).setOther (p := ⟨b, 4, none⟩) (blk_ne BP h4.h (by decide)) _)
      have hv6 := hv.ext X6 hgv
      have hfr : ∀ g, (Value.slice a5 (es.length + 1) c5).ownBlock = some g → (Value.slice la es.length lc).ownBlock = some g ∨ w.heap.size ≤ g := by
        intro g hg
        rcases hfr5 with e | ⟨g', e, hle⟩
        · exact .inl (e ▸ hg)
        · rw [e] at hg; cases hg
          have h9 := hS.size
          have h10 : wq.heap.size ≤ (wq.alloc (.cells #[.pointer (some ⟨eb, 0, none⟩)] 116)).heap.size := by simp
          right; omega
      clear xs hown5 hgrow5 hfr5 x5 B5 hb5 f5 d5 c4 hlt h4 BE1 BC BP hS hne hnc hnp hnb
      generalize w5.setCell ⟨b, 4, none⟩ (.slice a5 (es.length + 1) c5) = w6 at *
      have hm : (⟨k, eb, cb, pb, 0, 0, 0⟩ : BE) ∈ es ++ [⟨k, eb, cb, pb, 0, 0, 0⟩] := by simp
      have e1 : w6.cell? ⟨eb, 1, none⟩ = some (.pointer (some ⟨cb, 0, none⟩)) := (h6.en _ hm).cell 1
      have d0 : w6.cell? ⟨cb, 0, none⟩ = some (.slice (some ⟨pb, 0, none⟩) 2 2) := (h6.ce _ hm).cell 0
      have hel : eb < w6.heap.size := (h6.en _ hm).lt
      have hcl : cb < w6.heap.size := (h6.ce _ hm).lt
      obtain ⟨w7, hcp, hV7, x7⟩ := copy_full (c := cv) 3 (h6.vb _ hm) hv6 (n := 2) rfl rfl (by
        intro u hu
        simp only [bytesV, List.map_cons, List.map_nil, List.mem_cons, List.not_mem_nil, or_false] at hu
        rcases hu with rfl | rfl <;> rfl)
      have n2 := blk_ne h6.h (h6.vb _ hm) (by decide)
      have n3 := blk_ne (h6.en _ hm) (h6.vb _ hm) (by decide)
      obtain ⟨h7, hf7⟩ := h6.setE es.length (by simp) ⟨k, eb, cb, pb, v0, v1, 0⟩ (by simp) (by simp) (by simp) (by simp) ck (x7.sub (fun i hi => .inl (by simp at hi; simp [hi]))) (h6.h.ext x7 (by simp [n2])) ((h6.en _ hm).ext x7 (by simp [n3])) hV7
      rw [show (es ++ [(⟨k, eb, cb, pb, 0, 0, 0⟩ : BE)]).set es.length ⟨k, eb, cb, pb, v0, v1, 0⟩ = es ++ [⟨k, eb, cb, pb, v0, v1, 0⟩] by simp] at h7 hf7
      have hu := bm_use h7 es.length (by simp) hck
      rw [show (es ++ [(⟨k, eb, cb, pb, v0, v1, 0⟩ : BE)])[es.length]'(by simp) = ⟨k, eb, cb, pb, v0, v1, 0⟩ by simp] at hu
      have HU := Lib.hid hu
      clear hu h6 h7 hv6 hV7
      go_wp2_with fail
      refine HU.out.mono ?_
      rintro e w8 ⟨rfl, h8, hf8, x8⟩
      rw [show (es ++ [(⟨k, eb, cb, pb, v0, v1, 0⟩ : BE)]).set es.length ⟨k, eb, cb, pb, v0, v1, ck + 1⟩ = es ++ [⟨k, eb, cb, pb, v0, v1, ck + 1⟩] by simp] at h8 hf8
      clear HU hcp
      go_wp2_with fail
      go_ret
      refine ⟨rfl, _, _, rfl, rfl, rfl, h8, ?_, ?_⟩
      · intro g hg
        rw [hf8, hf7] at hg
        rcases foot_iff.1 hg with rfl | hg | ⟨x, hx, hg⟩
        · exact .inl foot_b
        · rcases hfr g hg with h | h
          · exact .inl (foot_l h)
          · exact .inr h
        · rcases List.mem_append.1 hx with hx | hx
          · left; rcases hg with rfl | rfl | rfl
            · exact (foot_e hx).1
            · exact (foot_e hx).2.1
            · exact (foot_e hx).2.2
          · simp at hx; subst hx
            right; rcases hg with rfl | rfl | rfl <;> assumption
      · refine (X6.trans' x7 (fun i hi => .inr (by simp at hi; subst hi; exact hpg))).trans' x8 (fun i hi => ?_)
        simp at hi
        rcases hi with rfl | rfl
        · exact .inl (by simp)
        · exact .inr heg
end
end Go.Proofs.YtbjkfgfiifnjoaaDoor
