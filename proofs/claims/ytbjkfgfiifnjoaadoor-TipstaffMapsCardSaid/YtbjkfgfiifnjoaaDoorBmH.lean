/- Package bmap: New of an Array. -/
import Derived.Test.YtbjkfgfiifnjoaaDoorBmG
import Derived.Test.YtbjkfgfiifnjoaaDoorMark
namespace Go.Proofs.YtbjkfgfiifnjoaaDoor
open Go.RowKit
set_option maxRecDepth 100000

/-- All eight keys, each with two bytes of nothing, as far as n. -/
def Zer (es : List BE) (n : Nat) : Prop := es.map (·.k) = List.range n ∧ ∀ x ∈ es, x.v0 = 0 ∧ x.v1 = 0
theorem Zer.cont {es : List BE} (h : Zer es 8) (hk : Apart1 es) : ∀ k, cont es k = if k < 8 then some (0, 0) else none := by
  intro k
  by_cases hlt : k < 8
  · rw [if_pos hlt, cont_iff hk]
    have : k ∈ es.map (·.k) := by rw [h.1]; simpa using hlt
    obtain ⟨x, hx, e⟩ := List.mem_map.1 this
    exact ⟨x, hx, e, by rw [(h.2 x hx).1, (h.2 x hx).2]⟩
  · rw [if_neg hlt, cont_none]
    intro x hx e
    have : x.k ∈ es.map (·.k) := List.mem_map.2 ⟨x, hx, rfl⟩
    rw [h.1] at this
    simp at this
    omega

set_option maxHeartbeats 16000000 in
theorem bm_new0 (w : World) : Calls Tryd.prog 16 #[specV 0] w fun e w' => NewPost w 0 (fun k => if k < 8 then some (0, 0) else none) e w' := by
  obtain ⟨i0, hi, hz0, hz1, hz2⟩ := info_parts info_ptrB
  have HCK := Lib.hid (fun w => bm_check 0 (.inl rfl) w)
  unfold specV at *
  go_enter Tryd.func16, Tryd.ntmps16
  go_upto_region 1 with (fail)
  have BS := Blk.new w 50 #[.int .i64 0, .int .i64 4, .int .i64 2, .int .i64 8]
  have x1 : Ext [] w (w.alloc (.cells #[.int .i64 0, .int .i64 4, .int .i64 2, .int .i64 8] 50)) := (Ext.refl _ _).alloc _
  generalize w.alloc (.cells #[.int .i64 0, .int .i64 4, .int .i64 2, .int .i64 8] 50) = w1 at *
  obtain ⟨bs, hbs⟩ : ∃ n, n = w.heap.size := ⟨_, rfl⟩
  rw [← hbs] at BS ⊢
  clear hbs
  have s0 := BS.cell 0
  have s1 := BS.cell 1
  have s2 := BS.cell 2
  have s3 := BS.cell 3
  have hsl := BS.lt
  simp only [List.getElem?_cons_succ, List.getElem?_cons_zero] at s0 s1 s2 s3
  go_wp2_with fail
  refine (HCK.out w1).mono ?_
  rintro e w2 ⟨rfl, x2⟩
  clear s0 s1 s2 s3 hsl
  have B2 := BS.ext x2 (by simp)
  have s0 := B2.cell 0
  have s1 := B2.cell 1
  have s2 := B2.cell 2
  have s3 := B2.cell 3
  have hsl := B2.lt
  simp only [List.getElem?_cons_succ, List.getElem?_cons_zero] at s0 s1 s2 s3
  have y2 := x1.trans x2
  go_upto_region 5 with (fail)
  have BM := Blk.new w2 115 #[.int .i64 0, .int .i64 4, .int .i64 2, .int .i64 8, .slice none 0 0, .bool false, .int .i64 0]
  have x3 : Ext [] w2 (w2.alloc (.cells #[.int .i64 0, .int .i64 4, .int .i64 2, .int .i64 8, .slice none 0 0, .bool false, .int .i64 0] 115)) := (Ext.refl _ _).alloc _
  have B3 := B2.ext x3 (by simp)
  have y3 := y2.trans x3
  have HB0 := Lib.hid y2.size
  have M3 : MapAt (w2.alloc (.cells #[.int .i64 0, .int .i64 4, .int .i64 2, .int .i64 8, .slice none 0 0, .bool false, .int .i64 0] 115)) w2.heap.size 0 (.slice none 0 0) 0 [] :=
    ⟨BM, World.ownsRow_nil _ _ _ _, by simp, by simp, by simp, List.Pairwise.nil, by simp, List.Pairwise.nil⟩
  clear s0 s1 s2 s3 hsl B2 BM x1 x2 BS y2 x3
  generalize w2.alloc (.cells #[.int .i64 0, .int .i64 4, .int .i64 2, .int .i64 8, .slice none 0 0, .bool false, .int .i64 0] 115) = w3 at *
  generalize w2.heap.size = b at *
  have s0 := B3.cell 0
  have s3 := B3.cell 3
  have hsl := B3.lt
  simp only [List.getElem?_cons_succ, List.getElem?_cons_zero] at s0 s3
  go_wp2_with fail
  clear s0 s3 hsl
  go_loopw [20] (fun i wr => ∃ (j : Nat) (l : Value) (es : List BE), i = .int .i64 (j : Int) ∧ j ≤ 8 ∧ es.length = j ∧ MapAt wr b 0 l 0 es ∧ Zer es j ∧ (∀ g ∈ foot b l es, w.heap.size ≤ g) ∧ Blk wr bs 50 [.int .i64 0, .int .i64 4, .int .i64 2, .int .i64 8] ∧ Ext [] w wr) (fun i _ => 8 - (intOf i).toNat)
  case atStart => exact ⟨0, _, [], rfl, by omega, rfl, M3, ⟨rfl, by simp⟩, by simp [foot, Value.ownBlock]; exact HB0.out, B3, y3⟩
  case round =>
    obtain ⟨j, l, es, rfl, hj, hlen, H, hz, hfo, hBs, x⟩ := hrel
    clear M3 B3 y3
    by_cases hlt : j < 8
    · have HLI := Lib.hid (bm_little j hlt)
      obtain ⟨la, lc, rfl⟩ := owns_slice H.own
      have hnb : b ∉ (Value.slice la es.length lc).ownBlock.toList := fun hm => blk_off_row H.h (by decide) H.own (by simpa using hm : (Value.slice la es.length lc).ownBlock = some b).symm
      have Br := hBs.drew
      have HBS := Lib.hid Br
      have HH := Lib.hid (H.ext0 ((Ext.refl [] wr).drew))
      have hns : bs ∉ (Value.slice la es.length lc).ownBlock.toList := fun hm => blk_off_row Br (by decide) HH.out.own (by simpa using hm : (Value.slice la es.length lc).ownBlock = some bs).symm
      have HFO := Lib.hid hfo
      have HX := Lib.hid (x.drew)
      have HZ := Lib.hid hz
      have hl8 : es.length < 8 := by omega
      have HLEN := Lib.hid hlen
      clear hlen
      go_upto_region 9 with (fail)
      have OWN := HH.out.own
      clear H x hfo hz hBs
      refine wp_region_mark 19 (S := fun w' => Ext (Value.slice la es.length lc).ownBlock.toList wr.drew w') (by kernel_rfl) (Ext.refl _ _) (fun hS => ?_)
      generalize wr.drew = w9 at *
      refine (?_ : ∀ wq, Ext (Value.slice la es.length lc).ownBlock.toList w9 wq → wq.ownsRow 0 116 1 (.slice la es.length lc) es.length (ptrE es) → wpAnyM _ _ _ _ _ _ _ _ _ wq) w9 hS OWN
      clear hS OWN
      intro wq hS OWN
      refine wpAnyM_take0 (i := 0) (oi := ⟨some 23, _, _, _, _, _⟩) (v := ?_) rfl (by kernel_rfl) (by kernel_rfl) (by kernel_rfl) (fun _ _ _ h => h) (Or.inl ⟨by rfl, ?_⟩) (by assumption) (by kernel_rfl) ?_
      rotate_left 1
      · (intro w hSw; (try dsimp only at hSw); go_split_ands; (try go_simp); (try with_reducible rfl))
      try simp only [Act.put, List.setIfInBounds_toArray, List.set_cons_zero, List.set_cons_succ]
      refine wpAnyM_take0 (i := 1) (oi := ⟨some 24, _, _, _, _, _⟩) (v := ?_) rfl (by kernel_rfl) (by kernel_rfl) (by kernel_rfl) (fun _ _ _ h => h) (Or.inl ⟨by rfl, ?_⟩) (by assumption) (by kernel_rfl) ?_
      rotate_left 1
      · (intro w hSw; (try dsimp only at hSw); go_split_ands; (try go_simp); (try with_reducible rfl))
      try simp only [Act.put, List.setIfInBounds_toArray, List.set_cons_zero, List.set_cons_succ]
      refine wpAnyM_take0 (i := 2) (oi := ⟨some 25, _, _, _, _, _⟩) (v := ?_) rfl (by kernel_rfl) (by kernel_rfl) (by kernel_rfl) (fun _ _ _ h => h) (Or.inl ⟨by rfl, ?_⟩) (by assumption) (by kernel_rfl) ?_
      rotate_left 1
      · (intro w hSw; (try dsimp only at hSw); go_split_ands; (try go_simp); (try with_reducible rfl))
      try simp only [Act.put, List.setIfInBounds_toArray, List.set_cons_zero, List.set_cons_succ]
      refine wpAnyM_take0 (i := 3) (oi := ⟨some 26, _, _, _, _, _⟩) (v := ?_) rfl (by kernel_rfl) (by kernel_rfl) (by kernel_rfl) (fun _ _ _ h => h) (Or.inl ⟨by rfl, ?_⟩) (by assumption) (by kernel_rfl) ?_
      rotate_left 1
      · (intro w hSw; (try dsimp only at hSw); go_split_ands; (try go_simp); (try with_reducible rfl))
      try simp only [Act.put, List.setIfInBounds_toArray, List.set_cons_zero, List.set_cons_succ]
      refine wpAnyM_take (i := 4) (oi := ⟨some 27, _, _, _, _, _⟩) (v := ?_) rfl (by kernel_rfl) (by kernel_rfl) (by kernel_rfl) (fun _ _ _ h => h) (Or.inl ⟨by rfl, ?_⟩) (by assumption) (by kernel_rfl) (by kernel_rfl) (by kernel_rfl) ?_
      rotate_left 1
      · (intro w hSw; (try dsimp only at hSw); go_split_ands; have c4 := (HH.out.h.ext (by assumption : Ext _ w9 w) hnb).cell 4; have hb4 := (HH.out.h.ext (by assumption : Ext _ w9 w) hnb).lt; simp only [List.getElem?_cons_succ, List.getElem?_cons_zero] at c4; (try go_simp); (try with_reducible rfl))
      try simp only [Act.put, List.setIfInBounds_toArray, List.set_cons_zero, List.set_cons_succ]
      refine wpAnyM_take0 (i := 5) (oi := ⟨some 28, _, _, _, _, _⟩) (v := ?_) rfl (by kernel_rfl) (by kernel_rfl) (by kernel_rfl) (fun _ _ _ h => h) (Or.inl ⟨by rfl, ?_⟩) (by assumption) (by kernel_rfl) ?_
      rotate_left 1
      · (intro w hSw; (try dsimp only at hSw); go_split_ands; (try go_simp); (try with_reducible rfl))
      try simp only [Act.put, List.setIfInBounds_toArray, List.set_cons_zero, List.set_cons_succ]
      refine wpAnyM_take0 (i := 8) (oi := ⟨some 31, _, _, _, _, _⟩) (v := ?_) rfl (by kernel_rfl) (by kernel_rfl) (by kernel_rfl) (fun _ _ _ h => h) (Or.inl ⟨by rfl, ?_⟩) (by assumption) (by kernel_rfl) ?_
      rotate_left 1
      · (intro w hSw; (try dsimp only at hSw); go_split_ands; (try go_simp); (try with_reducible rfl))
      try simp only [Act.put, List.setIfInBounds_toArray, List.set_cons_zero, List.set_cons_succ]
      refine wpAnyM_take (i := 9) (oi := ⟨some 32, _, _, _, _, _⟩) (v := ?_) rfl (by kernel_rfl) (by kernel_rfl) (by kernel_rfl) (fun _ _ _ h => h) (Or.inl ⟨by rfl, ?_⟩) (by assumption) (by kernel_rfl) (by kernel_rfl) (by kernel_rfl) ?_
      rotate_left 1
      · (intro w hSw; (try dsimp only at hSw); go_split_ands; have s2 := (Br.ext (by assumption : Ext _ w9 w) hns).cell 2; have hsb := (Br.ext (by assumption : Ext _ w9 w) hns).lt; simp only [List.getElem?_cons_succ, List.getElem?_cons_zero] at s2; (try go_simp); (try with_reducible rfl))
      try simp only [Act.put, List.setIfInBounds_toArray, List.set_cons_zero, List.set_cons_succ]
      refine wpAnyM_ready (rs := [6, 10]) (by kernel_rfl) (by simp) ?_
      refine AllReadyM.cons (o := ⟨some 29, _, _, _, _, _⟩) rfl (fun K hK => ?_) (AllReadyM.cons (o := ⟨some 33, _, _, _, _, _⟩) rfl (fun K hK => ?_) AllReadyM.nil)
      · skip
        go_simp
        refine (HLI.out wq).mono ?_
        rintro e wn ⟨v6, rfl, OW, x6, -⟩
        go_simp
        try have BP := BP.ext x6 (by simp)
        try have BC := BC.ext x6 (by simp)
        have OWN := owns_ext OWN x6 (by simp)
        have hSn := hS.trans (x6.sub (by simp))
        clear hS x6
        obtain ⟨wq, hwq⟩ : ∃ w, w = wn := ⟨_, rfl⟩
        subst hwq
        refine hK.out _ _ hSn (fun hS => ?_)
        clear hSn
        clear hK K
        try simp only [Act.put, List.setIfInBounds_toArray, List.set_cons_zero, List.set_cons_succ]
        refine wpAnyM_ready (rs := [7, 10]) (by kernel_rfl) (by simp) ?_
        refine AllReadyM.cons (o := ⟨some 30, _, _, _, _, _⟩) rfl (fun K hK => ?_) (AllReadyM.cons (o := ⟨some 33, _, _, _, _, _⟩) rfl (fun K hK => ?_) AllReadyM.nil)
        · skip
          have hcv := conv_reads (x := keyB4 j) (owns_reads OW) (by simp [keyB4])
          rw [show strB (keyB4 j) = keyS j from rfl] at hcv
          go_simp
          clear hcv OW
          refine hK.out _ _ hS (fun hS => ?_)
          clear hK K
          try simp only [Act.put, List.setIfInBounds_toArray, List.set_cons_zero, List.set_cons_succ]
          refine wpAnyM_ready (rs := [10]) (by kernel_rfl) (by simp) ?_
          refine AllReadyM.cons (o := ⟨some 33, _, _, _, _, _⟩) rfl (fun K hK => ?_) AllReadyM.nil
          have hmk := make2
          go_simp
          clear hmk
          have BP := Blk.new wq 5 (bytesV [0, 0]).toArray
          have xq : Ext [] wq (wq.alloc (.cells (bytesV [0, 0]).toArray 5)) := (Ext.refl _ _).alloc _
          try have OW := owns_ext OW xq (by simp)
          have OWN := owns_ext OWN xq (by simp)
          have hSn := hS.trans (xq.sub (by simp))
          have hpg : w9.heap.size ≤ wq.heap.size := hS.size
          clear hS xq
          generalize wq.alloc (.cells (bytesV [0, 0]).toArray 5) = wq2 at *
          generalize wq.heap.size = pb at *
          obtain ⟨wq, hwq⟩ : ∃ w, w = wq2 := ⟨_, rfl⟩
          subst hwq
          refine hK.out _ _ hSn (fun hS => ?_)
          clear hSn
          clear hK K
          try simp only [Act.put, List.setIfInBounds_toArray, List.set_cons_zero, List.set_cons_succ]
          refine wpAnyM_take0 (i := 11) (oi := ⟨some 34, _, _, _, _, _⟩) (v := ?_) rfl (by kernel_rfl) (by kernel_rfl) (by kernel_rfl) (fun _ _ _ h => h) (Or.inl ⟨by rfl, ?_⟩) (by assumption) (by kernel_rfl) ?_
          rotate_left 1
          · (intro w hSw; (try dsimp only at hSw); go_split_ands; (try go_simp); (try with_reducible rfl))
          try simp only [Act.put, List.setIfInBounds_toArray, List.set_cons_zero, List.set_cons_succ]
          refine wpAnyM_ready (rs := [12]) (by kernel_rfl) (by simp) ?_
          refine AllReadyM.cons (o := ⟨some 35, _, _, _, _, _⟩) rfl (fun K hK => ?_) AllReadyM.nil
          go_simp
          have BC := Blk.new wq 120 #[.slice (some ⟨pb, 0, none⟩) 2 2]
          have xq : Ext [] wq (wq.alloc (.cells #[.slice (some ⟨pb, 0, none⟩) 2 2] 120)) := (Ext.refl _ _).alloc _
          try have OW := owns_ext OW xq (by simp)
          have BP := BP.ext xq (by simp)
          have OWN := owns_ext OWN xq (by simp)
          have hSn := hS.trans (xq.sub (by simp))
          have hcg : w9.heap.size ≤ wq.heap.size := hS.size
          clear hS xq
          generalize wq.alloc (.cells #[.slice (some ⟨pb, 0, none⟩) 2 2] 120) = wq2 at *
          generalize wq.heap.size = cb at *
          obtain ⟨wq, hwq⟩ : ∃ w, w = wq2 := ⟨_, rfl⟩
          subst hwq
          refine hK.out _ _ hSn (fun hS => ?_)
          clear hSn
          clear hK K
          try simp only [Act.put, List.setIfInBounds_toArray, List.set_cons_zero, List.set_cons_succ]
          refine wpAnyM_take0 (i := 13) (oi := ⟨some 36, _, _, _, _, _⟩) (v := ?_) rfl (by kernel_rfl) (by kernel_rfl) (by kernel_rfl) (fun _ _ _ h => h) (Or.inl ⟨by rfl, ?_⟩) (by assumption) (by kernel_rfl) ?_
          rotate_left 1
          · (intro w hSw; (try dsimp only at hSw); go_split_ands; (try go_simp); (try with_reducible rfl))
          try simp only [Act.put, List.setIfInBounds_toArray, List.set_cons_zero, List.set_cons_succ]
          refine wpAnyM_ready (rs := [14]) (by kernel_rfl) (by simp) ?_
          refine AllReadyM.cons (o := ⟨some 37, _, _, _, _, _⟩) rfl (fun K hK => ?_) AllReadyM.nil
          go_simp
          have BE1 := Blk.new wq 122 #[.string (keyS j), .pointer (some ⟨cb, 0, none⟩), .int .i64 0]
          have xq : Ext [] wq (wq.alloc (.cells #[.string (keyS j), .pointer (some ⟨cb, 0, none⟩), .int .i64 0] 122)) := (Ext.refl _ _).alloc _
          have BP := BP.ext xq (by simp)
          have BC := BC.ext xq (by simp)
          have OWN := owns_ext OWN xq (by simp)
          have hSn := hS.trans (xq.sub (by simp))
          have heg : w9.heap.size ≤ wq.heap.size := hS.size
          clear hS xq
          generalize wq.alloc (.cells #[.string (keyS j), .pointer (some ⟨cb, 0, none⟩), .int .i64 0] 122) = wq2 at *
          generalize wq.heap.size = eb at *
          obtain ⟨wq, hwq⟩ : ∃ w, w = wq2 := ⟨_, rfl⟩
          subst hwq
          refine hK.out _ _ hSn (fun hS => ?_)
          clear hSn
          clear hK K
          try simp only [Act.put, List.setIfInBounds_toArray, List.set_cons_zero, List.set_cons_succ]
          refine wpAnyM_ready (rs := [15]) (by kernel_rfl) (by simp) ?_
          refine AllReadyM.cons (o := ⟨some 38, _, _, _, _, _⟩) rfl (fun K hK => ?_) AllReadyM.nil
          go_simp
          have BR := Blk.new wq 116 #[.pointer (some ⟨eb, 0, none⟩)]
          have xq : Ext [] wq (wq.alloc (.cells #[.pointer (some ⟨eb, 0, none⟩)] 116)) := (Ext.refl _ _).alloc _
          have BP := BP.ext xq (by simp)
          have BC := BC.ext xq (by simp)
          have BE1 := BE1.ext xq (by simp)
          have OWN := owns_ext OWN xq (by simp)
          have hSn := hS.trans (xq.sub (by simp))
          clear hS xq
          generalize wq.alloc (.cells #[.pointer (some ⟨eb, 0, none⟩)] 116) = wq2 at *
          generalize wq.heap.size = rb at *
          obtain ⟨wq, hwq⟩ : ∃ w, w = wq2 := ⟨_, rfl⟩
          subst hwq
          refine hK.out _ _ hSn (fun hS => ?_)
          clear hSn
          clear hK K
          try simp only [Act.put, List.setIfInBounds_toArray, List.set_cons_zero, List.set_cons_succ]
          refine wpAnyM_ready (rs := [16]) (by kernel_rfl) (by simp) ?_
          refine AllReadyM.cons (o := ⟨some 39, _, _, _, _, _⟩) rfl (fun K hK => ?_) AllReadyM.nil
          refine step_app _ rfl (.tmp 27) (.tmp 38) 113 rfl 116 i0 _ 1 8 Tryd.underlying113 hi hz0 hz1 hz2 rfl (by decide) (.slice la es.length lc) es.length (ptrE es) rfl OWN (.slice (some ⟨rb, 0, none⟩) 1 1) 1 [.pointer (some ⟨eb, 0, none⟩)] rfl (blk_reads BR 1 rfl) (by intro u hu; simp at hu; subst hu; rfl) (by unfold maxLen; omega) (by omega) ?_
          intro v8 w8 hown8 hgrow8 hfr8 _
          have x8 : Ext (Value.slice la es.length lc).ownBlock.toList wq w8 := (Ext.refl _ _).grown hgrow8 (by intro g hg; left; simp [hg])
          have BE1 := BE1.ext x8 (fun hm => blk_off_row BE1 (by decide) OWN (by simpa using hm : (Value.slice la es.length lc).ownBlock = some eb).symm)
          have BC := BC.ext x8 (fun hm => blk_off_row BC (by decide) OWN (by simpa using hm : (Value.slice la es.length lc).ownBlock = some cb).symm)
          have BP := BP.ext x8 (fun hm => blk_off_row BP (by decide) OWN (by simpa using hm : (Value.slice la es.length lc).ownBlock = some pb).symm)
          have hfr : ∀ g, v8.ownBlock = some g → (Value.slice la es.length lc).ownBlock = some g ∨ w9.heap.size ≤ g := by
            intro g hg
            rcases hfr8 with e | ⟨g', e, hle⟩
            · exact .inl (e ▸ hg)
            · rw [e] at hg; cases hg; exact .inr (Nat.le_trans hS.size hle)
          have hSn := hS.trans x8
          clear hS x8 hgrow8 hfr8 OWN BR
          obtain ⟨a8, c8, rfl⟩ := owns_slice hown8
          obtain ⟨wq, hwq⟩ : ∃ w, w = w8 := ⟨_, rfl⟩
          subst hwq
          refine hK.out _ _ hSn (fun hS => ?_)
          clear hSn
          clear hK K
          try simp only [Act.put, List.setIfInBounds_toArray, List.set_cons_zero, List.set_cons_succ]
          refine wpAnyM_take0 (i := 17) (oi := ⟨some 40, _, _, _, _, _⟩) (v := ?_) rfl (by kernel_rfl) (by kernel_rfl) (by kernel_rfl) (fun _ _ _ h => h) (Or.inl ⟨by rfl, ?_⟩) (by assumption) (by kernel_rfl) ?_
          rotate_left 1
          · (intro w hSw; (try dsimp only at hSw); go_split_ands; (try go_simp); (try with_reducible rfl))
          try simp only [Act.put, List.setIfInBounds_toArray, List.set_cons_zero, List.set_cons_succ]
          refine wpAnyM_take0 (i := 18) (oi := ⟨some 41, _, _, _, _, _⟩) (v := ?_) rfl (by kernel_rfl) (by kernel_rfl) (by kernel_rfl) (fun _ _ _ h => h) (Or.inl ⟨by rfl, ?_⟩) (by assumption) (by kernel_rfl) ?_
          rotate_left 1
          · (intro w hSw; (try dsimp only at hSw); go_split_ands; (try go_simp); (try with_reducible rfl))
          try simp only [Act.put, List.setIfInBounds_toArray, List.set_cons_zero, List.set_cons_succ]
          refine wpAnyM_ready (rs := [19]) (by kernel_rfl) (by simp) ?_
          refine AllReadyM.mark (o := ⟨none, _, _, _, _, _⟩) rfl (by kernel_rfl) (fun K hK => ?_)
          have B := HH.out.h.ext hS hnb
          have c4 := B.cell 4
          have hb4 := B.lt
          have f4 := B.frozen 4
          simp only [List.getElem?_cons_succ, List.getElem?_cons_zero] at c4
          go_simp
          clear c4 hb4 f4
          have xs : Ext [b] wq (wq.setCell ⟨b, 4, none⟩ (.slice a8 (es.length + 1) c8)) := (Ext.refl _ _).setCell (.inl (by simp)) _
          have X6 : Ext (b :: (Value.slice la es.length lc).ownBlock.toList) w9 (wq.setCell ⟨b, 4, none⟩ (.slice a8 (es.length + 1) c8)) := (hS.sub (fun i hi => .inl (List.mem_cons_of_mem _ hi))).trans (xs.sub (fun i hi => .inl (by simp at hi; simp [hi])))
          have hno : ∀ x ∈ es, x.k ≠ j := fun x hx e => by
            have h1 : x.k ∈ es.map (·.k) := List.mem_map.2 ⟨x, hx, rfl⟩
            rw [HZ.out.1] at h1
            simp at h1
            omega
          have h6 := HH.out.add ⟨j, eb, cb, pb, 0, 0, 0⟩ hno hlt X6 heg hcg hpg (B.set 4 (.slice a8 (es.length + 1) c8)) (owns_ext hown8 xs (fun g hg hm => blk_off_row B (by decide) hown8 (by simp at hm; rw [hg, hm])))
            (BE1.setOther (p := ⟨b, 4, none⟩) (blk_ne BE1 B (by decide)) _) (BC.setOther (p := ⟨b, 4, none⟩) (blk_ne BC B (by decide)) _) (BP.setOther (p := ⟨b, 4, none⟩) (blk_ne BP B (by decide)) _)
          have hBs := HBS.out.ext X6 (by
            intro hm
            rcases List.mem_cons.1 hm with hm | hm
            · exact blk_ne HBS.out HH.out.h (by decide) hm
            · exact hns hm)
          clear xs B hown8 BE1 BC BP hS
          generalize wq.setCell ⟨b, 4, none⟩ (.slice a8 (es.length + 1) c8) = w6 at *
          refine hK.out _ _ trivial (fun hS => ?_)
          clear hK K
          try simp only [Act.put]
          refine wpAnyH_done (by kernel_rfl) ?_ _
          have HREL := Lib.hid (show ∃ (j' : Nat) (l : Value) (es : List BE), Value.int .i64 ((j : Int) + 1) = .int .i64 (j' : Int) ∧ j' ≤ 8 ∧ es.length = j' ∧ MapAt w6 b 0 l 0 es ∧ Zer es j' ∧ (∀ g ∈ foot b l es, w.heap.size ≤ g) ∧ Blk w6 bs 50 [.int .i64 0, .int .i64 4, .int .i64 2, .int .i64 8] ∧ Ext [] w w6 from by
            have hw9 := HX.out.size
            refine ⟨j + 1, _, _, by go_num, by omega, by simp [HLEN.out], h6, ⟨by rw [List.map_append, HZ.out.1, List.range_succ]; rfl, ?_⟩, ?_, hBs, HX.out.trans' X6 (fun i hi => .inr ?_)⟩
            · intro x hx
              rcases List.mem_append.1 hx with hx | hx
              · exact HZ.out.2 x hx
              · simp at hx; subst hx; exact ⟨rfl, rfl⟩
            · intro g hg
              rcases foot_iff.1 hg with rfl | hg | ⟨x, hx, hg⟩
              · exact HFO.out _ foot_b
              · rcases hfr g hg with h | h
                · exact HFO.out _ (foot_l h)
                · omega
              · rcases List.mem_append.1 hx with hx | hx
                · rcases hg with rfl | rfl | rfl
                  · exact HFO.out _ (foot_e hx).1
                  · exact HFO.out _ (foot_e hx).2.1
                  · exact HFO.out _ (foot_e hx).2.2
                · simp at hx; subst hx
                  rcases hg with rfl | rfl | rfl <;> exact Nat.le_trans hw9 (by assumption)
            · rcases List.mem_cons.1 hi with rfl | hi
              · exact HFO.out _ foot_b
              · exact HFO.out _ (foot_l (by simpa using hi)))
          clear h6 hBs X6
          go_wp2_with fail
          go_roundw
          case rel => exact HREL.out
          case measure => simp [intOf]; omega
        · skip
          have hmk := make2
          go_simp
          clear hmk
          have BP := Blk.new wq 5 (bytesV [0, 0]).toArray
          have xq : Ext [] wq (wq.alloc (.cells (bytesV [0, 0]).toArray 5)) := (Ext.refl _ _).alloc _
          try have OW := owns_ext OW xq (by simp)
          have OWN := owns_ext OWN xq (by simp)
          have hSn := hS.trans (xq.sub (by simp))
          have hpg : w9.heap.size ≤ wq.heap.size := hS.size
          clear hS xq
          generalize wq.alloc (.cells (bytesV [0, 0]).toArray 5) = wq2 at *
          generalize wq.heap.size = pb at *
          obtain ⟨wq, hwq⟩ : ∃ w, w = wq2 := ⟨_, rfl⟩
          subst hwq
          refine hK.out _ _ hSn (fun hS => ?_)
          clear hSn
          clear hK K
          try simp only [Act.put, List.setIfInBounds_toArray, List.set_cons_zero, List.set_cons_succ]
          refine wpAnyM_take0 (i := 11) (oi := ⟨some 34, _, _, _, _, _⟩) (v := ?_) rfl (by kernel_rfl) (by kernel_rfl) (by kernel_rfl) (fun _ _ _ h => h) (Or.inl ⟨by rfl, ?_⟩) (by assumption) (by kernel_rfl) ?_
          rotate_left 1
          · (intro w hSw; (try dsimp only at hSw); go_split_ands; (try go_simp); (try with_reducible rfl))
          try simp only [Act.put, List.setIfInBounds_toArray, List.set_cons_zero, List.set_cons_succ]
          refine wpAnyM_ready (rs := [7, 12]) (by kernel_rfl) (by simp) ?_
          refine AllReadyM.cons (o := ⟨some 30, _, _, _, _, _⟩) rfl (fun K hK => ?_) (AllReadyM.cons (o := ⟨some 35, _, _, _, _, _⟩) rfl (fun K hK => ?_) AllReadyM.nil)
          · skip
            have hcv := conv_reads (x := keyB4 j) (owns_reads OW) (by simp [keyB4])
            rw [show strB (keyB4 j) = keyS j from rfl] at hcv
            go_simp
            clear hcv OW
            refine hK.out _ _ hS (fun hS => ?_)
            clear hK K
            try simp only [Act.put, List.setIfInBounds_toArray, List.set_cons_zero, List.set_cons_succ]
            refine wpAnyM_ready (rs := [12]) (by kernel_rfl) (by simp) ?_
            refine AllReadyM.cons (o := ⟨some 35, _, _, _, _, _⟩) rfl (fun K hK => ?_) AllReadyM.nil
            go_simp
            have BC := Blk.new wq 120 #[.slice (some ⟨pb, 0, none⟩) 2 2]
            have xq : Ext [] wq (wq.alloc (.cells #[.slice (some ⟨pb, 0, none⟩) 2 2] 120)) := (Ext.refl _ _).alloc _
            try have OW := owns_ext OW xq (by simp)
            have BP := BP.ext xq (by simp)
            have OWN := owns_ext OWN xq (by simp)
            have hSn := hS.trans (xq.sub (by simp))
            have hcg : w9.heap.size ≤ wq.heap.size := hS.size
            clear hS xq
            generalize wq.alloc (.cells #[.slice (some ⟨pb, 0, none⟩) 2 2] 120) = wq2 at *
            generalize wq.heap.size = cb at *
            obtain ⟨wq, hwq⟩ : ∃ w, w = wq2 := ⟨_, rfl⟩
            subst hwq
            refine hK.out _ _ hSn (fun hS => ?_)
            clear hSn
            clear hK K
            try simp only [Act.put, List.setIfInBounds_toArray, List.set_cons_zero, List.set_cons_succ]
            refine wpAnyM_take0 (i := 13) (oi := ⟨some 36, _, _, _, _, _⟩) (v := ?_) rfl (by kernel_rfl) (by kernel_rfl) (by kernel_rfl) (fun _ _ _ h => h) (Or.inl ⟨by rfl, ?_⟩) (by assumption) (by kernel_rfl) ?_
            rotate_left 1
            · (intro w hSw; (try dsimp only at hSw); go_split_ands; (try go_simp); (try with_reducible rfl))
            try simp only [Act.put, List.setIfInBounds_toArray, List.set_cons_zero, List.set_cons_succ]
            refine wpAnyM_ready (rs := [14]) (by kernel_rfl) (by simp) ?_
            refine AllReadyM.cons (o := ⟨some 37, _, _, _, _, _⟩) rfl (fun K hK => ?_) AllReadyM.nil
            go_simp
            have BE1 := Blk.new wq 122 #[.string (keyS j), .pointer (some ⟨cb, 0, none⟩), .int .i64 0]
            have xq : Ext [] wq (wq.alloc (.cells #[.string (keyS j), .pointer (some ⟨cb, 0, none⟩), .int .i64 0] 122)) := (Ext.refl _ _).alloc _
            have BP := BP.ext xq (by simp)
            have BC := BC.ext xq (by simp)
            have OWN := owns_ext OWN xq (by simp)
            have hSn := hS.trans (xq.sub (by simp))
            have heg : w9.heap.size ≤ wq.heap.size := hS.size
            clear hS xq
            generalize wq.alloc (.cells #[.string (keyS j), .pointer (some ⟨cb, 0, none⟩), .int .i64 0] 122) = wq2 at *
            generalize wq.heap.size = eb at *
            obtain ⟨wq, hwq⟩ : ∃ w, w = wq2 := ⟨_, rfl⟩
            subst hwq
            refine hK.out _ _ hSn (fun hS => ?_)
            clear hSn
            clear hK K
            try simp only [Act.put, List.setIfInBounds_toArray, List.set_cons_zero, List.set_cons_succ]
            refine wpAnyM_ready (rs := [15]) (by kernel_rfl) (by simp) ?_
            refine AllReadyM.cons (o := ⟨some 38, _, _, _, _, _⟩) rfl (fun K hK => ?_) AllReadyM.nil
            go_simp
            have BR := Blk.new wq 116 #[.pointer (some ⟨eb, 0, none⟩)]
            have xq : Ext [] wq (wq.alloc (.cells #[.pointer (some ⟨eb, 0, none⟩)] 116)) := (Ext.refl _ _).alloc _
            have BP := BP.ext xq (by simp)
            have BC := BC.ext xq (by simp)
            have BE1 := BE1.ext xq (by simp)
            have OWN := owns_ext OWN xq (by simp)
            have hSn := hS.trans (xq.sub (by simp))
            clear hS xq
            generalize wq.alloc (.cells #[.pointer (some ⟨eb, 0, none⟩)] 116) = wq2 at *
            generalize wq.heap.size = rb at *
            obtain ⟨wq, hwq⟩ : ∃ w, w = wq2 := ⟨_, rfl⟩
            subst hwq
            refine hK.out _ _ hSn (fun hS => ?_)
            clear hSn
            clear hK K
            try simp only [Act.put, List.setIfInBounds_toArray, List.set_cons_zero, List.set_cons_succ]
            refine wpAnyM_ready (rs := [16]) (by kernel_rfl) (by simp) ?_
            refine AllReadyM.cons (o := ⟨some 39, _, _, _, _, _⟩) rfl (fun K hK => ?_) AllReadyM.nil
            refine step_app _ rfl (.tmp 27) (.tmp 38) 113 rfl 116 i0 _ 1 8 Tryd.underlying113 hi hz0 hz1 hz2 rfl (by decide) (.slice la es.length lc) es.length (ptrE es) rfl OWN (.slice (some ⟨rb, 0, none⟩) 1 1) 1 [.pointer (some ⟨eb, 0, none⟩)] rfl (blk_reads BR 1 rfl) (by intro u hu; simp at hu; subst hu; rfl) (by unfold maxLen; omega) (by omega) ?_
            intro v8 w8 hown8 hgrow8 hfr8 _
            have x8 : Ext (Value.slice la es.length lc).ownBlock.toList wq w8 := (Ext.refl _ _).grown hgrow8 (by intro g hg; left; simp [hg])
            have BE1 := BE1.ext x8 (fun hm => blk_off_row BE1 (by decide) OWN (by simpa using hm : (Value.slice la es.length lc).ownBlock = some eb).symm)
            have BC := BC.ext x8 (fun hm => blk_off_row BC (by decide) OWN (by simpa using hm : (Value.slice la es.length lc).ownBlock = some cb).symm)
            have BP := BP.ext x8 (fun hm => blk_off_row BP (by decide) OWN (by simpa using hm : (Value.slice la es.length lc).ownBlock = some pb).symm)
            have hfr : ∀ g, v8.ownBlock = some g → (Value.slice la es.length lc).ownBlock = some g ∨ w9.heap.size ≤ g := by
              intro g hg
              rcases hfr8 with e | ⟨g', e, hle⟩
              · exact .inl (e ▸ hg)
              · rw [e] at hg; cases hg; exact .inr (Nat.le_trans hS.size hle)
            have hSn := hS.trans x8
            clear hS x8 hgrow8 hfr8 OWN BR
            obtain ⟨a8, c8, rfl⟩ := owns_slice hown8
            obtain ⟨wq, hwq⟩ : ∃ w, w = w8 := ⟨_, rfl⟩
            subst hwq
            refine hK.out _ _ hSn (fun hS => ?_)
            clear hSn
            clear hK K
            try simp only [Act.put, List.setIfInBounds_toArray, List.set_cons_zero, List.set_cons_succ]
            refine wpAnyM_take0 (i := 17) (oi := ⟨some 40, _, _, _, _, _⟩) (v := ?_) rfl (by kernel_rfl) (by kernel_rfl) (by kernel_rfl) (fun _ _ _ h => h) (Or.inl ⟨by rfl, ?_⟩) (by assumption) (by kernel_rfl) ?_
            rotate_left 1
            · (intro w hSw; (try dsimp only at hSw); go_split_ands; (try go_simp); (try with_reducible rfl))
            try simp only [Act.put, List.setIfInBounds_toArray, List.set_cons_zero, List.set_cons_succ]
            refine wpAnyM_take0 (i := 18) (oi := ⟨some 41, _, _, _, _, _⟩) (v := ?_) rfl (by kernel_rfl) (by kernel_rfl) (by kernel_rfl) (fun _ _ _ h => h) (Or.inl ⟨by rfl, ?_⟩) (by assumption) (by kernel_rfl) ?_
            rotate_left 1
            · (intro w hSw; (try dsimp only at hSw); go_split_ands; (try go_simp); (try with_reducible rfl))
            try simp only [Act.put, List.setIfInBounds_toArray, List.set_cons_zero, List.set_cons_succ]
            refine wpAnyM_ready (rs := [19]) (by kernel_rfl) (by simp) ?_
            refine AllReadyM.mark (o := ⟨none, _, _, _, _, _⟩) rfl (by kernel_rfl) (fun K hK => ?_)
            have B := HH.out.h.ext hS hnb
            have c4 := B.cell 4
            have hb4 := B.lt
            have f4 := B.frozen 4
            simp only [List.getElem?_cons_succ, List.getElem?_cons_zero] at c4
            go_simp
            clear c4 hb4 f4
            have xs : Ext [b] wq (wq.setCell ⟨b, 4, none⟩ (.slice a8 (es.length + 1) c8)) := (Ext.refl _ _).setCell (.inl (by simp)) _
            have X6 : Ext (b :: (Value.slice la es.length lc).ownBlock.toList) w9 (wq.setCell ⟨b, 4, none⟩ (.slice a8 (es.length + 1) c8)) := (hS.sub (fun i hi => .inl (List.mem_cons_of_mem _ hi))).trans (xs.sub (fun i hi => .inl (by simp at hi; simp [hi])))
            have hno : ∀ x ∈ es, x.k ≠ j := fun x hx e => by
              have h1 : x.k ∈ es.map (·.k) := List.mem_map.2 ⟨x, hx, rfl⟩
              rw [HZ.out.1] at h1
              simp at h1
              omega
            have h6 := HH.out.add ⟨j, eb, cb, pb, 0, 0, 0⟩ hno hlt X6 heg hcg hpg (B.set 4 (.slice a8 (es.length + 1) c8)) (owns_ext hown8 xs (fun g hg hm => blk_off_row B (by decide) hown8 (by simp at hm; rw [hg, hm])))
              (BE1.setOther (p := ⟨b, 4, none⟩) (blk_ne BE1 B (by decide)) _) (BC.setOther (p := ⟨b, 4, none⟩) (blk_ne BC B (by decide)) _) (BP.setOther (p := ⟨b, 4, none⟩) (blk_ne BP B (by decide)) _)
            have hBs := HBS.out.ext X6 (by
              intro hm
              rcases List.mem_cons.1 hm with hm | hm
              · exact blk_ne HBS.out HH.out.h (by decide) hm
              · exact hns hm)
            clear xs B hown8 BE1 BC BP hS
            generalize wq.setCell ⟨b, 4, none⟩ (.slice a8 (es.length + 1) c8) = w6 at *
            refine hK.out _ _ trivial (fun hS => ?_)
            clear hK K
            try simp only [Act.put]
            refine wpAnyH_done (by kernel_rfl) ?_ _
            have HREL := Lib.hid (show ∃ (j' : Nat) (l : Value) (es : List BE), Value.int .i64 ((j : Int) + 1) = .int .i64 (j' : Int) ∧ j' ≤ 8 ∧ es.length = j' ∧ MapAt w6 b 0 l 0 es ∧ Zer es j' ∧ (∀ g ∈ foot b l es, w.heap.size ≤ g) ∧ Blk w6 bs 50 [.int .i64 0, .int .i64 4, .int .i64 2, .int .i64 8] ∧ Ext [] w w6 from by
              have hw9 := HX.out.size
              refine ⟨j + 1, _, _, by go_num, by omega, by simp [HLEN.out], h6, ⟨by rw [List.map_append, HZ.out.1, List.range_succ]; rfl, ?_⟩, ?_, hBs, HX.out.trans' X6 (fun i hi => .inr ?_)⟩
              · intro x hx
                rcases List.mem_append.1 hx with hx | hx
                · exact HZ.out.2 x hx
                · simp at hx; subst hx; exact ⟨rfl, rfl⟩
              · intro g hg
                rcases foot_iff.1 hg with rfl | hg | ⟨x, hx, hg⟩
                · exact HFO.out _ foot_b
                · rcases hfr g hg with h | h
                  · exact HFO.out _ (foot_l h)
                  · omega
                · rcases List.mem_append.1 hx with hx | hx
                  · rcases hg with rfl | rfl | rfl
                    · exact HFO.out _ (foot_e hx).1
                    · exact HFO.out _ (foot_e hx).2.1
                    · exact HFO.out _ (foot_e hx).2.2
                  · simp at hx; subst hx
                    rcases hg with rfl | rfl | rfl <;> exact Nat.le_trans hw9 (by assumption)
              · rcases List.mem_cons.1 hi with rfl | hi
                · exact HFO.out _ foot_b
                · exact HFO.out _ (foot_l (by simpa using hi)))
            clear h6 hBs X6
            go_wp2_with fail
            go_roundw
            case rel => exact HREL.out
            case measure => simp [intOf]; omega
          · skip
            go_simp
            have BC := Blk.new wq 120 #[.slice (some ⟨pb, 0, none⟩) 2 2]
            have xq : Ext [] wq (wq.alloc (.cells #[.slice (some ⟨pb, 0, none⟩) 2 2] 120)) := (Ext.refl _ _).alloc _
            try have OW := owns_ext OW xq (by simp)
            have BP := BP.ext xq (by simp)
            have OWN := owns_ext OWN xq (by simp)
            have hSn := hS.trans (xq.sub (by simp))
            have hcg : w9.heap.size ≤ wq.heap.size := hS.size
            clear hS xq
            generalize wq.alloc (.cells #[.slice (some ⟨pb, 0, none⟩) 2 2] 120) = wq2 at *
            generalize wq.heap.size = cb at *
            obtain ⟨wq, hwq⟩ : ∃ w, w = wq2 := ⟨_, rfl⟩
            subst hwq
            refine hK.out _ _ hSn (fun hS => ?_)
            clear hSn
            clear hK K
            try simp only [Act.put, List.setIfInBounds_toArray, List.set_cons_zero, List.set_cons_succ]
            refine wpAnyM_ready (rs := [7]) (by kernel_rfl) (by simp) ?_
            refine AllReadyM.cons (o := ⟨some 30, _, _, _, _, _⟩) rfl (fun K hK => ?_) AllReadyM.nil
            have hcv := conv_reads (x := keyB4 j) (owns_reads OW) (by simp [keyB4])
            rw [show strB (keyB4 j) = keyS j from rfl] at hcv
            go_simp
            clear hcv OW
            refine hK.out _ _ hS (fun hS => ?_)
            clear hK K
            try simp only [Act.put, List.setIfInBounds_toArray, List.set_cons_zero, List.set_cons_succ]
            refine wpAnyM_take0 (i := 13) (oi := ⟨some 36, _, _, _, _, _⟩) (v := ?_) rfl (by kernel_rfl) (by kernel_rfl) (by kernel_rfl) (fun _ _ _ h => h) (Or.inl ⟨by rfl, ?_⟩) (by assumption) (by kernel_rfl) ?_
            rotate_left 1
            · (intro w hSw; (try dsimp only at hSw); go_split_ands; (try go_simp); (try with_reducible rfl))
            try simp only [Act.put, List.setIfInBounds_toArray, List.set_cons_zero, List.set_cons_succ]
            refine wpAnyM_ready (rs := [14]) (by kernel_rfl) (by simp) ?_
            refine AllReadyM.cons (o := ⟨some 37, _, _, _, _, _⟩) rfl (fun K hK => ?_) AllReadyM.nil
            go_simp
            have BE1 := Blk.new wq 122 #[.string (keyS j), .pointer (some ⟨cb, 0, none⟩), .int .i64 0]
            have xq : Ext [] wq (wq.alloc (.cells #[.string (keyS j), .pointer (some ⟨cb, 0, none⟩), .int .i64 0] 122)) := (Ext.refl _ _).alloc _
            have BP := BP.ext xq (by simp)
            have BC := BC.ext xq (by simp)
            have OWN := owns_ext OWN xq (by simp)
            have hSn := hS.trans (xq.sub (by simp))
            have heg : w9.heap.size ≤ wq.heap.size := hS.size
            clear hS xq
            generalize wq.alloc (.cells #[.string (keyS j), .pointer (some ⟨cb, 0, none⟩), .int .i64 0] 122) = wq2 at *
            generalize wq.heap.size = eb at *
            obtain ⟨wq, hwq⟩ : ∃ w, w = wq2 := ⟨_, rfl⟩
            subst hwq
            refine hK.out _ _ hSn (fun hS => ?_)
            clear hSn
            clear hK K
            try simp only [Act.put, List.setIfInBounds_toArray, List.set_cons_zero, List.set_cons_succ]
            refine wpAnyM_ready (rs := [15]) (by kernel_rfl) (by simp) ?_
            refine AllReadyM.cons (o := ⟨some 38, _, _, _, _, _⟩) rfl (fun K hK => ?_) AllReadyM.nil
            go_simp
            have BR := Blk.new wq 116 #[.pointer (some ⟨eb, 0, none⟩)]
            have xq : Ext [] wq (wq.alloc (.cells #[.pointer (some ⟨eb, 0, none⟩)] 116)) := (Ext.refl _ _).alloc _
            have BP := BP.ext xq (by simp)
            have BC := BC.ext xq (by simp)
            have BE1 := BE1.ext xq (by simp)
            have OWN := owns_ext OWN xq (by simp)
            have hSn := hS.trans (xq.sub (by simp))
            clear hS xq
            generalize wq.alloc (.cells #[.pointer (some ⟨eb, 0, none⟩)] 116) = wq2 at *
            generalize wq.heap.size = rb at *
            obtain ⟨wq, hwq⟩ : ∃ w, w = wq2 := ⟨_, rfl⟩
            subst hwq
            refine hK.out _ _ hSn (fun hS => ?_)
            clear hSn
            clear hK K
            try simp only [Act.put, List.setIfInBounds_toArray, List.set_cons_zero, List.set_cons_succ]
            refine wpAnyM_ready (rs := [16]) (by kernel_rfl) (by simp) ?_
            refine AllReadyM.cons (o := ⟨some 39, _, _, _, _, _⟩) rfl (fun K hK => ?_) AllReadyM.nil
            refine step_app _ rfl (.tmp 27) (.tmp 38) 113 rfl 116 i0 _ 1 8 Tryd.underlying113 hi hz0 hz1 hz2 rfl (by decide) (.slice la es.length lc) es.length (ptrE es) rfl OWN (.slice (some ⟨rb, 0, none⟩) 1 1) 1 [.pointer (some ⟨eb, 0, none⟩)] rfl (blk_reads BR 1 rfl) (by intro u hu; simp at hu; subst hu; rfl) (by unfold maxLen; omega) (by omega) ?_
            intro v8 w8 hown8 hgrow8 hfr8 _
            have x8 : Ext (Value.slice la es.length lc).ownBlock.toList wq w8 := (Ext.refl _ _).grown hgrow8 (by intro g hg; left; simp [hg])
            have BE1 := BE1.ext x8 (fun hm => blk_off_row BE1 (by decide) OWN (by simpa using hm : (Value.slice la es.length lc).ownBlock = some eb).symm)
            have BC := BC.ext x8 (fun hm => blk_off_row BC (by decide) OWN (by simpa using hm : (Value.slice la es.length lc).ownBlock = some cb).symm)
            have BP := BP.ext x8 (fun hm => blk_off_row BP (by decide) OWN (by simpa using hm : (Value.slice la es.length lc).ownBlock = some pb).symm)
            have hfr : ∀ g, v8.ownBlock = some g → (Value.slice la es.length lc).ownBlock = some g ∨ w9.heap.size ≤ g := by
              intro g hg
              rcases hfr8 with e | ⟨g', e, hle⟩
              · exact .inl (e ▸ hg)
              · rw [e] at hg; cases hg; exact .inr (Nat.le_trans hS.size hle)
            have hSn := hS.trans x8
            clear hS x8 hgrow8 hfr8 OWN BR
            obtain ⟨a8, c8, rfl⟩ := owns_slice hown8
            obtain ⟨wq, hwq⟩ : ∃ w, w = w8 := ⟨_, rfl⟩
            subst hwq
            refine hK.out _ _ hSn (fun hS => ?_)
            clear hSn
            clear hK K
            try simp only [Act.put, List.setIfInBounds_toArray, List.set_cons_zero, List.set_cons_succ]
            refine wpAnyM_take0 (i := 17) (oi := ⟨some 40, _, _, _, _, _⟩) (v := ?_) rfl (by kernel_rfl) (by kernel_rfl) (by kernel_rfl) (fun _ _ _ h => h) (Or.inl ⟨by rfl, ?_⟩) (by assumption) (by kernel_rfl) ?_
            rotate_left 1
            · (intro w hSw; (try dsimp only at hSw); go_split_ands; (try go_simp); (try with_reducible rfl))
            try simp only [Act.put, List.setIfInBounds_toArray, List.set_cons_zero, List.set_cons_succ]
            refine wpAnyM_take0 (i := 18) (oi := ⟨some 41, _, _, _, _, _⟩) (v := ?_) rfl (by kernel_rfl) (by kernel_rfl) (by kernel_rfl) (fun _ _ _ h => h) (Or.inl ⟨by rfl, ?_⟩) (by assumption) (by kernel_rfl) ?_
            rotate_left 1
            · (intro w hSw; (try dsimp only at hSw); go_split_ands; (try go_simp); (try with_reducible rfl))
            try simp only [Act.put, List.setIfInBounds_toArray, List.set_cons_zero, List.set_cons_succ]
            refine wpAnyM_ready (rs := [19]) (by kernel_rfl) (by simp) ?_
            refine AllReadyM.mark (o := ⟨none, _, _, _, _, _⟩) rfl (by kernel_rfl) (fun K hK => ?_)
            have B := HH.out.h.ext hS hnb
            have c4 := B.cell 4
            have hb4 := B.lt
            have f4 := B.frozen 4
            simp only [List.getElem?_cons_succ, List.getElem?_cons_zero] at c4
            go_simp
            clear c4 hb4 f4
            have xs : Ext [b] wq (wq.setCell ⟨b, 4, none⟩ (.slice a8 (es.length + 1) c8)) := (Ext.refl _ _).setCell (.inl (by simp)) _
            have X6 : Ext (b :: (Value.slice la es.length lc).ownBlock.toList) w9 (wq.setCell ⟨b, 4, none⟩ (.slice a8 (es.length + 1) c8)) := (hS.sub (fun i hi => .inl (List.mem_cons_of_mem _ hi))).trans (xs.sub (fun i hi => .inl (by simp at hi; simp [hi])))
            have hno : ∀ x ∈ es, x.k ≠ j := fun x hx e => by
              have h1 : x.k ∈ es.map (·.k) := List.mem_map.2 ⟨x, hx, rfl⟩
              rw [HZ.out.1] at h1
              simp at h1
              omega
            have h6 := HH.out.add ⟨j, eb, cb, pb, 0, 0, 0⟩ hno hlt X6 heg hcg hpg (B.set 4 (.slice a8 (es.length + 1) c8)) (owns_ext hown8 xs (fun g hg hm => blk_off_row B (by decide) hown8 (by simp at hm; rw [hg, hm])))
              (BE1.setOther (p := ⟨b, 4, none⟩) (blk_ne BE1 B (by decide)) _) (BC.setOther (p := ⟨b, 4, none⟩) (blk_ne BC B (by decide)) _) (BP.setOther (p := ⟨b, 4, none⟩) (blk_ne BP B (by decide)) _)
            have hBs := HBS.out.ext X6 (by
              intro hm
              rcases List.mem_cons.1 hm with hm | hm
              · exact blk_ne HBS.out HH.out.h (by decide) hm
              · exact hns hm)
            clear xs B hown8 BE1 BC BP hS
            generalize wq.setCell ⟨b, 4, none⟩ (.slice a8 (es.length + 1) c8) = w6 at *
            refine hK.out _ _ trivial (fun hS => ?_)
            clear hK K
            try simp only [Act.put]
            refine wpAnyH_done (by kernel_rfl) ?_ _
            have HREL := Lib.hid (show ∃ (j' : Nat) (l : Value) (es : List BE), Value.int .i64 ((j : Int) + 1) = .int .i64 (j' : Int) ∧ j' ≤ 8 ∧ es.length = j' ∧ MapAt w6 b 0 l 0 es ∧ Zer es j' ∧ (∀ g ∈ foot b l es, w.heap.size ≤ g) ∧ Blk w6 bs 50 [.int .i64 0, .int .i64 4, .int .i64 2, .int .i64 8] ∧ Ext [] w w6 from by
              have hw9 := HX.out.size
              refine ⟨j + 1, _, _, by go_num, by omega, by simp [HLEN.out], h6, ⟨by rw [List.map_append, HZ.out.1, List.range_succ]; rfl, ?_⟩, ?_, hBs, HX.out.trans' X6 (fun i hi => .inr ?_)⟩
              · intro x hx
                rcases List.mem_append.1 hx with hx | hx
                · exact HZ.out.2 x hx
                · simp at hx; subst hx; exact ⟨rfl, rfl⟩
              · intro g hg
                rcases foot_iff.1 hg with rfl | hg | ⟨x, hx, hg⟩
                · exact HFO.out _ foot_b
                · rcases hfr g hg with h | h
                  · exact HFO.out _ (foot_l h)
                  · omega
                · rcases List.mem_append.1 hx with hx | hx
                  · rcases hg with rfl | rfl | rfl
                    · exact HFO.out _ (foot_e hx).1
                    · exact HFO.out _ (foot_e hx).2.1
                    · exact HFO.out _ (foot_e hx).2.2
                  · simp at hx; subst hx
                    rcases hg with rfl | rfl | rfl <;> exact Nat.le_trans hw9 (by assumption)
              · rcases List.mem_cons.1 hi with rfl | hi
                · exact HFO.out _ foot_b
                · exact HFO.out _ (foot_l (by simpa using hi)))
            clear h6 hBs X6
            go_wp2_with fail
            go_roundw
            case rel => exact HREL.out
            case measure => simp [intOf]; omega
      · skip
        have hmk := make2
        go_simp
        clear hmk
        have BP := Blk.new wq 5 (bytesV [0, 0]).toArray
        have xq : Ext [] wq (wq.alloc (.cells (bytesV [0, 0]).toArray 5)) := (Ext.refl _ _).alloc _
        try have OW := owns_ext OW xq (by simp)
        have OWN := owns_ext OWN xq (by simp)
        have hSn := hS.trans (xq.sub (by simp))
        have hpg : w9.heap.size ≤ wq.heap.size := hS.size
        clear hS xq
        generalize wq.alloc (.cells (bytesV [0, 0]).toArray 5) = wq2 at *
        generalize wq.heap.size = pb at *
        obtain ⟨wq, hwq⟩ : ∃ w, w = wq2 := ⟨_, rfl⟩
        subst hwq
        refine hK.out _ _ hSn (fun hS => ?_)
        clear hSn
        clear hK K
        try simp only [Act.put, List.setIfInBounds_toArray, List.set_cons_zero, List.set_cons_succ]
        refine wpAnyM_take0 (i := 11) (oi := ⟨some 34, _, _, _, _, _⟩) (v := ?_) rfl (by kernel_rfl) (by kernel_rfl) (by kernel_rfl) (fun _ _ _ h => h) (Or.inl ⟨by rfl, ?_⟩) (by assumption) (by kernel_rfl) ?_
        rotate_left 1
        · (intro w hSw; (try dsimp only at hSw); go_split_ands; (try go_simp); (try with_reducible rfl))
        try simp only [Act.put, List.setIfInBounds_toArray, List.set_cons_zero, List.set_cons_succ]
        refine wpAnyM_ready (rs := [6, 12]) (by kernel_rfl) (by simp) ?_
        refine AllReadyM.cons (o := ⟨some 29, _, _, _, _, _⟩) rfl (fun K hK => ?_) (AllReadyM.cons (o := ⟨some 35, _, _, _, _, _⟩) rfl (fun K hK => ?_) AllReadyM.nil)
        · skip
          go_simp
          refine (HLI.out wq).mono ?_
          rintro e wn ⟨v6, rfl, OW, x6, -⟩
          go_simp
          try have BP := BP.ext x6 (by simp)
          try have BC := BC.ext x6 (by simp)
          have OWN := owns_ext OWN x6 (by simp)
          have hSn := hS.trans (x6.sub (by simp))
          clear hS x6
          obtain ⟨wq, hwq⟩ : ∃ w, w = wn := ⟨_, rfl⟩
          subst hwq
          refine hK.out _ _ hSn (fun hS => ?_)
          clear hSn
          clear hK K
          try simp only [Act.put, List.setIfInBounds_toArray, List.set_cons_zero, List.set_cons_succ]
          refine wpAnyM_ready (rs := [7, 12]) (by kernel_rfl) (by simp) ?_
          refine AllReadyM.cons (o := ⟨some 30, _, _, _, _, _⟩) rfl (fun K hK => ?_) (AllReadyM.cons (o := ⟨some 35, _, _, _, _, _⟩) rfl (fun K hK => ?_) AllReadyM.nil)
          · skip
            have hcv := conv_reads (x := keyB4 j) (owns_reads OW) (by simp [keyB4])
            rw [show strB (keyB4 j) = keyS j from rfl] at hcv
            go_simp
            clear hcv OW
            refine hK.out _ _ hS (fun hS => ?_)
            clear hK K
            try simp only [Act.put, List.setIfInBounds_toArray, List.set_cons_zero, List.set_cons_succ]
            refine wpAnyM_ready (rs := [12]) (by kernel_rfl) (by simp) ?_
            refine AllReadyM.cons (o := ⟨some 35, _, _, _, _, _⟩) rfl (fun K hK => ?_) AllReadyM.nil
            go_simp
            have BC := Blk.new wq 120 #[.slice (some ⟨pb, 0, none⟩) 2 2]
            have xq : Ext [] wq (wq.alloc (.cells #[.slice (some ⟨pb, 0, none⟩) 2 2] 120)) := (Ext.refl _ _).alloc _
            try have OW := owns_ext OW xq (by simp)
            have BP := BP.ext xq (by simp)
            have OWN := owns_ext OWN xq (by simp)
            have hSn := hS.trans (xq.sub (by simp))
            have hcg : w9.heap.size ≤ wq.heap.size := hS.size
            clear hS xq
            generalize wq.alloc (.cells #[.slice (some ⟨pb, 0, none⟩) 2 2] 120) = wq2 at *
            generalize wq.heap.size = cb at *
            obtain ⟨wq, hwq⟩ : ∃ w, w = wq2 := ⟨_, rfl⟩
            subst hwq
            refine hK.out _ _ hSn (fun hS => ?_)
            clear hSn
            clear hK K
            try simp only [Act.put, List.setIfInBounds_toArray, List.set_cons_zero, List.set_cons_succ]
            refine wpAnyM_take0 (i := 13) (oi := ⟨some 36, _, _, _, _, _⟩) (v := ?_) rfl (by kernel_rfl) (by kernel_rfl) (by kernel_rfl) (fun _ _ _ h => h) (Or.inl ⟨by rfl, ?_⟩) (by assumption) (by kernel_rfl) ?_
            rotate_left 1
            · (intro w hSw; (try dsimp only at hSw); go_split_ands; (try go_simp); (try with_reducible rfl))
            try simp only [Act.put, List.setIfInBounds_toArray, List.set_cons_zero, List.set_cons_succ]
            refine wpAnyM_ready (rs := [14]) (by kernel_rfl) (by simp) ?_
            refine AllReadyM.cons (o := ⟨some 37, _, _, _, _, _⟩) rfl (fun K hK => ?_) AllReadyM.nil
            go_simp
            have BE1 := Blk.new wq 122 #[.string (keyS j), .pointer (some ⟨cb, 0, none⟩), .int .i64 0]
            have xq : Ext [] wq (wq.alloc (.cells #[.string (keyS j), .pointer (some ⟨cb, 0, none⟩), .int .i64 0] 122)) := (Ext.refl _ _).alloc _
            have BP := BP.ext xq (by simp)
            have BC := BC.ext xq (by simp)
            have OWN := owns_ext OWN xq (by simp)
            have hSn := hS.trans (xq.sub (by simp))
            have heg : w9.heap.size ≤ wq.heap.size := hS.size
            clear hS xq
            generalize wq.alloc (.cells #[.string (keyS j), .pointer (some ⟨cb, 0, none⟩), .int .i64 0] 122) = wq2 at *
            generalize wq.heap.size = eb at *
            obtain ⟨wq, hwq⟩ : ∃ w, w = wq2 := ⟨_, rfl⟩
            subst hwq
            refine hK.out _ _ hSn (fun hS => ?_)
            clear hSn
            clear hK K
            try simp only [Act.put, List.setIfInBounds_toArray, List.set_cons_zero, List.set_cons_succ]
            refine wpAnyM_ready (rs := [15]) (by kernel_rfl) (by simp) ?_
            refine AllReadyM.cons (o := ⟨some 38, _, _, _, _, _⟩) rfl (fun K hK => ?_) AllReadyM.nil
            go_simp
            have BR := Blk.new wq 116 #[.pointer (some ⟨eb, 0, none⟩)]
            have xq : Ext [] wq (wq.alloc (.cells #[.pointer (some ⟨eb, 0, none⟩)] 116)) := (Ext.refl _ _).alloc _
            have BP := BP.ext xq (by simp)
            have BC := BC.ext xq (by simp)
            have BE1 := BE1.ext xq (by simp)
            have OWN := owns_ext OWN xq (by simp)
            have hSn := hS.trans (xq.sub (by simp))
            clear hS xq
            generalize wq.alloc (.cells #[.pointer (some ⟨eb, 0, none⟩)] 116) = wq2 at *
            generalize wq.heap.size = rb at *
            obtain ⟨wq, hwq⟩ : ∃ w, w = wq2 := ⟨_, rfl⟩
            subst hwq
            refine hK.out _ _ hSn (fun hS => ?_)
            clear hSn
            clear hK K
            try simp only [Act.put, List.setIfInBounds_toArray, List.set_cons_zero, List.set_cons_succ]
            refine wpAnyM_ready (rs := [16]) (by kernel_rfl) (by simp) ?_
            refine AllReadyM.cons (o := ⟨some 39, _, _, _, _, _⟩) rfl (fun K hK => ?_) AllReadyM.nil
            refine step_app _ rfl (.tmp 27) (.tmp 38) 113 rfl 116 i0 _ 1 8 Tryd.underlying113 hi hz0 hz1 hz2 rfl (by decide) (.slice la es.length lc) es.length (ptrE es) rfl OWN (.slice (some ⟨rb, 0, none⟩) 1 1) 1 [.pointer (some ⟨eb, 0, none⟩)] rfl (blk_reads BR 1 rfl) (by intro u hu; simp at hu; subst hu; rfl) (by unfold maxLen; omega) (by omega) ?_
            intro v8 w8 hown8 hgrow8 hfr8 _
            have x8 : Ext (Value.slice la es.length lc).ownBlock.toList wq w8 := (Ext.refl _ _).grown hgrow8 (by intro g hg; left; simp [hg])
            have BE1 := BE1.ext x8 (fun hm => blk_off_row BE1 (by decide) OWN (by simpa using hm : (Value.slice la es.length lc).ownBlock = some eb).symm)
            have BC := BC.ext x8 (fun hm => blk_off_row BC (by decide) OWN (by simpa using hm : (Value.slice la es.length lc).ownBlock = some cb).symm)
            have BP := BP.ext x8 (fun hm => blk_off_row BP (by decide) OWN (by simpa using hm : (Value.slice la es.length lc).ownBlock = some pb).symm)
            have hfr : ∀ g, v8.ownBlock = some g → (Value.slice la es.length lc).ownBlock = some g ∨ w9.heap.size ≤ g := by
              intro g hg
              rcases hfr8 with e | ⟨g', e, hle⟩
              · exact .inl (e ▸ hg)
              · rw [e] at hg; cases hg; exact .inr (Nat.le_trans hS.size hle)
            have hSn := hS.trans x8
            clear hS x8 hgrow8 hfr8 OWN BR
            obtain ⟨a8, c8, rfl⟩ := owns_slice hown8
            obtain ⟨wq, hwq⟩ : ∃ w, w = w8 := ⟨_, rfl⟩
            subst hwq
            refine hK.out _ _ hSn (fun hS => ?_)
            clear hSn
            clear hK K
            try simp only [Act.put, List.setIfInBounds_toArray, List.set_cons_zero, List.set_cons_succ]
            refine wpAnyM_take0 (i := 17) (oi := ⟨some 40, _, _, _, _, _⟩) (v := ?_) rfl (by kernel_rfl) (by kernel_rfl) (by kernel_rfl) (fun _ _ _ h => h) (Or.inl ⟨by rfl, ?_⟩) (by assumption) (by kernel_rfl) ?_
            rotate_left 1
            · (intro w hSw; (try dsimp only at hSw); go_split_ands; (try go_simp); (try with_reducible rfl))
            try simp only [Act.put, List.setIfInBounds_toArray, List.set_cons_zero, List.set_cons_succ]
            refine wpAnyM_take0 (i := 18) (oi := ⟨some 41, _, _, _, _, _⟩) (v := ?_) rfl (by kernel_rfl) (by kernel_rfl) (by kernel_rfl) (fun _ _ _ h => h) (Or.inl ⟨by rfl, ?_⟩) (by assumption) (by kernel_rfl) ?_
            rotate_left 1
            · (intro w hSw; (try dsimp only at hSw); go_split_ands; (try go_simp); (try with_reducible rfl))
            try simp only [Act.put, List.setIfInBounds_toArray, List.set_cons_zero, List.set_cons_succ]
            refine wpAnyM_ready (rs := [19]) (by kernel_rfl) (by simp) ?_
            refine AllReadyM.mark (o := ⟨none, _, _, _, _, _⟩) rfl (by kernel_rfl) (fun K hK => ?_)
            have B := HH.out.h.ext hS hnb
            have c4 := B.cell 4
            have hb4 := B.lt
            have f4 := B.frozen 4
            simp only [List.getElem?_cons_succ, List.getElem?_cons_zero] at c4
            go_simp
            clear c4 hb4 f4
            have xs : Ext [b] wq (wq.setCell ⟨b, 4, none⟩ (.slice a8 (es.length + 1) c8)) := (Ext.refl _ _).setCell (.inl (by simp)) _
            have X6 : Ext (b :: (Value.slice la es.length lc).ownBlock.toList) w9 (wq.setCell ⟨b, 4, none⟩ (.slice a8 (es.length + 1) c8)) := (hS.sub (fun i hi => .inl (List.mem_cons_of_mem _ hi))).trans (xs.sub (fun i hi => .inl (by simp at hi; simp [hi])))
            have hno : ∀ x ∈ es, x.k ≠ j := fun x hx e => by
              have h1 : x.k ∈ es.map (·.k) := List.mem_map.2 ⟨x, hx, rfl⟩
              rw [HZ.out.1] at h1
              simp at h1
              omega
            have h6 := HH.out.add ⟨j, eb, cb, pb, 0, 0, 0⟩ hno hlt X6 heg hcg hpg (B.set 4 (.slice a8 (es.length + 1) c8)) (owns_ext hown8 xs (fun g hg hm => blk_off_row B (by decide) hown8 (by simp at hm; rw [hg, hm])))
              (BE1.setOther (p := ⟨b, 4, none⟩) (blk_ne BE1 B (by decide)) _) (BC.setOther (p := ⟨b, 4, none⟩) (blk_ne BC B (by decide)) _) (BP.setOther (p := ⟨b, 4, none⟩) (blk_ne BP B (by decide)) _)
            have hBs := HBS.out.ext X6 (by
              intro hm
              rcases List.mem_cons.1 hm with hm | hm
              · exact blk_ne HBS.out HH.out.h (by decide) hm
              · exact hns hm)
            clear xs B hown8 BE1 BC BP hS
            generalize wq.setCell ⟨b, 4, none⟩ (.slice a8 (es.length + 1) c8) = w6 at *
            refine hK.out _ _ trivial (fun hS => ?_)
            clear hK K
            try simp only [Act.put]
            refine wpAnyH_done (by kernel_rfl) ?_ _
            have HREL := Lib.hid (show ∃ (j' : Nat) (l : Value) (es : List BE), Value.int .i64 ((j : Int) + 1) = .int .i64 (j' : Int) ∧ j' ≤ 8 ∧ es.length = j' ∧ MapAt w6 b 0 l 0 es ∧ Zer es j' ∧ (∀ g ∈ foot b l es, w.heap.size ≤ g) ∧ Blk w6 bs 50 [.int .i64 0, .int .i64 4, .int .i64 2, .int .i64 8] ∧ Ext [] w w6 from by
              have hw9 := HX.out.size
              refine ⟨j + 1, _, _, by go_num, by omega, by simp [HLEN.out], h6, ⟨by rw [List.map_append, HZ.out.1, List.range_succ]; rfl, ?_⟩, ?_, hBs, HX.out.trans' X6 (fun i hi => .inr ?_)⟩
              · intro x hx
                rcases List.mem_append.1 hx with hx | hx
                · exact HZ.out.2 x hx
                · simp at hx; subst hx; exact ⟨rfl, rfl⟩
              · intro g hg
                rcases foot_iff.1 hg with rfl | hg | ⟨x, hx, hg⟩
                · exact HFO.out _ foot_b
                · rcases hfr g hg with h | h
                  · exact HFO.out _ (foot_l h)
                  · omega
                · rcases List.mem_append.1 hx with hx | hx
                  · rcases hg with rfl | rfl | rfl
                    · exact HFO.out _ (foot_e hx).1
                    · exact HFO.out _ (foot_e hx).2.1
                    · exact HFO.out _ (foot_e hx).2.2
                  · simp at hx; subst hx
                    rcases hg with rfl | rfl | rfl <;> exact Nat.le_trans hw9 (by assumption)
              · rcases List.mem_cons.1 hi with rfl | hi
                · exact HFO.out _ foot_b
                · exact HFO.out _ (foot_l (by simpa using hi)))
            clear h6 hBs X6
            go_wp2_with fail
            go_roundw
            case rel => exact HREL.out
            case measure => simp [intOf]; omega
          · skip
            go_simp
            have BC := Blk.new wq 120 #[.slice (some ⟨pb, 0, none⟩) 2 2]
            have xq : Ext [] wq (wq.alloc (.cells #[.slice (some ⟨pb, 0, none⟩) 2 2] 120)) := (Ext.refl _ _).alloc _
            try have OW := owns_ext OW xq (by simp)
            have BP := BP.ext xq (by simp)
            have OWN := owns_ext OWN xq (by simp)
            have hSn := hS.trans (xq.sub (by simp))
            have hcg : w9.heap.size ≤ wq.heap.size := hS.size
            clear hS xq
            generalize wq.alloc (.cells #[.slice (some ⟨pb, 0, none⟩) 2 2] 120) = wq2 at *
            generalize wq.heap.size = cb at *
            obtain ⟨wq, hwq⟩ : ∃ w, w = wq2 := ⟨_, rfl⟩
            subst hwq
            refine hK.out _ _ hSn (fun hS => ?_)
            clear hSn
            clear hK K
            try simp only [Act.put, List.setIfInBounds_toArray, List.set_cons_zero, List.set_cons_succ]
            refine wpAnyM_ready (rs := [7]) (by kernel_rfl) (by simp) ?_
            refine AllReadyM.cons (o := ⟨some 30, _, _, _, _, _⟩) rfl (fun K hK => ?_) AllReadyM.nil
            have hcv := conv_reads (x := keyB4 j) (owns_reads OW) (by simp [keyB4])
            rw [show strB (keyB4 j) = keyS j from rfl] at hcv
            go_simp
            clear hcv OW
            refine hK.out _ _ hS (fun hS => ?_)
            clear hK K
            try simp only [Act.put, List.setIfInBounds_toArray, List.set_cons_zero, List.set_cons_succ]
            refine wpAnyM_take0 (i := 13) (oi := ⟨some 36, _, _, _, _, _⟩) (v := ?_) rfl (by kernel_rfl) (by kernel_rfl) (by kernel_rfl) (fun _ _ _ h => h) (Or.inl ⟨by rfl, ?_⟩) (by assumption) (by kernel_rfl) ?_
            rotate_left 1
            · (intro w hSw; (try dsimp only at hSw); go_split_ands; (try go_simp); (try with_reducible rfl))
            try simp only [Act.put, List.setIfInBounds_toArray, List.set_cons_zero, List.set_cons_succ]
            refine wpAnyM_ready (rs := [14]) (by kernel_rfl) (by simp) ?_
            refine AllReadyM.cons (o := ⟨some 37, _, _, _, _, _⟩) rfl (fun K hK => ?_) AllReadyM.nil
            go_simp
            have BE1 := Blk.new wq 122 #[.string (keyS j), .pointer (some ⟨cb, 0, none⟩), .int .i64 0]
            have xq : Ext [] wq (wq.alloc (.cells #[.string (keyS j), .pointer (some ⟨cb, 0, none⟩), .int .i64 0] 122)) := (Ext.refl _ _).alloc _
            have BP := BP.ext xq (by simp)
            have BC := BC.ext xq (by simp)
            have OWN := owns_ext OWN xq (by simp)
            have hSn := hS.trans (xq.sub (by simp))
            have heg : w9.heap.size ≤ wq.heap.size := hS.size
            clear hS xq
            generalize wq.alloc (.cells #[.string (keyS j), .pointer (some ⟨cb, 0, none⟩), .int .i64 0] 122) = wq2 at *
            generalize wq.heap.size = eb at *
            obtain ⟨wq, hwq⟩ : ∃ w, w = wq2 := ⟨_, rfl⟩
            subst hwq
            refine hK.out _ _ hSn (fun hS => ?_)
            clear hSn
            clear hK K
            try simp only [Act.put, List.setIfInBounds_toArray, List.set_cons_zero, List.set_cons_succ]
            refine wpAnyM_ready (rs := [15]) (by kernel_rfl) (by simp) ?_
            refine AllReadyM.cons (o := ⟨some 38, _, _, _, _, _⟩) rfl (fun K hK => ?_) AllReadyM.nil
            go_simp
            have BR := Blk.new wq 116 #[.pointer (some ⟨eb, 0, none⟩)]
            have xq : Ext [] wq (wq.alloc (.cells #[.pointer (some ⟨eb, 0, none⟩)] 116)) := (Ext.refl _ _).alloc _
            have BP := BP.ext xq (by simp)
            have BC := BC.ext xq (by simp)
            have BE1 := BE1.ext xq (by simp)
            have OWN := owns_ext OWN xq (by simp)
            have hSn := hS.trans (xq.sub (by simp))
            clear hS xq
            generalize wq.alloc (.cells #[.pointer (some ⟨eb, 0, none⟩)] 116) = wq2 at *
            generalize wq.heap.size = rb at *
            obtain ⟨wq, hwq⟩ : ∃ w, w = wq2 := ⟨_, rfl⟩
            subst hwq
            refine hK.out _ _ hSn (fun hS => ?_)
            clear hSn
            clear hK K
            try simp only [Act.put, List.setIfInBounds_toArray, List.set_cons_zero, List.set_cons_succ]
            refine wpAnyM_ready (rs := [16]) (by kernel_rfl) (by simp) ?_
            refine AllReadyM.cons (o := ⟨some 39, _, _, _, _, _⟩) rfl (fun K hK => ?_) AllReadyM.nil
            refine step_app _ rfl (.tmp 27) (.tmp 38) 113 rfl 116 i0 _ 1 8 Tryd.underlying113 hi hz0 hz1 hz2 rfl (by decide) (.slice la es.length lc) es.length (ptrE es) rfl OWN (.slice (some ⟨rb, 0, none⟩) 1 1) 1 [.pointer (some ⟨eb, 0, none⟩)] rfl (blk_reads BR 1 rfl) (by intro u hu; simp at hu; subst hu; rfl) (by unfold maxLen; omega) (by omega) ?_
            intro v8 w8 hown8 hgrow8 hfr8 _
            have x8 : Ext (Value.slice la es.length lc).ownBlock.toList wq w8 := (Ext.refl _ _).grown hgrow8 (by intro g hg; left; simp [hg])
            have BE1 := BE1.ext x8 (fun hm => blk_off_row BE1 (by decide) OWN (by simpa using hm : (Value.slice la es.length lc).ownBlock = some eb).symm)
            have BC := BC.ext x8 (fun hm => blk_off_row BC (by decide) OWN (by simpa using hm : (Value.slice la es.length lc).ownBlock = some cb).symm)
            have BP := BP.ext x8 (fun hm => blk_off_row BP (by decide) OWN (by simpa using hm : (Value.slice la es.length lc).ownBlock = some pb).symm)
            have hfr : ∀ g, v8.ownBlock = some g → (Value.slice la es.length lc).ownBlock = some g ∨ w9.heap.size ≤ g := by
              intro g hg
              rcases hfr8 with e | ⟨g', e, hle⟩
              · exact .inl (e ▸ hg)
              · rw [e] at hg; cases hg; exact .inr (Nat.le_trans hS.size hle)
            have hSn := hS.trans x8
            clear hS x8 hgrow8 hfr8 OWN BR
            obtain ⟨a8, c8, rfl⟩ := owns_slice hown8
            obtain ⟨wq, hwq⟩ : ∃ w, w = w8 := ⟨_, rfl⟩
            subst hwq
            refine hK.out _ _ hSn (fun hS => ?_)
            clear hSn
            clear hK K
            try simp only [Act.put, List.setIfInBounds_toArray, List.set_cons_zero, List.set_cons_succ]
            refine wpAnyM_take0 (i := 17) (oi := ⟨some 40, _, _, _, _, _⟩) (v := ?_) rfl (by kernel_rfl) (by kernel_rfl) (by kernel_rfl) (fun _ _ _ h => h) (Or.inl ⟨by rfl, ?_⟩) (by assumption) (by kernel_rfl) ?_
            rotate_left 1
            · (intro w hSw; (try dsimp only at hSw); go_split_ands; (try go_simp); (try with_reducible rfl))
            try simp only [Act.put, List.setIfInBounds_toArray, List.set_cons_zero, List.set_cons_succ]
            refine wpAnyM_take0 (i := 18) (oi := ⟨some 41, _, _, _, _, _⟩) (v := ?_) rfl (by kernel_rfl) (by kernel_rfl) (by kernel_rfl) (fun _ _ _ h => h) (Or.inl ⟨by rfl, ?_⟩) (by assumption) (by kernel_rfl) ?_
            rotate_left 1
            · (intro w hSw; (try dsimp only at hSw); go_split_ands; (try go_simp); (try with_reducible rfl))
            try simp only [Act.put, List.setIfInBounds_toArray, List.set_cons_zero, List.set_cons_succ]
            refine wpAnyM_ready (rs := [19]) (by kernel_rfl) (by simp) ?_
            refine AllReadyM.mark (o := ⟨none, _, _, _, _, _⟩) rfl (by kernel_rfl) (fun K hK => ?_)
            have B := HH.out.h.ext hS hnb
            have c4 := B.cell 4
            have hb4 := B.lt
            have f4 := B.frozen 4
            simp only [List.getElem?_cons_succ, List.getElem?_cons_zero] at c4
            go_simp
            clear c4 hb4 f4
            have xs : Ext [b] wq (wq.setCell ⟨b, 4, none⟩ (.slice a8 (es.length + 1) c8)) := (Ext.refl _ _).setCell (.inl (by simp)) _
            have X6 : Ext (b :: (Value.slice la es.length lc).ownBlock.toList) w9 (wq.setCell ⟨b, 4, none⟩ (.slice a8 (es.length + 1) c8)) := (hS.sub (fun i hi => .inl (List.mem_cons_of_mem _ hi))).trans (xs.sub (fun i hi => .inl (by simp at hi; simp [hi])))
            have hno : ∀ x ∈ es, x.k ≠ j := fun x hx e => by
              have h1 : x.k ∈ es.map (·.k) := List.mem_map.2 ⟨x, hx, rfl⟩
              rw [HZ.out.1] at h1
              simp at h1
              omega
            have h6 := HH.out.add ⟨j, eb, cb, pb, 0, 0, 0⟩ hno hlt X6 heg hcg hpg (B.set 4 (.slice a8 (es.length + 1) c8)) (owns_ext hown8 xs (fun g hg hm => blk_off_row B (by decide) hown8 (by simp at hm; rw [hg, hm])))
              (BE1.setOther (p := ⟨b, 4, none⟩) (blk_ne BE1 B (by decide)) _) (BC.setOther (p := ⟨b, 4, none⟩) (blk_ne BC B (by decide)) _) (BP.setOther (p := ⟨b, 4, none⟩) (blk_ne BP B (by decide)) _)
            have hBs := HBS.out.ext X6 (by
              intro hm
              rcases List.mem_cons.1 hm with hm | hm
              · exact blk_ne HBS.out HH.out.h (by decide) hm
              · exact hns hm)
            clear xs B hown8 BE1 BC BP hS
            generalize wq.setCell ⟨b, 4, none⟩ (.slice a8 (es.length + 1) c8) = w6 at *
            refine hK.out _ _ trivial (fun hS => ?_)
            clear hK K
            try simp only [Act.put]
            refine wpAnyH_done (by kernel_rfl) ?_ _
            have HREL := Lib.hid (show ∃ (j' : Nat) (l : Value) (es : List BE), Value.int .i64 ((j : Int) + 1) = .int .i64 (j' : Int) ∧ j' ≤ 8 ∧ es.length = j' ∧ MapAt w6 b 0 l 0 es ∧ Zer es j' ∧ (∀ g ∈ foot b l es, w.heap.size ≤ g) ∧ Blk w6 bs 50 [.int .i64 0, .int .i64 4, .int .i64 2, .int .i64 8] ∧ Ext [] w w6 from by
              have hw9 := HX.out.size
              refine ⟨j + 1, _, _, by go_num, by omega, by simp [HLEN.out], h6, ⟨by rw [List.map_append, HZ.out.1, List.range_succ]; rfl, ?_⟩, ?_, hBs, HX.out.trans' X6 (fun i hi => .inr ?_)⟩
              · intro x hx
                rcases List.mem_append.1 hx with hx | hx
                · exact HZ.out.2 x hx
                · simp at hx; subst hx; exact ⟨rfl, rfl⟩
              · intro g hg
                rcases foot_iff.1 hg with rfl | hg | ⟨x, hx, hg⟩
                · exact HFO.out _ foot_b
                · rcases hfr g hg with h | h
                  · exact HFO.out _ (foot_l h)
                  · omega
                · rcases List.mem_append.1 hx with hx | hx
                  · rcases hg with rfl | rfl | rfl
                    · exact HFO.out _ (foot_e hx).1
                    · exact HFO.out _ (foot_e hx).2.1
                    · exact HFO.out _ (foot_e hx).2.2
                  · simp at hx; subst hx
                    rcases hg with rfl | rfl | rfl <;> exact Nat.le_trans hw9 (by assumption)
              · rcases List.mem_cons.1 hi with rfl | hi
                · exact HFO.out _ foot_b
                · exact HFO.out _ (foot_l (by simpa using hi)))
            clear h6 hBs X6
            go_wp2_with fail
            go_roundw
            case rel => exact HREL.out
            case measure => simp [intOf]; omega
        · skip
          go_simp
          have BC := Blk.new wq 120 #[.slice (some ⟨pb, 0, none⟩) 2 2]
          have xq : Ext [] wq (wq.alloc (.cells #[.slice (some ⟨pb, 0, none⟩) 2 2] 120)) := (Ext.refl _ _).alloc _
          try have OW := owns_ext OW xq (by simp)
          have BP := BP.ext xq (by simp)
          have OWN := owns_ext OWN xq (by simp)
          have hSn := hS.trans (xq.sub (by simp))
          have hcg : w9.heap.size ≤ wq.heap.size := hS.size
          clear hS xq
          generalize wq.alloc (.cells #[.slice (some ⟨pb, 0, none⟩) 2 2] 120) = wq2 at *
          generalize wq.heap.size = cb at *
          obtain ⟨wq, hwq⟩ : ∃ w, w = wq2 := ⟨_, rfl⟩
          subst hwq
          refine hK.out _ _ hSn (fun hS => ?_)
          clear hSn
          clear hK K
          try simp only [Act.put, List.setIfInBounds_toArray, List.set_cons_zero, List.set_cons_succ]
          refine wpAnyM_ready (rs := [6]) (by kernel_rfl) (by simp) ?_
          refine AllReadyM.cons (o := ⟨some 29, _, _, _, _, _⟩) rfl (fun K hK => ?_) AllReadyM.nil
          go_simp
          refine (HLI.out wq).mono ?_
          rintro e wn ⟨v6, rfl, OW, x6, -⟩
          go_simp
          try have BP := BP.ext x6 (by simp)
          try have BC := BC.ext x6 (by simp)
          have OWN := owns_ext OWN x6 (by simp)
          have hSn := hS.trans (x6.sub (by simp))
          clear hS x6
          obtain ⟨wq, hwq⟩ : ∃ w, w = wn := ⟨_, rfl⟩
          subst hwq
          refine hK.out _ _ hSn (fun hS => ?_)
          clear hSn
          clear hK K
          try simp only [Act.put, List.setIfInBounds_toArray, List.set_cons_zero, List.set_cons_succ]
          refine wpAnyM_ready (rs := [7]) (by kernel_rfl) (by simp) ?_
          refine AllReadyM.cons (o := ⟨some 30, _, _, _, _, _⟩) rfl (fun K hK => ?_) AllReadyM.nil
          have hcv := conv_reads (x := keyB4 j) (owns_reads OW) (by simp [keyB4])
          rw [show strB (keyB4 j) = keyS j from rfl] at hcv
          go_simp
          clear hcv OW
          refine hK.out _ _ hS (fun hS => ?_)
          clear hK K
          try simp only [Act.put, List.setIfInBounds_toArray, List.set_cons_zero, List.set_cons_succ]
          refine wpAnyM_take0 (i := 13) (oi := ⟨some 36, _, _, _, _, _⟩) (v := ?_) rfl (by kernel_rfl) (by kernel_rfl) (by kernel_rfl) (fun _ _ _ h => h) (Or.inl ⟨by rfl, ?_⟩) (by assumption) (by kernel_rfl) ?_
          rotate_left 1
          · (intro w hSw; (try dsimp only at hSw); go_split_ands; (try go_simp); (try with_reducible rfl))
          try simp only [Act.put, List.setIfInBounds_toArray, List.set_cons_zero, List.set_cons_succ]
          refine wpAnyM_ready (rs := [14]) (by kernel_rfl) (by simp) ?_
          refine AllReadyM.cons (o := ⟨some 37, _, _, _, _, _⟩) rfl (fun K hK => ?_) AllReadyM.nil
          go_simp
          have BE1 := Blk.new wq 122 #[.string (keyS j), .pointer (some ⟨cb, 0, none⟩), .int .i64 0]
          have xq : Ext [] wq (wq.alloc (.cells #[.string (keyS j), .pointer (some ⟨cb, 0, none⟩), .int .i64 0] 122)) := (Ext.refl _ _).alloc _
          have BP := BP.ext xq (by simp)
          have BC := BC.ext xq (by simp)
          have OWN := owns_ext OWN xq (by simp)
          have hSn := hS.trans (xq.sub (by simp))
          have heg : w9.heap.size ≤ wq.heap.size := hS.size
          clear hS xq
          generalize wq.alloc (.cells #[.string (keyS j), .pointer (some ⟨cb, 0, none⟩), .int .i64 0] 122) = wq2 at *
          generalize wq.heap.size = eb at *
          obtain ⟨wq, hwq⟩ : ∃ w, w = wq2 := ⟨_, rfl⟩
          subst hwq
          refine hK.out _ _ hSn (fun hS => ?_)
          clear hSn
          clear hK K
          try simp only [Act.put, List.setIfInBounds_toArray, List.set_cons_zero, List.set_cons_succ]
          refine wpAnyM_ready (rs := [15]) (by kernel_rfl) (by simp) ?_
          refine AllReadyM.cons (o := ⟨some 38, _, _, _, _, _⟩) rfl (fun K hK => ?_) AllReadyM.nil
          go_simp
          have BR := Blk.new wq 116 #[.pointer (some ⟨eb, 0, none⟩)]
          have xq : Ext [] wq (wq.alloc (.cells #[.pointer (some ⟨eb, 0, none⟩)] 116)) := (Ext.refl _ _).alloc _
          have BP := BP.ext xq (by simp)
          have BC := BC.ext xq (by simp)
          have BE1 := BE1.ext xq (by simp)
          have OWN := owns_ext OWN xq (by simp)
          have hSn := hS.trans (xq.sub (by simp))
          clear hS xq
          generalize wq.alloc (.cells #[.pointer (some ⟨eb, 0, none⟩)] 116) = wq2 at *
          generalize wq.heap.size = rb at *
          obtain ⟨wq, hwq⟩ : ∃ w, w = wq2 := ⟨_, rfl⟩
          subst hwq
          refine hK.out _ _ hSn (fun hS => ?_)
          clear hSn
          clear hK K
          try simp only [Act.put, List.setIfInBounds_toArray, List.set_cons_zero, List.set_cons_succ]
          refine wpAnyM_ready (rs := [16]) (by kernel_rfl) (by simp) ?_
          refine AllReadyM.cons (o := ⟨some 39, _, _, _, _, _⟩) rfl (fun K hK => ?_) AllReadyM.nil
          refine step_app _ rfl (.tmp 27) (.tmp 38) 113 rfl 116 i0 _ 1 8 Tryd.underlying113 hi hz0 hz1 hz2 rfl (by decide) (.slice la es.length lc) es.length (ptrE es) rfl OWN (.slice (some ⟨rb, 0, none⟩) 1 1) 1 [.pointer (some ⟨eb, 0, none⟩)] rfl (blk_reads BR 1 rfl) (by intro u hu; simp at hu; subst hu; rfl) (by unfold maxLen; omega) (by omega) ?_
          intro v8 w8 hown8 hgrow8 hfr8 _
          have x8 : Ext (Value.slice la es.length lc).ownBlock.toList wq w8 := (Ext.refl _ _).grown hgrow8 (by intro g hg; left; simp [hg])
          have BE1 := BE1.ext x8 (fun hm => blk_off_row BE1 (by decide) OWN (by simpa using hm : (Value.slice la es.length lc).ownBlock = some eb).symm)
          have BC := BC.ext x8 (fun hm => blk_off_row BC (by decide) OWN (by simpa using hm : (Value.slice la es.length lc).ownBlock = some cb).symm)
          have BP := BP.ext x8 (fun hm => blk_off_row BP (by decide) OWN (by simpa using hm : (Value.slice la es.length lc).ownBlock = some pb).symm)
          have hfr : ∀ g, v8.ownBlock = some g → (Value.slice la es.length lc).ownBlock = some g ∨ w9.heap.size ≤ g := by
            intro g hg
            rcases hfr8 with e | ⟨g', e, hle⟩
            · exact .inl (e ▸ hg)
            · rw [e] at hg; cases hg; exact .inr (Nat.le_trans hS.size hle)
          have hSn := hS.trans x8
          clear hS x8 hgrow8 hfr8 OWN BR
          obtain ⟨a8, c8, rfl⟩ := owns_slice hown8
          obtain ⟨wq, hwq⟩ : ∃ w, w = w8 := ⟨_, rfl⟩
          subst hwq
          refine hK.out _ _ hSn (fun hS => ?_)
          clear hSn
          clear hK K
          try simp only [Act.put, List.setIfInBounds_toArray, List.set_cons_zero, List.set_cons_succ]
          refine wpAnyM_take0 (i := 17) (oi := ⟨some 40, _, _, _, _, _⟩) (v := ?_) rfl (by kernel_rfl) (by kernel_rfl) (by kernel_rfl) (fun _ _ _ h => h) (Or.inl ⟨by rfl, ?_⟩) (by assumption) (by kernel_rfl) ?_
          rotate_left 1
          · (intro w hSw; (try dsimp only at hSw); go_split_ands; (try go_simp); (try with_reducible rfl))
          try simp only [Act.put, List.setIfInBounds_toArray, List.set_cons_zero, List.set_cons_succ]
          refine wpAnyM_take0 (i := 18) (oi := ⟨some 41, _, _, _, _, _⟩) (v := ?_) rfl (by kernel_rfl) (by kernel_rfl) (by kernel_rfl) (fun _ _ _ h => h) (Or.inl ⟨by rfl, ?_⟩) (by assumption) (by kernel_rfl) ?_
          rotate_left 1
          · (intro w hSw; (try dsimp only at hSw); go_split_ands; (try go_simp); (try with_reducible rfl))
          try simp only [Act.put, List.setIfInBounds_toArray, List.set_cons_zero, List.set_cons_succ]
          refine wpAnyM_ready (rs := [19]) (by kernel_rfl) (by simp) ?_
          refine AllReadyM.mark (o := ⟨none, _, _, _, _, _⟩) rfl (by kernel_rfl) (fun K hK => ?_)
          have B := HH.out.h.ext hS hnb
          have c4 := B.cell 4
          have hb4 := B.lt
          have f4 := B.frozen 4
          simp only [List.getElem?_cons_succ, List.getElem?_cons_zero] at c4
          go_simp
          clear c4 hb4 f4
          have xs : Ext [b] wq (wq.setCell ⟨b, 4, none⟩ (.slice a8 (es.length + 1) c8)) := (Ext.refl _ _).setCell (.inl (by simp)) _
          have X6 : Ext (b :: (Value.slice la es.length lc).ownBlock.toList) w9 (wq.setCell ⟨b, 4, none⟩ (.slice a8 (es.length + 1) c8)) := (hS.sub (fun i hi => .inl (List.mem_cons_of_mem _ hi))).trans (xs.sub (fun i hi => .inl (by simp at hi; simp [hi])))
          have hno : ∀ x ∈ es, x.k ≠ j := fun x hx e => by
            have h1 : x.k ∈ es.map (·.k) := List.mem_map.2 ⟨x, hx, rfl⟩
            rw [HZ.out.1] at h1
            simp at h1
            omega
          have h6 := HH.out.add ⟨j, eb, cb, pb, 0, 0, 0⟩ hno hlt X6 heg hcg hpg (B.set 4 (.slice a8 (es.length + 1) c8)) (owns_ext hown8 xs (fun g hg hm => blk_off_row B (by decide) hown8 (by simp at hm; rw [hg, hm])))
            (BE1.setOther (p := ⟨b, 4, none⟩) (blk_ne BE1 B (by decide)) _) (BC.setOther (p := ⟨b, 4, none⟩) (blk_ne BC B (by decide)) _) (BP.setOther (p := ⟨b, 4, none⟩) (blk_ne BP B (by decide)) _)
          have hBs := HBS.out.ext X6 (by
            intro hm
            rcases List.mem_cons.1 hm with hm | hm
            · exact blk_ne HBS.out HH.out.h (by decide) hm
            · exact hns hm)
          clear xs B hown8 BE1 BC BP hS
          generalize wq.setCell ⟨b, 4, none⟩ (.slice a8 (es.length + 1) c8) = w6 at *
          refine hK.out _ _ trivial (fun hS => ?_)
          clear hK K
          try simp only [Act.put]
          refine wpAnyH_done (by kernel_rfl) ?_ _
          have HREL := Lib.hid (show ∃ (j' : Nat) (l : Value) (es : List BE), Value.int .i64 ((j : Int) + 1) = .int .i64 (j' : Int) ∧ j' ≤ 8 ∧ es.length = j' ∧ MapAt w6 b 0 l 0 es ∧ Zer es j' ∧ (∀ g ∈ foot b l es, w.heap.size ≤ g) ∧ Blk w6 bs 50 [.int .i64 0, .int .i64 4, .int .i64 2, .int .i64 8] ∧ Ext [] w w6 from by
            have hw9 := HX.out.size
            refine ⟨j + 1, _, _, by go_num, by omega, by simp [HLEN.out], h6, ⟨by rw [List.map_append, HZ.out.1, List.range_succ]; rfl, ?_⟩, ?_, hBs, HX.out.trans' X6 (fun i hi => .inr ?_)⟩
            · intro x hx
              rcases List.mem_append.1 hx with hx | hx
              · exact HZ.out.2 x hx
              · simp at hx; subst hx; exact ⟨rfl, rfl⟩
            · intro g hg
              rcases foot_iff.1 hg with rfl | hg | ⟨x, hx, hg⟩
              · exact HFO.out _ foot_b
              · rcases hfr g hg with h | h
                · exact HFO.out _ (foot_l h)
                · omega
              · rcases List.mem_append.1 hx with hx | hx
                · rcases hg with rfl | rfl | rfl
                  · exact HFO.out _ (foot_e hx).1
                  · exact HFO.out _ (foot_e hx).2.1
                  · exact HFO.out _ (foot_e hx).2.2
                · simp at hx; subst hx
                  rcases hg with rfl | rfl | rfl <;> exact Nat.le_trans hw9 (by assumption)
            · rcases List.mem_cons.1 hi with rfl | hi
              · exact HFO.out _ foot_b
              · exact HFO.out _ (foot_l (by simpa using hi)))
          clear h6 hBs X6
          go_wp2_with fail
          go_roundw
          case rel => exact HREL.out
          case measure => simp [intOf]; omega
    · obtain rfl : j = 8 := by omega
      have HR := Lib.hid (show NewPost w 0 (fun k => if k < 8 then some (0, 0) else none) (.returned (.tuple #[.pointer (some ⟨b, 0, none⟩), .int .i64 0])) wr from
        ⟨b, foot b l es, rfl, ⟨l, 0, es, H, fun g hg => hg, funext (hz.cont H.ks), Nat.le_refl _⟩, x, hfo, foot_b⟩)
      clear H hz hfo x hBs
      go_wp2_with fail
      go_ret2
      exact HR.out
end Go.Proofs.YtbjkfgfiifnjoaaDoor
