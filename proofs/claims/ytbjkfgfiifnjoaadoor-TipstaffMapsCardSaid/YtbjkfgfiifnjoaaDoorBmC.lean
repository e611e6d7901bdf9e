/- Package bmap: exact, flagged, room, use. -/
import Derived.Test.YtbjkfgfiifnjoaaDoorBmB
namespace Go.Proofs.YtbjkfgfiifnjoaaDoor
open Go.RowKit
set_option maxRecDepth 100000

theorem bmI_at {es : List BE} (h : Apart1 es) (j : Nat) (hj : j < es.length) : bmI es es[j].k = (j : Int) := by
  have : bmK es es[j].k = j := bmK_at es _ j hj (fun i hi e => by
    rw [List.getElem?_eq_getElem (by omega)] at e
    exact List.pairwise_iff_getElem.1 h i j (by omega) hj hi (by simpa using e)) rfl
  unfold bmI
  rw [this, if_pos hj]
theorem bmI_no {es : List BE} {k : Nat} (h : ∀ x ∈ es, x.k ≠ k) : bmI es k = -1 := by
  have : bmK es k = es.length := bmK_none es k (fun i hi e => by
    rw [List.getElem?_eq_getElem hi] at e
    exact h _ (List.getElem_mem hi) (by simpa using e))
  unfold bmI
  rw [this, if_neg (Nat.lt_irrefl _)]

section
variable {b : Nat} {t : Int} {l : Value} {ck : Nat} {es : List BE} {w : World}
theorem MapAt.at (h : MapAt w b t l ck es) (j : Nat) (hj : j < es.length) : ∃ g c, l = .slice (some ⟨g, 0, none⟩) es.length c ∧ g < w.heap.size ∧ w.cell? ⟨g, j, none⟩ = some (.pointer (some ⟨es[j].e, 0, none⟩)) := by
  obtain ⟨g, c', cur, he, hb, -, -, -, -⟩ := owns_some h.own (by omega)
  subst he
  refine ⟨g, c', rfl, hb.lt, ?_⟩
  rw [h.own.cellAt j (by omega)]
  simp [ptrE, hj]

set_option maxHeartbeats 4000000 in
theorem bm_exact_at (h : MapAt w b t l ck es) (ht : t = 0 ∨ t = 1 ∨ t = 2) (j : Nat) (hj : j < es.length) (v : Value) (hr : Reads w v 1 4 (bytesV (keyB4 es[j].k))) :
    Calls Tryd.prog 57 #[.pointer (some ⟨b, 0, none⟩), v] w fun e w' => e = .returned (.pointer (some ⟨es[j].e, 0, none⟩)) ∧ Ext [] w w' := by
  have HP := Lib.hid (bm_plain h ht es[j].k v hr)
  have HI := Lib.hid (fun w' bk (x : Ext [] w w') (hk : Blk w' bk 9 [.string (keyS es[j].k)]) => bm_index b t l ck es bk es[j].k w' (h.ext0 x) hk (h.k8 _ (List.getElem_mem hj)))
  rw [bmI_at h.ks j hj] at HI
  have h8 := h.le8
  have hj8 : (j : Int) < (es.length : Int) := by omega
  have HC := Lib.hid (fun w' (x : Ext [] w w') => (h.ext0 x).cs)
  obtain ⟨g, c, rfl, -, -⟩ := h.at j hj
  have HA := Lib.hid (fun w' (x : Ext [] w w') => (show g < w'.heap.size ∧ w'.cell? ⟨g, j, none⟩ = some (.pointer (some ⟨es[j].e, 0, none⟩)) from by
    obtain ⟨g', c', e, h1, h2⟩ := (h.ext0 x).at j hj
    cases e
    exact ⟨h1, h2⟩))
  generalize es[j].e = eb at *
  generalize keyS es[j].k = ks at *
  obtain ⟨ao, vc, rfl, -, -, -⟩ := hr
  clear h
  go_enter Tryd.func57, Tryd.ntmps57
  go_wp2_with fail
  refine HP.out.mono ?_
  rintro e w' ⟨rfl, rfl⟩
  obtain ⟨c0, c1, c2, c3, c4, c5, c6, hlt⟩ := HC.out _ (Ext.refl _ _)
  clear c0 c1 c2 c3 c4 c5 c6 hlt
  go_upto_region 2 with (fail)
  show Code.wp _ _ _ _ (w.alloc (.cells #[.string ks] 9))
  have BK : Blk (w.alloc (.cells #[.string ks] 9)) w.heap.size 9 [.string ks] := Blk.new w _ #[.string ks]
  have x1 : Ext [] w (w.alloc (.cells #[.string ks] 9)) := (Ext.refl _ _).alloc _
  generalize w.alloc (.cells #[.string ks] 9) = w1 at *
  generalize w.heap.size = bk at *
  obtain ⟨c0, c1, c2, c3, c4, c5, c6, hlt⟩ := HC.out _ x1
  clear c0 c1 c2 c3 c5 c6
  go_wp2_with fail
  refine (HI.out w1 bk x1 BK).mono ?_
  rintro e w2 ⟨rfl, x2⟩
  clear c4 hlt
  have y2 := x1.trans x2
  obtain ⟨c0, c1, c2, c3, c4, c5, c6, hlt⟩ := HC.out _ y2
  clear c0 c1 c2 c3 c5 c6
  obtain ⟨hg, hc⟩ := HA.out w2 y2
  go_wp2_with fail
  go_ret
  exact ⟨rfl, y2⟩

set_option maxHeartbeats 4000000 in
theorem bm_exact_no (h : MapAt w b t l ck es) (ht : t = 0 ∨ t = 1 ∨ t = 2) (k : Nat) (hk8 : k < 8) (hno : ∀ x ∈ es, x.k ≠ k) (v : Value) (hr : Reads w v 1 4 (bytesV (keyB4 k))) :
    Calls Tryd.prog 57 #[.pointer (some ⟨b, 0, none⟩), v] w fun e w' => e = .returned (.pointer none) ∧ Ext [] w w' := by
  have HP := Lib.hid (bm_plain h ht k v hr)
  have HI := Lib.hid (fun w' bk (x : Ext [] w w') (hk : Blk w' bk 9 [.string (keyS k)]) => bm_index b t l ck es bk k w' (h.ext0 x) hk hk8)
  rw [bmI_no hno] at HI
  have HC := Lib.hid (fun w' (x : Ext [] w w') => (h.ext0 x).cs)
  generalize keyS k = ks at *
  obtain ⟨ao, vc, rfl, -, -, -⟩ := hr
  clear h
  go_enter Tryd.func57, Tryd.ntmps57
  go_wp2_with fail
  refine HP.out.mono ?_
  rintro e w' ⟨rfl, rfl⟩
  go_upto_region 2 with (fail)
  show Code.wp _ _ _ _ (w.alloc (.cells #[.string ks] 9))
  have BK : Blk (w.alloc (.cells #[.string ks] 9)) w.heap.size 9 [.string ks] := Blk.new w _ #[.string ks]
  have x1 : Ext [] w (w.alloc (.cells #[.string ks] 9)) := (Ext.refl _ _).alloc _
  generalize w.alloc (.cells #[.string ks] 9) = w1 at *
  generalize w.heap.size = bk at *
  obtain ⟨c0, c1, c2, c3, c4, c5, c6, hlt⟩ := HC.out _ x1
  clear c0 c1 c2 c3 c5 c6
  go_wp2_with fail
  refine (HI.out w1 bk x1 BK).mono ?_
  rintro e w2 ⟨rfl, x2⟩
  clear c4 hlt
  have y2 := x1.trans x2
  go_wp2_with fail
  go_ret
  exact ⟨rfl, y2⟩

theorem bm_flagged_at (b eb : Nat) (w : World) : Calls Tryd.prog 58 #[.pointer (some ⟨b, 0, none⟩), .pointer (some ⟨eb, 0, none⟩), .int .u64 0] w fun e w' => e = .returned (.int .i64 0) ∧ w = w' := by
  go_enter Tryd.func58, Tryd.ntmps58
  go_wp2_with fail
  go_ret
  exact ⟨rfl, rfl⟩
theorem bm_flagged_no (h : MapAt w b t l ck es) (ht : t = 1 ∨ t = 2) : Calls Tryd.prog 58 #[.pointer (some ⟨b, 0, none⟩), .pointer none, .int .u64 0] w fun e w' => e = .returned (.int .i64 0) ∧ w = w' := by
  obtain ⟨c0, c1, c2, c3, c4, c5, c6, hlt⟩ := h.cs
  clear h
  rcases ht with rfl | rfl
  all_goals
    go_enter Tryd.func58, Tryd.ntmps58
    go_wp2_with fail
    go_ret
    exact ⟨rfl, rfl⟩
theorem bm_room (h : MapAt w b t l ck es) (hl : es.length < 8) : Calls Tryd.prog 59 #[.pointer (some ⟨b, 0, none⟩)] w fun e w' => e = .returned (.int .i64 0) ∧ Ext [] w w' := by
  obtain ⟨c0, c1, c2, c3, c4, c5, c6, hlt⟩ := h.cs
  obtain ⟨la, lc, rfl⟩ := owns_slice h.own
  have hl' : (es.length : Int) < 8 := by omega
  clear h
  go_enter Tryd.func59, Tryd.ntmps59
  go_upto_region 1 with (fail)
  go_quiet (fail)
  have x9 : Ext [] w (w.drewN nq) := (Ext.refl _ _).drewN nq
  go_wp2_with fail
  go_ret
  exact ⟨rfl, x9⟩

/-- A map of which one entry is another, at the same blocks and of the same key. -/
theorem MapAt.setE {w2 : World} (h : MapAt w b t l ck es) (j : Nat) (hj : j < es.length) (y : BE) (hk : y.k = es[j].k) (he : y.e = es[j].e) (hc : y.c = es[j].c) (hp : y.p = es[j].p) (ck2 : Nat)
    (x : Ext [b, es[j].e, es[j].p] w w2) (hb : Blk w2 b 115 [.int .i64 t, .int .i64 4, .int .i64 2, .int .i64 8, l, .bool false, .int .i64 (ck2 : Int)])
    (hE : Blk w2 y.e 122 [.string (keyS y.k), .pointer (some ⟨y.c, 0, none⟩), .int .i64 (y.u : Int)]) (hV : Blk w2 y.p 5 (bytesV [y.v0, y.v1])) :
    MapAt w2 b t l ck2 (es.set j y) ∧ foot b l (es.set j y) = foot b l es := by
  have hg : ∀ i (hi : i < es.length), i ≠ j → es[i].e ≠ es[j].e ∧ es[i].c ≠ es[j].c ∧ es[i].p ≠ es[j].p := by
    intro i hi hij
    rcases Nat.lt_or_gt_of_ne hij with hlt | hlt
    · exact List.pairwise_iff_getElem.1 h.ne i j hi hj hlt
    · obtain ⟨h1, h2, h3⟩ := List.pairwise_iff_getElem.1 h.ne j i hj hi hlt
      exact ⟨h1.symm, h2.symm, h3.symm⟩
  have hT : ∀ {g1 g2 : Nat} {T1 T2 : TypeId} {c1 c2 : List Value}, Blk w g1 T1 c1 → Blk w g2 T2 c2 → T1 ≠ T2 → g1 ≠ g2 := by
    intro g1 g2 T1 T2 c1 c2 h1 h2 hn e
    subst e
    have := (show w.heap[g1]? = _ from h1).symm.trans h2
    simp at this
    exact hn this.2
  have hin : ∀ z ∈ es.set j y, z = y ∨ ∃ i, ∃ hi : i < es.length, i ≠ j ∧ z = es[i] := by
    intro z hz
    obtain ⟨i, hi, rfl⟩ := List.mem_iff_getElem.1 hz
    rw [List.length_set] at hi
    rw [List.getElem_set]
    split
    · exact .inl rfl
    · rename_i hne
      exact .inr ⟨i, hi, fun e => hne e.symm, rfl⟩
  have hmj := List.getElem_mem hj
  have hptr : ptrE (es.set j y) = ptrE es := by
    unfold ptrE
    apply List.ext_getElem (by simp)
    intro i h1 h2
    simp only [List.getElem_map, List.getElem_set]
    split
    · rename_i e; subst e; rw [he]
    · rfl
  refine ⟨⟨hb, ?_, ?_, ?_, ?_, ?_, ?_, ?_⟩, ?_⟩
  · rw [hptr, List.length_set]
    refine owns_ext h.own x (fun g hg hm => ?_)
    have hrow := fun {k T cs} (hb : Blk w k T cs) (hne : T ≠ 116) => blk_off_row hb hne h.own
    simp only [List.mem_cons, List.not_mem_nil, or_false] at hm
    rcases hm with rfl | rfl | rfl
    · exact hrow h.h (by decide) hg.symm
    · exact hrow (h.en _ hmj) (by decide) hg.symm
    · exact hrow (h.vb _ hmj) (by decide) hg.symm
  · intro z hz
    rcases hin z hz with rfl | ⟨i, hi, hij, rfl⟩
    · exact hE
    · have hm := List.getElem_mem hi
      refine (h.en _ hm).ext x ?_
      simp only [List.mem_cons, List.not_mem_nil, or_false, not_or]
      exact ⟨hT (h.en _ hm) h.h (by decide), (hg i hi hij).1, hT (h.en _ hm) (h.vb _ hmj) (by decide)⟩
  · intro z hz
    have hgo : ∀ i (hi : i < es.length), Blk w2 es[i].c 120 [.slice (some ⟨es[i].p, 0, none⟩) 2 2] := by
      intro i hi
      have hm := List.getElem_mem hi
      refine (h.ce _ hm).ext x ?_
      simp only [List.mem_cons, List.not_mem_nil, or_false, not_or]
      exact ⟨hT (h.ce _ hm) h.h (by decide), hT (h.ce _ hm) (h.en _ hmj) (by decide), hT (h.ce _ hm) (h.vb _ hmj) (by decide)⟩
    rcases hin z hz with rfl | ⟨i, hi, hij, rfl⟩
    · rw [hc, hp]; exact hgo j hj
    · exact hgo i hi
  · intro z hz
    rcases hin z hz with rfl | ⟨i, hi, hij, rfl⟩
    · exact hV
    · have hm := List.getElem_mem hi
      refine (h.vb _ hm).ext x ?_
      simp only [List.mem_cons, List.not_mem_nil, or_false, not_or]
      exact ⟨hT (h.vb _ hm) h.h (by decide), hT (h.vb _ hm) (h.en _ hmj) (by decide), (hg i hi hij).2.2⟩
  · refine List.pairwise_iff_getElem.2 fun p q hp' hq' hpq => ?_
    rw [List.length_set] at hp' hq'
    have hh : ∀ i (hi : i < es.length), ((es.set j y)[i]'(by simpa using hi)).k = es[i].k := by
      intro i hi
      rw [List.getElem_set]
      split
      · rename_i e; subst e; exact hk
      · rfl
    rw [hh p hp', hh q hq']
    exact List.pairwise_iff_getElem.1 h.ks p q hp' hq' hpq
  · intro z hz
    rcases hin z hz with rfl | ⟨i, hi, hij, rfl⟩
    · rw [hk]; exact h.k8 _ hmj
    · exact h.k8 _ (List.getElem_mem hi)
  · refine List.pairwise_iff_getElem.2 fun p q hp' hq' hpq => ?_
    rw [List.length_set] at hp' hq'
    have hh : ∀ i (hi : i < es.length), ((es.set j y)[i]'(by simpa using hi)).e = es[i].e ∧ ((es.set j y)[i]'(by simpa using hi)).c = es[i].c ∧ ((es.set j y)[i]'(by simpa using hi)).p = es[i].p := by
      intro i hi
      rw [List.getElem_set]
      split
      · rename_i e; subst e; exact ⟨he, hc, hp⟩
      · exact ⟨rfl, rfl, rfl⟩
    rw [(hh p hp').1, (hh p hp').2.1, (hh p hp').2.2, (hh q hq').1, (hh q hq').2.1, (hh q hq').2.2]
    exact List.pairwise_iff_getElem.1 h.ne p q hp' hq' hpq
  · unfold foot
    congr 2
    rw [List.flatMap_def, List.flatMap_def]
    congr 1
    apply List.ext_getElem (by simp)
    intro i h1 h2
    simp only [List.getElem_map, List.getElem_set]
    split
    · rename_i e; subst e; rw [he, hc, hp]
    · rfl
end
end Go.Proofs.YtbjkfgfiifnjoaaDoor
