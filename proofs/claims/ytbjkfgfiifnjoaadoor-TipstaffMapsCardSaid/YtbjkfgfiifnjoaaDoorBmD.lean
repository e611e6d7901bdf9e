/- Package bmap: use; Update of a key that is there. -/
import Derived.Laws.CopyRow
import Derived.Test.YtbjkfgfiifnjoaaDoorBmC
import Derived.Test.YtbjkfgfiifnjoaaDoorRow
namespace Go.Proofs.YtbjkfgfiifnjoaaDoor
open Go.RowKit
set_option maxRecDepth 100000

section
variable {b : Nat} {t : Int} {l : Value} {ck : Nat} {es : List BE} {w : World}
theorem blk_ne {g1 g2 : Nat} {T1 T2 : TypeId} {c1 c2 : List Value} (h1 : Blk w g1 T1 c1) (h2 : Blk w g2 T2 c2) (hn : T1 ≠ T2) : g1 ≠ g2 := by
  intro e
  subst e
  have := (show w.heap[g1]? = _ from h1).symm.trans h2
  simp at this
  exact hn this.2

/-- 'copy' over a whole row. -/
theorem copy_full {w : World} {p g c n : Nat} {os vs : List Value} (ty : TypeId) (hp : Blk w p 5 os) (hg : Blk w g 5 vs) (ho : os.length = n) (hv : vs.length = n) (h1 : ∀ u ∈ vs, u.oneCell' = true) :
    ∃ w', (Builtin.copy_ #[39, 39] ty #[.slice (some ⟨p, 0, none⟩) n n, .slice (some ⟨g, 0, none⟩) n c]).run Tryd.prog w = .ok (.int .i64 (n : Int)) w' ∧ Blk w' p 5 vs ∧ Ext [p] w w' := by
  have hr := run_copy_row (P := Tryd.prog) w 39 39 ty 5 p 0 n n ⟨g, 0, none⟩ n c os.toArray 5 vs Tryd.underlying39 (by kernel_rfl) hp (by rw [hv]; exact (Nat.min_self n).symm)
    (fun j v hj => by rw [Addr.add_lit, Nat.zero_add, hg.cell]; exact hj) (by simp [ho, hv]) h1
  have e : os.toArray.toList.take 0 ++ vs ++ os.toArray.toList.drop (0 + vs.length) = vs := by
    rw [hv, List.take_zero, List.nil_append, List.drop_of_length_le (by simp [ho]), List.append_nil]
  rw [e] at hr
  refine ⟨w.setRow p vs.toArray, by rw [hr, hv]; rfl, ?_, ?_⟩
  · exact setRow_heap w p os.toArray vs.toArray 5 (0, 0) hp
  · exact ⟨rfl, rfl, rfl, by simp [World.setRow], fun k hk hn => setRow_other w p k _ (fun e => hn (by simp [e]))⟩

def UsePost (w : World) (b : Nat) (t : Int) (l : Value) (ck : Nat) (es : List BE) (j : Nat) (y : BE) (w' : World) : Prop :=
  MapAt w' b t l (ck + 1) (es.set j { y with u := ck + 1 }) ∧ foot b l (es.set j { y with u := ck + 1 }) = foot b l es ∧ Ext [b, y.e] w w'

set_option maxHeartbeats 4000000 in
theorem bm_use (h : MapAt w b t l ck es) (j : Nat) (hj : j < es.length) (hck : ck ≤ 1000000) :
    Calls Tryd.prog 61 #[.pointer (some ⟨b, 0, none⟩), .pointer (some ⟨es[j].e, 0, none⟩)] w fun e w' => e = .returned (.tuple #[]) ∧ UsePost w b t l ck es j es[j] w' := by
  have hm := List.getElem_mem hj
  have n1 := blk_ne h.h (h.en _ hm) (by decide)
  have n2 := blk_ne h.h (h.vb _ hm) (by decide)
  have n3 := blk_ne (h.en _ hm) (h.vb _ hm) (by decide)
  obtain ⟨c0, c1, c2, c3, c4, c5, c6, hlt⟩ := h.cs
  have f6 := h.h.frozen 6
  have e2 : w.cell? ⟨es[j].e, 2, none⟩ = some (.int .i64 (es[j].u : Int)) := (h.en _ hm).cell 2
  have g2 := (h.en _ hm).frozen 2
  have hel := (h.en _ hm).lt
  have hw : IntKind.i64.wrap ((ck : Int) + 1) = (ck : Int) + 1 := IntWalk.i64_in _ (by omega)
  have HR := Lib.hid (show UsePost w b t l ck es j es[j] ((w.setCell ⟨b, 6, none⟩ (.int .i64 ((ck : Int) + 1))).setCell ⟨es[j].e, 2, none⟩ (.int .i64 ((ck : Int) + 1))) from by
    have x : Ext [b, es[j].e] w ((w.setCell ⟨b, 6, none⟩ (.int .i64 ((ck : Int) + 1))).setCell ⟨es[j].e, 2, none⟩ (.int .i64 ((ck : Int) + 1))) :=
      ((Ext.refl _ _).setCell (.inl (by simp)) _).setCell (.inl (by simp)) _
    obtain ⟨h1, h2⟩ := h.setE j hj { es[j] with u := ck + 1 } rfl rfl rfl rfl (ck + 1) (x.sub (fun i hi => .inl (by
      simp only [List.mem_cons, List.not_mem_nil, or_false] at hi ⊢
      rcases hi with hi | hi
      · exact .inl hi
      · exact .inr (.inl hi))))
      (((h.h.set 6 (.int .i64 ((ck : Int) + 1))).setOther n1 _)) (((h.en _ hm).setOther n1.symm (.int .i64 ((ck : Int) + 1))).set 2 (.int .i64 ((ck : Int) + 1))) (((h.vb _ hm).setOther n2.symm _).setOther n3.symm _)
    exact ⟨h1, h2, x⟩)
  generalize es[j].e = eb at *
  clear h
  go_enter Tryd.func61, Tryd.ntmps61
  go_wp2_with fail
  go_end0
  exact ⟨rfl, HR.out⟩

set_option maxHeartbeats 8000000 in
theorem bm_update_at (h : MapAt w b t l ck es) (ht : t = 0 ∨ t = 1 ∨ t = 2) (j : Nat) (hj : j < es.length) (hck : ck ≤ 1000000) (kv : Value) (hr : Reads w kv 1 4 (bytesV (keyB4 es[j].k))) (v0 v1 : UInt8) (gv cv : Nat) (hv : Blk w gv 5 (bytesV [v0, v1])) :
    Calls Tryd.prog 17 #[.pointer (some ⟨b, 0, none⟩), kv, .slice (some ⟨gv, 0, none⟩) 2 cv, .int .u64 0] w fun e w' => e = .returned (.int .i64 0) ∧
      MapAt w' b t l (ck + 1) (es.set j { es[j] with v0 := v0, v1 := v1, u := ck + 1 }) ∧ foot b l (es.set j { es[j] with v0 := v0, v1 := v1, u := ck + 1 }) = foot b l es ∧ Ext [b, es[j].e, es[j].p] w w' := by
  have hm := List.getElem_mem hj
  have HCH := Lib.hid (bm_changes h)
  have HRI := Lib.hid (fun a c => bm_right h ht a c)
  have HEX := Lib.hid (bm_exact_at h ht j hj kv hr)
  obtain ⟨c0, c1, c2, c3, c4, c5, c6, hlt⟩ := h.cs
  obtain ⟨ao, ac, rfl, -, -, -⟩ := hr
  have HH := Lib.hid h
  clear h
  go_enter Tryd.func17, Tryd.ntmps17
  go_wp2_with fail
  refine HCH.out.mono ?_
  rintro e w' ⟨rfl, rfl⟩
  go_wp2_with fail
  refine (HRI.out _ _).mono ?_
  rintro e w' ⟨rfl, rfl⟩
  go_wp2_with fail
  refine HEX.out.mono ?_
  rintro e w1 ⟨rfl, x1⟩
  have h1 := HH.out.ext0 x1
  have hv1 := hv.ext x1 (by simp)
  clear c0 c1 c2 c3 c4 c5 c6 hlt HCH HRI HEX
  go_wp2_with fail
  refine (bm_flagged_at b es[j].e w1).mono ?_
  rintro e w' ⟨rfl, rfl⟩
  have e1 : w1.cell? ⟨es[j].e, 1, none⟩ = some (.pointer (some ⟨es[j].c, 0, none⟩)) := (h1.en _ hm).cell 1
  have d0 : w1.cell? ⟨es[j].c, 0, none⟩ = some (.slice (some ⟨es[j].p, 0, none⟩) 2 2) := (h1.ce _ hm).cell 0
  have hel := (h1.en _ hm).lt
  have hcl := (h1.ce _ hm).lt
  obtain ⟨w2, hcp, hV2, x2⟩ := copy_full (c := cv) 3 (h1.vb _ hm) hv1 (n := 2) rfl rfl (by
    intro u hu
    simp only [bytesV, List.map_cons, List.map_nil, List.mem_cons, List.not_mem_nil, or_false] at hu
    rcases hu with rfl | rfl <;> rfl)
  have n2 := blk_ne h1.h (h1.vb _ hm) (by decide)
  have n3 := blk_ne (h1.en _ hm) (h1.vb _ hm) (by decide)
  obtain ⟨h2, hf2⟩ := h1.setE j hj { es[j] with v0 := v0, v1 := v1 } rfl rfl rfl rfl ck (x2.sub (fun i hi => .inl (by simp at hi; simp [hi]))) (h1.h.ext x2 (by simp [n2])) ((h1.en _ hm).ext x2 (by simp [n3])) hV2
  have hx2 : es.set j { es[j] with v0 := v0, v1 := v1 } = es.set j { es[j] with v0 := v0, v1 := v1 } := rfl
  have hj2 : j < (es.set j { es[j] with v0 := v0, v1 := v1 }).length := by simpa using hj
  have HU := Lib.hid (bm_use h2 j hj2 hck)
  rw [List.getElem_set_self] at HU
  clear h1 h2 hv1 hV2 hx2
  go_wp2_with fail
  refine HU.out.mono ?_
  rintro e w3 ⟨rfl, h3, hf3, x3⟩
  rw [List.set_set] at h3 hf3
  clear HU hcp
  go_wp2_with fail
  go_ret
  refine ⟨rfl, h3, hf3.trans hf2, ?_⟩
  refine ((x1.sub (by simp)).trans (x2.sub (fun i hi => .inl (by simp at hi; simp [hi])))).trans (x3.sub (fun i hi => .inl ?_))
  simp only [List.mem_cons, List.not_mem_nil, or_false] at hi ⊢
  rcases hi with hi | hi
  · exact .inl hi
  · exact .inr (.inl hi)
end
end Go.Proofs.YtbjkfgfiifnjoaaDoor
