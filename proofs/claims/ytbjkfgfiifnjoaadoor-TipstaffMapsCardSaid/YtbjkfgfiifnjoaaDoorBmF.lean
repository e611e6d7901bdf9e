/- Package bmap: Update, by what a map holds; Lookup. -/
import Derived.Lib.SliceRun
import Derived.Test.YtbjkfgfiifnjoaaDoorBmE
namespace Go.Proofs.YtbjkfgfiifnjoaaDoor
open Go.RowKit
set_option maxRecDepth 100000

/-- A map that holds c; all its blocks are among F; its clock is at q at most. -/
def MapC (w : World) (b : Nat) (t : Int) (F : List Nat) (c : Nat → Option (UInt8 × UInt8)) (q : Nat) : Prop :=
  ∃ l ck es, MapAt w b t l ck es ∧ (∀ g ∈ foot b l es, g ∈ F) ∧ cont es = c ∧ ck ≤ q
def updC (c : Nat → Option (UInt8 × UInt8)) (k : Nat) (v0 v1 : UInt8) : Nat → Option (UInt8 × UInt8) := fun i => if i = k then some (v0, v1) else c i
theorem MapC.ext {S F : List Nat} {w w' : World} {b : Nat} {t : Int} {c : Nat → Option (UInt8 × UInt8)} {q : Nat} (h : MapC w b t F c q) (x : Ext S w w') (hS : ∀ g ∈ F, g ∉ S) : MapC w' b t F c q := by
  obtain ⟨l, ck, es, h1, h2, h3, h4⟩ := h
  exact ⟨l, ck, es, h1.ext x (fun g hg => hS g (h2 g hg)), h2, h3, h4⟩
/-- What a call that turns a map leaves. -/
def MapPost (w : World) (b : Nat) (t : Int) (F : List Nat) (c : Nat → Option (UInt8 × UInt8)) (q : Nat) (w' : World) : Prop :=
  ∃ F', MapC w' b t F' c q ∧ Ext F w w' ∧ ∀ g ∈ F', g ∈ F ∨ w.heap.size ≤ g

theorem bm_update (b : Nat) (t : Int) (F : List Nat) (c : Nat → Option (UInt8 × UInt8)) (q k : Nat) (w : World) (H : MapC w b t F c q) (ht : t = 0 ∨ t = 1 ∨ t = 2) (h0 : t = 0 → c k ≠ none) (hk : k < 8) (hq : q ≤ 1000000)
    (kv : Value) (hr : Reads w kv 1 4 (bytesV (keyB4 k))) (v0 v1 : UInt8) (gv cv : Nat) (hv : Blk w gv 5 (bytesV [v0, v1])) :
    Calls Tryd.prog 17 #[.pointer (some ⟨b, 0, none⟩), kv, .slice (some ⟨gv, 0, none⟩) 2 cv, .int .u64 0] w fun e w' => e = .returned (.int .i64 0) ∧ MapPost w b t F (updC c k v0 v1) (q + 1) w' := by
  obtain ⟨l, ck, es, h, hF, rfl, hck⟩ := H
  by_cases hc : cont es k = none
  · have hno := (cont_none k).1 hc
    have ht' : t = 1 ∨ t = 2 := by
      rcases ht with e | e
      · exact absurd hc (h0 e)
      · exact e
    refine (bm_update_new h ht' k hk hno (by omega) kv hr v0 v1 gv cv hv).mono ?_
    rintro e w' ⟨rfl, l2, y, hyk, hy0, hy1, h2, hf, x⟩
    refine ⟨rfl, foot b l2 (es ++ [y]), ⟨l2, ck + 1, es ++ [y], h2, fun g hg => hg, ?_, by omega⟩, x.sub (fun i hi => .inl ?_), fun g hg => ?_⟩
    · rw [cont_app y (by rw [hyk]; exact hno), hyk, hy0, hy1]
      rfl
    · rcases List.mem_cons.1 hi with rfl | hi
      · exact hF _ foot_b
      · exact hF _ (foot_l (by simpa using hi))
    · rcases hf g hg with h3 | h3
      · exact .inl (hF g h3)
      · exact .inr h3
  · obtain ⟨v, hv'⟩ := Option.ne_none_iff_exists'.1 hc
    obtain ⟨x, hx, hxk, -⟩ := (cont_iff h.ks k v).1 hv'
    obtain ⟨j, hj, rfl⟩ := List.mem_iff_getElem.1 hx
    rw [← hxk] at hr
    refine (bm_update_at h ht j hj (by omega) kv hr v0 v1 gv cv hv).mono ?_
    rintro e w' ⟨rfl, h2, hf, x⟩
    refine ⟨rfl, F, ⟨l, ck + 1, _, h2, fun g hg => hF g (hf ▸ hg), ?_, by omega⟩, x.sub (fun i hi => .inl ?_), fun g hg => .inl hg⟩
    · refine (cont_set h.ks j hj { es[j] with v0 := v0, v1 := v1, u := ck + 1 } rfl).trans ?_
      unfold updC
      simp only [hxk]
    · simp only [List.mem_cons, List.not_mem_nil, or_false] at hi
      rcases hi with rfl | rfl | rfl
      · exact hF _ foot_b
      · exact hF _ (foot_e hx).1
      · exact hF _ (foot_e hx).2.2

theorem bclone_any (p : Nat) (x : List UInt8) (n cv : Nat) (w : World) (h : Blk w p 5 (bytesV x)) (hn : x.length = n) (hl : n ≤ 1000) :
    Calls Tryd.prog 63 #[.slice (some ⟨p, 0, none⟩) n cv] w fun e w' => BytesPost w x e w' := by
  obtain ⟨i0, hi, hz0, hz1, hz2⟩ := info_parts info_byte
  subst hn
  have hnil := Lib.run_eql_slice_nil (P := Tryd.prog)
  go_enter Tryd.func63, Tryd.ntmps63
  go_wp2_with (at_builtin; go_must (refine wpList_app _ rfl (.tmp 5) (.tmp 6) 39 rfl 5 i0 _ 1 1 Tryd.underlying39 hi hz0 hz1 hz2 rfl (by decide) (.slice (some ⟨w.heap.size, 0, none⟩) 0 0) 0 [] rfl ((Blk.new w 5 #[]).owns rfl (Nat.zero_le _)) (.slice (some ⟨p, 0, none⟩) x.length cv) x.length (bytesV x) rfl (blk_reads (h.alloc _) cv (by rw [bytesV_length]; simp)) (bytesV_one x) (by unfold maxLen; omega) (by omega) ?_); intro v2 w2 hown2 hgrow2 hfr2 _)
  go_ret
  refine ⟨v2, rfl, ?_, ?_, ?_⟩
  · simpa using hown2
  · exact ((Ext.refl _ _).alloc _).grown hgrow2 (fun k hk => .inr (by simp [Value.ownBlock] at hk; omega))
  · intro g hg
    rcases hfr2 with e | ⟨g', e, hle⟩
    · rw [e] at hg; simp [Value.ownBlock] at hg; omega
    · rw [e] at hg; cases hg
      have : w.heap.size ≤ (w.alloc (.cells #[] 5)).heap.size := by simp
      omega

section
variable {b : Nat} {t : Int} {l : Value} {ck : Nat} {es : List BE} {w : World}
theorem bm_find_at (h : MapAt w b t l ck es) (ht : t = 0 ∨ t = 1 ∨ t = 2) (j : Nat) (hj : j < es.length) (hck : ck ≤ 1000000) (kv : Value) (hr : Reads w kv 1 4 (bytesV (keyB4 es[j].k))) :
    Calls Tryd.prog 62 #[.pointer (some ⟨b, 0, none⟩), kv] w fun e w' => e = .returned (.tuple #[.pointer (some ⟨es[j].e, 0, none⟩), .int .i64 0]) ∧ ∃ w1, Ext [] w w1 ∧ UsePost w1 b t l ck es j es[j] w' := by
  have HRI := Lib.hid (fun a c => bm_right h ht a c)
  have HEX := Lib.hid (bm_exact_at h ht j hj kv hr)
  have ht5 : (t == 5) = false := by rcases ht with rfl | rfl | rfl <;> rfl
  obtain ⟨ao, ac, rfl, -, -, -⟩ := hr
  have HH := Lib.hid h
  clear h
  go_enter Tryd.func62, Tryd.ntmps62
  go_wp2_with fail
  refine (HRI.out _ _).mono ?_
  rintro e w' ⟨rfl, rfl⟩
  go_wp2_with fail
  refine HEX.out.mono ?_
  rintro e w1 ⟨rfl, x1⟩
  have h1 := HH.out.ext0 x1
  obtain ⟨c0, c1, c2, c3, c4, c5, c6, hlt⟩ := h1.cs
  have HU := Lib.hid (bm_use h1 j hj hck)
  clear h1
  go_wp2_with fail
  refine HU.out.mono ?_
  rintro e w2 ⟨rfl, hu⟩
  clear HU c0 c1 c2 c3 c4 c5 c6 hlt
  go_wp2_with fail
  go_ret2
  exact ⟨rfl, w1, x1, hu⟩
theorem bm_find_no (h : MapAt w b t l ck es) (ht : t = 0 ∨ t = 1 ∨ t = 2) (k : Nat) (hk8 : k < 8) (hno : ∀ x ∈ es, x.k ≠ k) (kv : Value) (hr : Reads w kv 1 4 (bytesV (keyB4 k))) :
    Calls Tryd.prog 62 #[.pointer (some ⟨b, 0, none⟩), kv] w fun e w' => e = .returned (.tuple #[.pointer none, .int .i64 2]) ∧ Ext [] w w' := by
  have HRI := Lib.hid (fun a c => bm_right h ht a c)
  have HEX := Lib.hid (bm_exact_no h ht k hk8 hno kv hr)
  have ht5 : (t == 5) = false := by rcases ht with rfl | rfl | rfl <;> rfl
  obtain ⟨ao, ac, rfl, -, -, -⟩ := hr
  have HH := Lib.hid h
  clear h
  go_enter Tryd.func62, Tryd.ntmps62
  go_wp2_with fail
  refine (HRI.out _ _).mono ?_
  rintro e w' ⟨rfl, rfl⟩
  go_wp2_with fail
  refine HEX.out.mono ?_
  rintro e w1 ⟨rfl, x1⟩
  have h1 := HH.out.ext0 x1
  obtain ⟨c0, c1, c2, c3, c4, c5, c6, hlt⟩ := h1.cs
  clear h1
  go_wp2_with fail
  go_ret2
  exact ⟨rfl, x1⟩
end

def LookPost (w : World) (b : Nat) (t : Int) (F : List Nat) (c : Nat → Option (UInt8 × UInt8)) (q k : Nat) (e : Ending) (w' : World) : Prop :=
  MapPost w b t F c q w' ∧ ((c k = none ∧ e = .returned (.tuple #[.slice none 0 0, .int .i64 2])) ∨ ∃ v0 v1 v', c k = some (v0, v1) ∧ e = .returned (.tuple #[v', .int .i64 0]) ∧ w'.ownsRow 0 5 1 v' 2 (bytesV [v0, v1]))

set_option maxHeartbeats 4000000 in
theorem bm_lookup (b : Nat) (t : Int) (F : List Nat) (c : Nat → Option (UInt8 × UInt8)) (q k : Nat) (w : World) (H : MapC w b t F c q) (ht : t = 0 ∨ t = 1 ∨ t = 2) (hk : k < 8) (hq : q ≤ 1000000) (kv : Value) (hr : Reads w kv 1 4 (bytesV (keyB4 k))) :
    Calls Tryd.prog 18 #[.pointer (some ⟨b, 0, none⟩), kv] w fun e w' => LookPost w b t F c (q + 1) k e w' := by
  have hc := H
  obtain ⟨l, ck, es, h, hF, rfl, hck⟩ := H
  by_cases hc : cont es k = none
  · have hno := (cont_none k).1 hc
    have HFI := Lib.hid (bm_find_no h ht k hk hno kv hr)
    have HR := Lib.hid (fun w' (x : Ext [] w w') => (show LookPost w b t F (cont es) (q + 1) k (.returned (.tuple #[.slice none 0 0, .int .i64 2])) w' from
      ⟨⟨F, ⟨l, ck, es, h.ext0 x, hF, rfl, by omega⟩, x.sub (by simp), fun g hg => .inl hg⟩, .inl ⟨hc, rfl⟩⟩))
    clear h hr hc hno
    go_enter Tryd.func18, Tryd.ntmps18
    go_wp2_with fail
    refine HFI.out.mono ?_
    rintro e w1 ⟨rfl, x1⟩
    go_wp2_with fail
    go_ret2
    exact HR.out w1 x1
  · obtain ⟨v, hv'⟩ := Option.ne_none_iff_exists'.1 hc
    obtain ⟨x, hx, hxk, hxv⟩ := (cont_iff h.ks k v).1 hv'
    obtain ⟨j, hj, rfl⟩ := List.mem_iff_getElem.1 hx
    rw [← hxk] at hr
    have HFI := Lib.hid (bm_find_at h ht j hj (by omega) kv hr)
    have HR := Lib.hid (fun w1 w2 w3 v' (x1 : Ext [] w w1) (h2 : UsePost w1 b t l ck es j es[j] w2) (x3 : Ext [] w2 w3) (ho : w3.ownsRow 0 5 1 v' 2 (bytesV [es[j].v0, es[j].v1])) => (show LookPost w b t F (cont es) (q + 1) k (.returned (.tuple #[v', .int .i64 0])) w3 from by
      obtain ⟨m2, hf, x2⟩ := h2
      refine ⟨⟨F, ⟨l, ck + 1, _, m2.ext0 x3, fun g hg => hF g (hf ▸ hg), ?_, by omega⟩, ?_, fun g hg => .inl hg⟩, .inr ⟨_, _, v', hv'.trans (by rw [← hxv]), rfl, ho⟩⟩
      · refine (cont_set h.ks j hj { es[j] with u := ck + 1 } rfl).trans ?_
        funext i
        by_cases hi : i = es[j].k
        · simp only [hi, if_true]
          rw [hxk, hv', ← hxv]
        · simp only [hi, if_false]
      · refine ((x1.sub (by simp)).trans (x2.sub (fun i hi => .inl ?_))).trans (x3.sub (by simp))
        simp only [List.mem_cons, List.not_mem_nil, or_false] at hi
        rcases hi with rfl | rfl
        · exact hF _ foot_b
        · exact hF _ (foot_e hx).1))
    have HCE := Lib.hid (fun w1 w2 (x1 : Ext [] w w1) (h2 : UsePost w1 b t l ck es j es[j] w2) => (show w2.cell? ⟨es[j].e, 1, none⟩ = some (.pointer (some ⟨es[j].c, 0, none⟩)) ∧ w2.cell? ⟨es[j].c, 0, none⟩ = some (.slice (some ⟨es[j].p, 0, none⟩) 2 2) ∧ Blk w2 es[j].p 5 (bytesV [es[j].v0, es[j].v1]) ∧ es[j].e < w2.heap.size ∧ es[j].c < w2.heap.size from by
      obtain ⟨m2, -, -⟩ := h2
      obtain ⟨y, hy, e1, e2, e3, e4, e5⟩ : ∃ y ∈ es.set j { es[j] with u := ck + 1 }, y.e = es[j].e ∧ y.c = es[j].c ∧ y.p = es[j].p ∧ y.v0 = es[j].v0 ∧ y.v1 = es[j].v1 := ⟨_, List.mem_iff_getElem.2 ⟨j, by simpa using hj, List.getElem_set_self _⟩, rfl, rfl, rfl, rfl, rfl⟩
      have q1 := (m2.en y hy).cell 1
      have q2 := (m2.ce y hy).cell 0
      have q3 := m2.vb y hy
      have q4 := (m2.en y hy).lt
      have q5 := (m2.ce y hy).lt
      rw [e1] at q1 q4
      rw [e2] at q1 q2 q5
      rw [e3] at q2 q3
      rw [e4, e5] at q3
      exact ⟨q1, q2, q3, q4, q5⟩))
    clear h hr hc hxk hxv hv' hx
    go_enter Tryd.func18, Tryd.ntmps18
    go_wp2_with fail
    refine HFI.out.mono ?_
    rintro e w2 ⟨rfl, w1, x1, hu⟩
    obtain ⟨d1, d0, hB, l1, l2⟩ := HCE.out w1 w2 x1 hu
    have HR2 := Lib.hid (fun w3 v' x3 ho => HR.out w1 w2 w3 v' x1 hu x3 ho)
    generalize es[j].e = eb at *
    generalize es[j].c = cb at *
    generalize es[j].p = pb at *
    have HBC := Lib.hid (bclone_any pb [es[j].v0, es[j].v1] 2 2 w2 hB rfl (by omega))
    clear hu HCE HR hB
    go_wp2_with fail
    refine HBC.out.mono ?_
    rintro e w3 ⟨v3, rfl, ho3, x3, -⟩
    clear d1 d0 l1 l2
    go_wp2_with fail
    go_ret2
    exact HR2.out w3 v3 x3 ho3
end Go.Proofs.YtbjkfgfiifnjoaaDoor
