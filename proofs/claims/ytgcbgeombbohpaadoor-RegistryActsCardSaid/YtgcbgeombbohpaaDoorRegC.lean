/- Package registry: Add, Spend. -/
import Derived.Test.YtgcbgeombbohpaaDoorRegB
import Derived.Test.YtgcbgeombbohpaaDoorLamH
namespace Go.Proofs.YtgcbgeombbohpaaDoor
open Go.RowKit
set_option maxRecDepth 100000

def addE (es : List RE) (key : List UInt8) : Int := if findN es key < es.length then 17 else if es.length = 32 then 28 else 0
def addL (es : List RE) (key : List UInt8) : List RE := if findN es key < es.length then es else if es.length = 32 then es else es ++ [(key, false)]
def RegPost (w : World) (b : Nat) (v : Value) (E : Int) (es : List RE) (e : Ending) (w' : World) : Prop :=
  ∃ v', e = .returned (.int .i64 E) ∧ RegAt w' b v' es ∧ Ext (b :: v.ownBlock.toList) w w' ∧ ∀ g, v'.ownBlock = some g → v.ownBlock = some g ∨ w.heap.size ≤ g
theorem RegPost.same {w w' : World} {b : Nat} {v : Value} {E : Int} {es : List RE} (h : RegAt w b v es) (x : Ext [] w w') : RegPost w b v E es (.returned (.int .i64 E)) w' :=
  ⟨v, rfl, h.ext0 x, x.sub (by simp), fun _ hg => .inl hg⟩
theorem range_of_blk4 {w : World} {b : Nat} {T : TypeId} {cs : List Value} (h : Blk w b T cs) : w.rangeAt b 0 cs := fun j v hv => by
  rw [Nat.zero_add, h.cell]; exact hv
theorem info_ent : (Tryd.prog.info? 62).map (fun i => (i.zero, i.size, i.bytes)) = some (some (.agg (entV (List.replicate 32 0, false)).toArray), 33, 33) := by kernel_rfl

theorem foldl_zip : ∀ (kv pre rest : List Value), kv.length ≤ rest.length →
    List.foldl (fun (cs : Array Value) x => cs.setIfInBounds x.2 x.1) (pre ++ rest).toArray (kv.zipIdx pre.length) = (pre ++ (kv ++ rest.drop kv.length)).toArray
  | [], pre, rest, _ => by simp
  | x :: kv, pre, [], h => by simp at h
  | x :: kv, pre, r :: rest, h => by
    rw [List.zipIdx_cons, List.foldl_cons]
    have e : (pre ++ r :: rest).toArray.setIfInBounds pre.length x = ((pre ++ [x]) ++ rest).toArray := by simp
    have := foldl_zip kv (pre ++ [x]) rest (by simpa using h)
    simp only at e ⊢
    rw [e]
    rw [List.length_append, List.length_cons, List.length_nil] at this
    rw [this]
    simp
theorem build_ent (kv : List Value) (h : kv.length = 32) : List.foldl (fun (cs : Array Value) x => cs.setIfInBounds x.2 x.1) (#[.int .u8 0, .int .u8 0, .int .u8 0, .int .u8 0, .int .u8 0, .int .u8 0, .int .u8 0, .int .u8 0, .int .u8 0, .int .u8 0, .int .u8 0, .int .u8 0, .int .u8 0, .int .u8 0, .int .u8 0, .int .u8 0, .int .u8 0, .int .u8 0, .int .u8 0, .int .u8 0, .int .u8 0, .int .u8 0, .int .u8 0, .int .u8 0, .int .u8 0, .int .u8 0, .int .u8 0, .int .u8 0, .int .u8 0, .int .u8 0, .int .u8 0, .int .u8 0, .bool false] : Array Value) kv.zipIdx = (kv ++ [Value.bool false]).toArray := by
  have := foldl_zip kv [] (bytesV (List.replicate 32 0) ++ [.bool false]) (by rw [h]; simp [bytesV])
  have e : (bytesV (List.replicate 32 0) ++ [Value.bool false]).drop kv.length = [.bool false] := by rw [h]; rfl
  rw [e] at this
  exact this

theorem build_ent2 (ev : List Value) (h : ev.length = 33) : List.foldl (fun (cs : Array Value) x => cs.setIfInBounds x.2 x.1) (#[.int .u8 0, .int .u8 0, .int .u8 0, .int .u8 0, .int .u8 0, .int .u8 0, .int .u8 0, .int .u8 0, .int .u8 0, .int .u8 0, .int .u8 0, .int .u8 0, .int .u8 0, .int .u8 0, .int .u8 0, .int .u8 0, .int .u8 0, .int .u8 0, .int .u8 0, .int .u8 0, .int .u8 0, .int .u8 0, .int .u8 0, .int .u8 0, .int .u8 0, .int .u8 0, .int .u8 0, .int .u8 0, .int .u8 0, .int .u8 0, .int .u8 0, .int .u8 0, .bool false] : Array Value) ev.zipIdx = ev.toArray := by
  have := foldl_zip ev [] (bytesV (List.replicate 32 0) ++ [.bool false]) (by rw [h]; simp [bytesV])
  have e : (bytesV (List.replicate 32 0) ++ [Value.bool false]).drop ev.length = [] := by rw [h]; rfl
  rw [e, List.append_nil] at this
  exact this

set_option maxHeartbeats 8000000 in
theorem radd_any (b : Nat) (v : Value) (es : List RE) (key : List UInt8) (w : World) (h : RegAt w b v es) (hn : es.length ≤ 1000) (hk : key.length = 32) :
    Calls Tryd.prog 9 #[.pointer (some ⟨b, 0, none⟩), .agg (bytesV key).toArray] w fun e' w' => RegPost w b v (addE es key) (addL es key) e' w' := by
  obtain ⟨i0, hi, hz0, hz1, hz2⟩ := info_parts info_ent
  have HF := Lib.hid (fun w' (x : Ext [] w w') => rfind_any b v es key w' (h.ext0 x) hn hk)
  have HR := Lib.hid (fun w' (x : Ext [] w w') => h.ext0 x)
  have HSAME := Lib.hid (fun E w' (x : Ext [] w w') => RegPost.same (E := E) h x)
  have hbv := h.own
  have hbn : v.ownBlock ≠ some b := fun e => by
    rcases h.own.2 with ⟨rfl, _⟩ | ⟨g, cap, cur, rfl, _, hgb, _⟩
    · cases e
    · obtain rfl : g = b := by simpa [Value.ownBlock] using e
      have := (show w.heap[g]? = _ from h.hd).symm.trans hgb
      simp at this
  clear hbv
  obtain ⟨va, vc, rfl⟩ := owns_slice h.own
  have HI := Lib.hid (show findI es key = if findN es key < es.length then (findN es key : Int) else -1 from rfl)
  have HE := Lib.hid (show addE es key = if findN es key < es.length then 17 else if es.length = 32 then 28 else 0 from rfl)
  have HL := Lib.hid (show addL es key = if findN es key < es.length then es else if es.length = 32 then es else es ++ [(key, false)] from rfl)
  have hkl : (bytesV key).length = 32 := by rw [bytesV_length, hk]
  have HEV := Lib.hid (show entV (key, false) = bytesV key ++ [.bool false] from rfl)
  obtain ⟨kv, hkv⟩ : ∃ kv, kv = bytesV key := ⟨_, rfl⟩
  rw [← hkv] at HF hkl HEV ⊢
  generalize addE es key = E at *
  generalize addL es key = L at *
  generalize findI es key = I at *
  generalize findN es key = N at *
  have hu3 := Tryd.underlying22
  have hsz2 : (Tryd.prog.info? 22).map (·.size) = some kv.length := by rw [hkl]; kernel_rfl
  clear h hkv
  go_enter Tryd.func9, Tryd.ntmps9
  go_upto_region 1 with (fail)
  show Code.wp _ _ _ _ (w.alloc (.cells kv.toArray 22))
  have BK : Blk (w.alloc (.cells kv.toArray 22)) w.heap.size 22 kv := Blk.new w _ kv.toArray
  have x1 : Ext [] w (w.alloc (.cells kv.toArray 22)) := (Ext.refl _ _).alloc _
  generalize w.alloc (.cells kv.toArray 22) = w1 at *
  go_wp2_with (with_reducible refine wpList_ldpart rfl 22 (.tmp 3) rfl w.heap.size 0 rfl kv _ BK.part hu3 rfl hsz2 ?_)
  refine (HF.out w1 x1).mono ?_
  rintro e w2 ⟨rfl, x2⟩
  have y2 := x1.trans x2
  have hI := HI.out
  have hE := HE.out
  have hL := HL.out
  by_cases hN : N < es.length
  · rw [if_pos hN] at hI hE hL
    subst hI
    have HEL := Lib.hid (And.intro hE hL)
    clear hE hL HI HE HL
    go_wp2_with fail
    go_ret
    rw [HEL.out.1, HEL.out.2]
    exact HSAME.out 17 w2 y2
  · rw [if_neg hN] at hI hE hL
    subst hI
    have hR := HR.out w2 y2
    have hc := hR.hd.cell 0
    by_cases h32 : es.length = 32
    · rw [if_pos h32] at hE hL
      have HEL := Lib.hid (And.intro hE hL)
      have hq : ((es.length : Int) == 32) = true := by rw [beq_iff_eq]; omega
      have H32 := Lib.hid h32
      clear hE hL HI HE HL h32 hR
      go_wp2_with fail
      go_ret
      rw [HEL.out.1, HEL.out.2]
      exact HSAME.out 28 w2 y2
    · rw [if_neg h32] at hE hL
      have HEL := Lib.hid (And.intro hE hL)
      have hq : ((es.length : Int) == 32) = false := by rw [beq_eq_false_iff_ne]; omega
      clear hE hL HI HE HL
      have HRR := Lib.hid hR
      have BK2 := BK.ext x2 (by simp)
      clear hR h32
      have hnotin := Lib.hid (show w.heap.size ∉ b :: (Value.slice va es.length vc).ownBlock.toList from by
        have h1 := HRR.out.hd
        intro hm
        rcases List.mem_cons.1 hm with e | e
        · rw [← e] at h1
          have := (show w2.heap[w.heap.size]? = _ from h1).symm.trans (show w2.heap[w.heap.size]? = _ from BK2)
          simp at this
        · exact blk_not_row BK2 (by decide) HRR.out.own (by cases va <;> simp [Value.ownBlock] at e ⊢ <;> simp [e]))
      have hev : (entV (key, false)).length = 33 := entV_length _ hk
      have hevo := entV_one (key, false)
      have HSN := Lib.hid (rowE_snoc es (key, false))
      have HFL := Lib.hid (build_ent kv hkl)
      rw [← HEV.out] at HFL
      have HFL2 := Lib.hid (build_ent2 (entV (key, false)) hev)
      generalize entV (key, false) = ev at *
      have z2 : Ext [] w2 w2.drew := (Ext.refl _ _).drew
      go_upto_region 7 with (fail)
      refine wp_region_held_drew (S := fun w' => Ext (b :: (Value.slice va es.length vc).ownBlock.toList) w2 w') (by kernel_rfl) (z2.sub (by simp)) (fun hS => ?_)
      have hc2 : w2.drew.cell? ⟨b, 0, none⟩ = some (.slice va es.length vc) := hc
      refine wpAnyH_take (i := 0) (oi := ⟨some 20, _, _, _, _, _⟩) (v := ?_) rfl (by kernel_rfl) (by kernel_rfl) (by kernel_rfl) (fun _ _ _ h => h) (Or.inl ⟨by rfl, ?_⟩) (by assumption) ?_
      rotate_left 1
      · (intro w hSw; (try dsimp only at hSw); go_split_ands; go_simp; (try with_reducible rfl))
      try simp only [Act.put, List.setIfInBounds_toArray, List.set_cons_zero, List.set_cons_succ]
      refine wpAnyH_take (i := 1) (oi := ⟨some 21, _, _, _, _, _⟩) (v := ?_) rfl (by kernel_rfl) (by kernel_rfl) (by kernel_rfl) (fun _ _ _ h => h) (Or.inl ⟨by rfl, ?_⟩) (by assumption) ?_
      rotate_left 1
      · (intro w hSw; (try dsimp only at hSw); go_split_ands; go_simp; (try with_reducible rfl))
      try simp only [Act.put, List.setIfInBounds_toArray, List.set_cons_zero, List.set_cons_succ]
      refine wpAnyH_take (i := 2) (oi := ⟨some 22, _, _, _, _, _⟩) (v := ?_) rfl (by kernel_rfl) (by kernel_rfl) (by kernel_rfl) (fun _ _ _ h => h) (Or.inl ⟨by rfl, ?_⟩) (by assumption) ?_
      rotate_left 1
      · (intro w hSw; (try dsimp only at hSw); go_split_ands; go_simp; (try with_reducible rfl))
      try simp only [Act.put, List.setIfInBounds_toArray, List.set_cons_zero, List.set_cons_succ]
      refine wpAnyH_take (i := 3) (oi := ⟨some 23, _, _, _, _, _⟩) (v := ?_) rfl (by kernel_rfl) (by kernel_rfl) (by kernel_rfl) (fun _ _ _ h => h) (Or.inl ⟨by rfl, ?_⟩) (by assumption) ?_
      rotate_left 1
      · (intro w hSw; (try dsimp only at hSw); go_split_ands; go_simp; (try with_reducible rfl))
      try simp only [Act.put, List.setIfInBounds_toArray, List.set_cons_zero, List.set_cons_succ]
      refine wpAnyH_take (i := 5) (oi := ⟨some 25, _, _, _, _, _⟩) (v := .agg kv.toArray) rfl (by kernel_rfl) (by kernel_rfl) (by kernel_rfl) (fun _ _ _ h => h) (yieldsIf_load_mid (by rfl) _ _ rfl w.heap.size 0 rfl kv _ (fun w h => range_of_blk4 (BK2.ext h (hnotin.out))) hu3 rfl hsz2) (by assumption) ?_
      try simp only [Act.put, List.setIfInBounds_toArray, List.set_cons_zero, List.set_cons_succ]
      refine wpAnyH_take (i := 6) (oi := ⟨some 26, _, _, _, _, _⟩) (v := ?_) rfl (by kernel_rfl) (by kernel_rfl) (by kernel_rfl) (fun _ _ _ h => h) (Or.inl ⟨by rfl, ?_⟩) (by assumption) ?_
      rotate_left 1
      · (intro w hSw; (try dsimp only at hSw); go_split_ands; have hfl := HFL.out; go_simp; (try with_reducible rfl))
      try simp only [Act.put, List.setIfInBounds_toArray, List.set_cons_zero, List.set_cons_succ]
      refine wpAnyH_ready (rs := [4, 7]) (by kernel_rfl) (by simp) ?_
      refine AllReadyH.cons (o := ⟨some 24, _, _, _, _, _⟩) rfl (fun K hK => ?_) (AllReadyH.cons (o := ⟨some 27, _, _, _, _, _⟩) rfl (fun K hK => ?_) AllReadyH.nil)
      · skip
        go_simp
        refine hK.out _ _ hS (fun hS => ?_)
        clear hK K
        try simp only [Act.put, List.setIfInBounds_toArray, List.set_cons_zero, List.set_cons_succ]
        refine wpAnyH_ready (rs := [7]) (by kernel_rfl) (by simp) ?_
        refine AllReadyH.cons (o := ⟨some 27, _, _, _, _, _⟩) rfl (fun K hK => ?_) AllReadyH.nil
        have hfl2 := HFL2.out
        go_simp
        clear hfl2
        have BV7 := (Blk.new w2 62 ev.toArray).drew
        have x7 : Ext [] w2 (w2.alloc (.cells ev.toArray 62)).drew := ((Ext.refl _ _).alloc _).drew
        generalize (w2.alloc (.cells ev.toArray 62)).drew = w7 at *
        have R7 := HRR.out.ext0 x7
        have hc7 := R7.hd.cell 0
        refine hK.out _ _ (x7.sub (by simp)) (fun hS => ?_)
        clear hK K
        try simp only [Act.put, List.setIfInBounds_toArray, List.set_cons_zero, List.set_cons_succ]
        refine wpAnyH_ready (rs := [8]) (by kernel_rfl) (by simp) ?_
        refine AllReadyH.cons (o := ⟨some 28, _, _, _, _, _⟩) rfl (fun K hK => ?_) AllReadyH.nil
        refine step_app _ rfl (.tmp 24) (.tmp 27) 57 rfl 62 i0 _ 33 33 Tryd.underlying57 hi hz0 hz1 hz2 rfl (by decide) (.slice va es.length vc) es.length (rowE es) rfl R7.own (.slice (some ⟨w2.heap.size, 0, none⟩) 1 1) 1 ev rfl (blk_reads BV7 1 (by simpa using hev)) hevo (by unfold maxLen; omega) (by omega) ?_
        intro v8 w8 hown8 hgrow8 hfr8 _
        have x8 : Ext (b :: (Value.slice va es.length vc).ownBlock.toList) w2 w8 := (x7.sub (by simp)).grown hgrow8 (by intro g hg; left; simp [hg])
        have B8 := R7.hd.grown hgrow8 hbn
        have hnr8 := blk_not_row B8 (by decide) hown8
        have hc8 := B8.cell 0
        have hf8 := B8.frozen 0
        obtain ⟨a8, c8, rfl⟩ := owns_slice hown8
        clear hgrow8
        refine hK.out _ _ x8 (fun hS => ?_)
        clear hK K
        try simp only [Act.put, List.setIfInBounds_toArray, List.set_cons_zero, List.set_cons_succ]
        refine wpAnyH_take (i := 9) (oi := ⟨some 29, _, _, _, _, _⟩) (v := ?_) rfl (by kernel_rfl) (by kernel_rfl) (by kernel_rfl) (fun _ _ _ h => h) (Or.inl ⟨by rfl, ?_⟩) (by assumption) ?_
        rotate_left 1
        · (intro w hSw; (try dsimp only at hSw); go_split_ands; go_simp; (try with_reducible rfl))
        try simp only [Act.put, List.setIfInBounds_toArray, List.set_cons_zero, List.set_cons_succ]
        refine wpAnyH_take (i := 10) (oi := ⟨some 30, _, _, _, _, _⟩) (v := ?_) rfl (by kernel_rfl) (by kernel_rfl) (by kernel_rfl) (fun _ _ _ h => h) (Or.inl ⟨by rfl, ?_⟩) (by assumption) ?_
        rotate_left 1
        · (intro w hSw; (try dsimp only at hSw); go_split_ands; go_simp; (try with_reducible rfl))
        try simp only [Act.put, List.setIfInBounds_toArray, List.set_cons_zero, List.set_cons_succ]
        refine wpAnyH_ready (rs := [11]) (by kernel_rfl) (by simp) ?_
        refine AllReadyH.cons (o := ⟨none, _, _, _, _, _⟩) rfl (fun K hK => ?_) AllReadyH.nil
        go_simp
        refine hK.out _ _ (x8.setCell (.inl (by simp)) _) (fun hS => ?_)
        clear hK K
        try simp only [Act.put]
        refine wpAnyH_done (by kernel_rfl) ?_ _
        go_wp2_with fail
        go_ret
        rw [HEL.out.1, HEL.out.2]
        refine ⟨_, rfl, ⟨B8.set 0 _, ?_, ?_⟩, (y2.sub (by simp)).trans (x8.setCell (p := ⟨b, 0, none⟩) (.inl (by simp)) _), ?_⟩
        · rw [HSN.out, List.length_append, List.length_cons, List.length_nil]
          exact owns_ext hown8 ((Ext.refl [b] w8).setCell (p := ⟨b, 0, none⟩) (.inl (by simp)) _) (fun k hk hm => hnr8 (by simp at hm; rw [hk, hm]))
        · intro e he
          rcases List.mem_append.1 he with h | h
          · exact R7.len e h
          · simp at h; subst h; exact hk
        · intro g hg
          have hs2 := y2.size
          have hs7 := x7.size
          rcases hfr8 with h | ⟨g', h, hle⟩
          · exact .inl (h ▸ hg)
          · rw [h] at hg; obtain rfl := Option.some.inj hg
            right; omega
      · skip
        have hfl2 := HFL2.out
        go_simp
        clear hfl2
        have BV7 := (Blk.new w2 62 ev.toArray).drew
        have x7 : Ext [] w2 (w2.alloc (.cells ev.toArray 62)).drew := ((Ext.refl _ _).alloc _).drew
        generalize (w2.alloc (.cells ev.toArray 62)).drew = w7 at *
        have R7 := HRR.out.ext0 x7
        have hc7 := R7.hd.cell 0
        refine hK.out _ _ (x7.sub (by simp)) (fun hS => ?_)
        clear hK K
        try simp only [Act.put, List.setIfInBounds_toArray, List.set_cons_zero, List.set_cons_succ]
        refine wpAnyH_ready (rs := [4]) (by kernel_rfl) (by simp) ?_
        refine AllReadyH.cons (o := ⟨some 24, _, _, _, _, _⟩) rfl (fun K hK => ?_) AllReadyH.nil
        go_simp
        refine hK.out _ _ hS (fun hS => ?_)
        clear hK K
        try simp only [Act.put, List.setIfInBounds_toArray, List.set_cons_zero, List.set_cons_succ]
        refine wpAnyH_ready (rs := [8]) (by kernel_rfl) (by simp) ?_
        refine AllReadyH.cons (o := ⟨some 28, _, _, _, _, _⟩) rfl (fun K hK => ?_) AllReadyH.nil
        refine step_app _ rfl (.tmp 24) (.tmp 27) 57 rfl 62 i0 _ 33 33 Tryd.underlying57 hi hz0 hz1 hz2 rfl (by decide) (.slice va es.length vc) es.length (rowE es) rfl R7.own (.slice (some ⟨w2.heap.size, 0, none⟩) 1 1) 1 ev rfl (blk_reads BV7 1 (by simpa using hev)) hevo (by unfold maxLen; omega) (by omega) ?_
        intro v8 w8 hown8 hgrow8 hfr8 _
        have x8 : Ext (b :: (Value.slice va es.length vc).ownBlock.toList) w2 w8 := (x7.sub (by simp)).grown hgrow8 (by intro g hg; left; simp [hg])
        have B8 := R7.hd.grown hgrow8 hbn
        have hnr8 := blk_not_row B8 (by decide) hown8
        have hc8 := B8.cell 0
        have hf8 := B8.frozen 0
        obtain ⟨a8, c8, rfl⟩ := owns_slice hown8
        clear hgrow8
        refine hK.out _ _ x8 (fun hS => ?_)
        clear hK K
        try simp only [Act.put, List.setIfInBounds_toArray, List.set_cons_zero, List.set_cons_succ]
        refine wpAnyH_take (i := 9) (oi := ⟨some 29, _, _, _, _, _⟩) (v := ?_) rfl (by kernel_rfl) (by kernel_rfl) (by kernel_rfl) (fun _ _ _ h => h) (Or.inl ⟨by rfl, ?_⟩) (by assumption) ?_
        rotate_left 1
        · (intro w hSw; (try dsimp only at hSw); go_split_ands; go_simp; (try with_reducible rfl))
        try simp only [Act.put, List.setIfInBounds_toArray, List.set_cons_zero, List.set_cons_succ]
        refine wpAnyH_take (i := 10) (oi := ⟨some 30, _, _, _, _, _⟩) (v := ?_) rfl (by kernel_rfl) (by kernel_rfl) (by kernel_rfl) (fun _ _ _ h => h) (Or.inl ⟨by rfl, ?_⟩) (by assumption) ?_
        rotate_left 1
        · (intro w hSw; (try dsimp only at hSw); go_split_ands; go_simp; (try with_reducible rfl))
        try simp only [Act.put, List.setIfInBounds_toArray, List.set_cons_zero, List.set_cons_succ]
        refine wpAnyH_ready (rs := [11]) (by kernel_rfl) (by simp) ?_
        refine AllReadyH.cons (o := ⟨none, _, _, _, _, _⟩) rfl (fun K hK => ?_) AllReadyH.nil
        go_simp
        refine hK.out _ _ (x8.setCell (.inl (by simp)) _) (fun hS => ?_)
        clear hK K
        try simp only [Act.put]
        refine wpAnyH_done (by kernel_rfl) ?_ _
        go_wp2_with fail
        go_ret
        rw [HEL.out.1, HEL.out.2]
        refine ⟨_, rfl, ⟨B8.set 0 _, ?_, ?_⟩, (y2.sub (by simp)).trans (x8.setCell (p := ⟨b, 0, none⟩) (.inl (by simp)) _), ?_⟩
        · rw [HSN.out, List.length_append, List.length_cons, List.length_nil]
          exact owns_ext hown8 ((Ext.refl [b] w8).setCell (p := ⟨b, 0, none⟩) (.inl (by simp)) _) (fun k hk hm => hnr8 (by simp at hm; rw [hk, hm]))
        · intro e he
          rcases List.mem_append.1 he with h | h
          · exact R7.len e h
          · simp at h; subst h; exact hk
        · intro g hg
          have hs2 := y2.size
          have hs7 := x7.size
          rcases hfr8 with h | ⟨g', h, hle⟩
          · exact .inl (h ▸ hg)
          · rw [h] at hg; obtain rfl := Option.some.inj hg
            right; omega

def spE (es : List RE) (i : Int) : Int := if i < 0 ∨ (es.length : Int) ≤ i then 2 else if (es.getD i.toNat ([], false)).2 then 129 else 0
def spL (es : List RE) (i : Int) : List RE := if i < 0 ∨ (es.length : Int) ≤ i then es else if (es.getD i.toNat ([], false)).2 then es else es.set i.toNat ((es.getD i.toNat ([], false)).1, true)
end Go.Proofs.YtgcbgeombbohpaaDoor
