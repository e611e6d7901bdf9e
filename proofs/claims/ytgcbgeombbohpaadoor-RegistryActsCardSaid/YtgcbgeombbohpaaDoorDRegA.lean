/- The reference of layer 3: DocAdd. -/
import Derived.Test.YtgcbgeombbohpaaDoorDRegS
namespace Go.Proofs.YtgcbgeombbohpaaDoor
open Go.RowKit
set_option maxRecDepth 100000

theorem rows_apart {w : World} {T1 T2 : TypeId} {s1 s2 n1 n2 : Nat} {v1 v2 : Value} {xs ys : List Value} (h1 : w.ownsRow 0 T1 s1 v1 n1 xs) (h2 : w.ownsRow 0 T2 s2 v2 n2 ys) (hne : T1 ≠ T2) :
    ∀ g, v1.ownBlock = some g → v2.ownBlock ≠ some g := by
  intro g hg hg2
  rcases h1.2 with ⟨rfl, _⟩ | ⟨g1, cap, cur, rfl, _, hb1, _⟩
  · cases hg
  · rcases h2.2 with ⟨rfl, _⟩ | ⟨g2, cap2, cur2, rfl, _, hb2, _⟩
    · cases hg2
    · cases hg
      cases hg2
      have := hb1.symm.trans hb2
      simp at this
      exact hne this.2
theorem info_k32 : (Tryd.prog.info? 22).map (fun i => (i.zero, i.size, i.bytes)) = some (some (.agg (bytesV (List.replicate 32 0)).toArray), 32, 32) := by kernel_rfl
theorem info_boolD : (Tryd.prog.info? 4).map (fun i => (i.zero, i.size, i.bytes)) = some (some (.bool false), 1, 1) := by kernel_rfl
theorem build_k32 (kv : List Value) (h : kv.length = 32) : List.foldl (fun (cs : Array Value) x => cs.setIfInBounds x.2 x.1) (#[.int .u8 0, .int .u8 0, .int .u8 0, .int .u8 0, .int .u8 0, .int .u8 0, .int .u8 0, .int .u8 0, .int .u8 0, .int .u8 0, .int .u8 0, .int .u8 0, .int .u8 0, .int .u8 0, .int .u8 0, .int .u8 0, .int .u8 0, .int .u8 0, .int .u8 0, .int .u8 0, .int .u8 0, .int .u8 0, .int .u8 0, .int .u8 0, .int .u8 0, .int .u8 0, .int .u8 0, .int .u8 0, .int .u8 0, .int .u8 0, .int .u8 0, .int .u8 0] : Array Value) kv.zipIdx = kv.toArray := by
  have := foldl_zip kv [] (bytesV (List.replicate 32 0)) (by rw [h]; simp [bytesV])
  have e : (bytesV (List.replicate 32 0)).drop kv.length = [] := by rw [h]; rfl
  rw [e, List.append_nil] at this
  exact this
theorem set_fst (xs : List Value) (a b c : Value) (h : xs.length = 72) : (xs ++ [a, b]).set 72 c = xs ++ [c, b] := by
  rw [List.set_append_right _ _ (by omega), h]
  rfl
theorem set_snd (xs : List Value) (a b c : Value) (h : xs.length = 72) : (xs ++ [a, b]).set 73 c = xs ++ [a, c] := by
  rw [List.set_append_right _ _ (by omega), h]
  rfl
theorem cells_two {w : World} {b : Nat} {T : TypeId} {xs : List Value} {u v : Value} (h : Blk w b T (xs ++ [u, v])) (hl : xs.length = 72) : w.cell? ⟨b, 72, none⟩ = some u ∧ w.cell? ⟨b, 73, none⟩ = some v ∧ b < w.heap.size := by
  refine ⟨?_, ?_, h.lt⟩
  · rw [h.cell 72, List.getElem?_append_right (by omega), hl]; rfl
  · rw [h.cell 73, List.getElem?_append_right (by omega), hl]; rfl

set_option maxHeartbeats 16000000 in
theorem doc_add (bd : Nat) (vk vs : Value) (es : List RE) (key : List UInt8) (w : World) (D : DocR w bd vk vs es) (hn : es.length ≤ 32) (hk : key.length = 32) :
    Calls Tryd.prog 18 #[.pointer (some ⟨bd, 0, none⟩), .agg (bytesV key).toArray] w fun e w' => DocPost w bd vk vs (addE es key) (addL es key) e w' := by
  obtain ⟨i0, hi, hz0, hz1, hz2⟩ := info_parts info_k32
  obtain ⟨j0, hj, hy0, hy1, hy2⟩ := info_parts info_boolD
  have HF1 := Lib.hid (fun k (hk : k < es.length) h1 h2 => findN_at es key k hk h1 h2)
  have HF2 := Lib.hid (findN_none es key)
  have HE1 := Lib.hid (show findN es key < es.length → addE es key = 17 ∧ addL es key = es from fun h => ⟨if_pos h, if_pos h⟩)
  have HE2 := Lib.hid (show ¬ findN es key < es.length → es.length = 32 → addE es key = 28 ∧ addL es key = es from fun h h2 => ⟨by unfold addE; rw [if_neg h, if_pos h2], by unfold addL; rw [if_neg h, if_pos h2]⟩)
  have HE3 := Lib.hid (show ¬ findN es key < es.length → ¬ es.length = 32 → addE es key = 0 ∧ addL es key = es ++ [(key, false)] from fun h h2 => ⟨by unfold addE; rw [if_neg h, if_neg h2], by unfold addL; rw [if_neg h, if_neg h2]⟩)
  have HD := Lib.hid (fun w' (x : Ext [] w w') => D.ext0 x)
  have HSAME := Lib.hid (fun E w' (x : Ext [] w w') => DocPost.same (E := E) D x)
  obtain ⟨ka, kc, rfl⟩ := owns_slice D.k
  obtain ⟨sa, sc, rfl⟩ := owns_slice D.s
  have HDK := Lib.hid D.k
  have HC := Lib.hid (fun w' (x : Ext [] w w') => (D.ext0 x).cells)
  have HP := Lib.hid (fun w' (x : Ext [] w w') k (hk : k < es.length) => (show ∃ g, ka = some ⟨g, 0, none⟩ ∧ PartAt w' g (k * 32) (bytesV es[k].1) from by
    obtain ⟨g, c', cur, he, -, -, -, -, -⟩ := owns_some D.k (by omega)
    cases he
    exact ⟨g, rfl, (D.ext0 x).key k hk⟩))
  have HQ := Lib.hid (fun k (hk2 : k < es.length) => eq_keys es[k].1 key (D.len _ (List.getElem_mem hk2)) hk)
  have HL := Lib.hid (fun k (hk2 : k < es.length) => (show (bytesV es[k].1).length = 32 by rw [bytesV_length]; exact D.len _ (List.getElem_mem hk2)))
  have HSN1 := Lib.hid (keysV_snoc es (key, false))
  have HSN2 := Lib.hid (spentV_snoc es (key, false))
  have HLEN := Lib.hid (show ∀ e ∈ es ++ [(key, false)], e.1.length = 32 from by
    intro e he
    rcases List.mem_append.1 he with h | h
    · exact D.len e h
    · simp at h; subst h; exact hk)
  have hkl : (bytesV key).length = 32 := by rw [bytesV_length]; exact hk
  have hkone : ∀ u ∈ bytesV key, u.oneCell' = true := by
    intro u hu
    simp only [bytesV, List.mem_map] at hu
    obtain ⟨x, _, rfl⟩ := hu
    rfl
  generalize addE es key = E at *
  generalize addL es key = L at *
  generalize findN es key = N at *
  clear D
  go_enter Tryd.func18, Tryd.ntmps18
  go_upto_region 1 with (fail)
  show Code.wp _ _ _ _ (w.alloc (.cells (bytesV key).toArray 22))
  have BK : Blk (w.alloc (.cells (bytesV key).toArray 22)) w.heap.size 22 (bytesV key) := Blk.new w _ (bytesV key).toArray
  have x1 : Ext [] w (w.alloc (.cells (bytesV key).toArray 22)) := (Ext.refl _ _).alloc _
  have hbk : w.heap.size ≤ w.heap.size := Nat.le_refl _
  generalize w.alloc (.cells (bytesV key).toArray 22) = w1 at *
  obtain ⟨bk, hbkq⟩ : ∃ n, n = w.heap.size := ⟨_, rfl⟩
  rw [← hbkq] at BK ⊢
  have HBK0 := Lib.hid hbkq
  clear hbkq hbk
  go_wp2_with fail
  go_loopw [5] (fun i wr => ∃ k : Nat, k ≤ es.length ∧ i = .int .i64 (k : Int) ∧ (∀ j, j < k → decide (es[j]?.map (·.1) = some key) = false) ∧ Ext [] w1 wr) (fun i _ => es.length - (intOf i).toNat)
  case atStart => exact ⟨0, Nat.zero_le _, rfl, fun j hj => by omega, Ext.refl _ _⟩
  case round =>
    obtain ⟨k, hk, rfl, hno, x⟩ := hrel
    have HNO := Lib.hid hno
    clear hno
    obtain ⟨c72, c73, hbl⟩ := HC.out wr (x1.trans x)
    by_cases hlt : k < es.length
    · have hlt' : (k : Int) < (es.length : Int) := by omega
      obtain ⟨g, rfl, hpe⟩ := HP.out wr (x1.trans x) k hlt
      have HPK := Lib.hid (fun w' (x' : Ext [] w1 w') => (show PartAt w' g (k * 32) (bytesV es[k].1) from by
        obtain ⟨g', e, h⟩ := HP.out w' (x1.trans x') k hlt
        cases e; exact h))
      have HBK := Lib.hid (fun w' (x' : Ext [] w1 w') => (BK.ext x' (by simp)).part)
      have HC1 := Lib.hid (fun w' (x' : Ext [] w1 w') => HC.out w' (x1.trans x'))
      have HAT := Lib.hid (show es[k]? = some es[k] from List.getElem?_eq_getElem hlt)
      have HF := Lib.hid (HF1.out k hlt HNO.out)
      have heq := HQ.out k hlt
      have hl1 := HL.out k hlt
      generalize es[k] = ek at *
      have hu := Tryd.underlying22
      have hsz1 : (Tryd.prog.info? 22).map (·.size) = some (bytesV ek.1).length := by rw [hl1]; kernel_rfl
      have hsz2 : (Tryd.prog.info? 22).map (·.size) = some (bytesV key).length := by rw [hkl]; kernel_rfl
      go_wp2_with fail
      refine wp_region_held_drew (S := fun w' => Ext [] w1 w') (by kernel_rfl) x.drew (fun hS => ?_)
      clear c72 c73 hpe BK
      refine wpAnyH_take (i := 0) (oi := ⟨some 15, _, _, _, _, _⟩) (v := ?_) rfl (by kernel_rfl) (by kernel_rfl) (by kernel_rfl) (fun _ _ _ h => h) (Or.inl ⟨by rfl, ?_⟩) (by assumption) ?_
      rotate_left 1
      · (intro w hSw; (try dsimp only at hSw); go_split_ands; (try go_simp); (try with_reducible rfl))
      try simp only [Act.put, List.setIfInBounds_toArray, List.set_cons_zero, List.set_cons_succ]
      refine wpAnyH_take (i := 1) (oi := ⟨some 16, _, _, _, _, _⟩) (v := ?_) rfl (by kernel_rfl) (by kernel_rfl) (by kernel_rfl) (fun _ _ _ h => h) (Or.inl ⟨by rfl, ?_⟩) (by assumption) ?_
      rotate_left 1
      · (intro w hSw; (try dsimp only at hSw); go_split_ands; (try go_simp); (try with_reducible rfl))
      try simp only [Act.put, List.setIfInBounds_toArray, List.set_cons_zero, List.set_cons_succ]
      refine wpAnyH_take (i := 2) (oi := ⟨some 17, _, _, _, _, _⟩) (v := ?_) rfl (by kernel_rfl) (by kernel_rfl) (by kernel_rfl) (fun _ _ _ h => h) (Or.inl ⟨by rfl, ?_⟩) (by assumption) ?_
      rotate_left 1
      · (intro w hSw; (try dsimp only at hSw); go_split_ands; (try go_simp); (try with_reducible rfl))
      try simp only [Act.put, List.setIfInBounds_toArray, List.set_cons_zero, List.set_cons_succ]
      refine wpAnyH_take (i := 3) (oi := ⟨some 18, _, _, _, _, _⟩) (v := ?_) rfl (by kernel_rfl) (by kernel_rfl) (by kernel_rfl) (fun _ _ _ h => h) (Or.inl ⟨by rfl, ?_⟩) (by assumption) ?_
      rotate_left 1
      · (intro w hSw; (try dsimp only at hSw); go_split_ands; obtain ⟨c72, c73, hbl⟩ := HC1.out w (by assumption); (try go_simp); (try with_reducible rfl))
      try simp only [Act.put, List.setIfInBounds_toArray, List.set_cons_zero, List.set_cons_succ]
      refine wpAnyH_take (i := 4) (oi := ⟨some 19, _, _, _, _, _⟩) (v := ?_) rfl (by kernel_rfl) (by kernel_rfl) (by kernel_rfl) (fun _ _ _ h => h) (Or.inl ⟨by rfl, ?_⟩) (by assumption) ?_
      rotate_left 1
      · (intro w hSw; (try dsimp only at hSw); go_split_ands; (try go_simp); (try with_reducible rfl))
      try simp only [Act.put, List.setIfInBounds_toArray, List.set_cons_zero, List.set_cons_succ]
      refine wpAnyH_take (i := 5) (oi := ⟨some 20, _, _, _, _, _⟩) (v := ?_) rfl (by kernel_rfl) (by kernel_rfl) (by kernel_rfl) (fun _ _ _ h => h) (Or.inl ⟨by rfl, ?_⟩) (by assumption) ?_
      rotate_left 1
      · (intro w hSw; (try dsimp only at hSw); go_split_ands; (try go_simp); (try with_reducible rfl))
      try simp only [Act.put, List.setIfInBounds_toArray, List.set_cons_zero, List.set_cons_succ]
      refine wpAnyH_take (i := 6) (oi := ⟨some 21, _, _, _, _, _⟩) (v := .agg (bytesV ek.1).toArray) rfl (by kernel_rfl) (by kernel_rfl) (by kernel_rfl) (fun _ _ _ h => h) (yieldsIf_load_mid (by rfl) _ _ rfl g (k * 32) rfl (bytesV ek.1) _ (fun w h => range_of_part (HPK.out w h)) hu rfl hsz1) (by assumption) ?_
      try simp only [Act.put, List.setIfInBounds_toArray, List.set_cons_zero, List.set_cons_succ]
      refine wpAnyH_take (i := 7) (oi := ⟨some 22, _, _, _, _, _⟩) (v := .agg (bytesV key).toArray) rfl (by kernel_rfl) (by kernel_rfl) (by kernel_rfl) (fun _ _ _ h => h) (yieldsIf_load_mid (by rfl) _ _ rfl bk 0 rfl (bytesV key) _ (fun w h => range_of_part (HBK.out w h)) hu rfl hsz2) (by assumption) ?_
      try simp only [Act.put, List.setIfInBounds_toArray, List.set_cons_zero, List.set_cons_succ]
      refine wpAnyH_take (i := 8) (oi := ⟨some 23, _, _, _, _, _⟩) (v := ?_) rfl (by kernel_rfl) (by kernel_rfl) (by kernel_rfl) (fun _ _ _ h => h) (Or.inl ⟨by rfl, ?_⟩) (by assumption) ?_
      rotate_left 1
      · (intro w hSw; (try dsimp only at hSw); go_split_ands; (try go_simp); (try with_reducible rfl))
      try simp only [Act.put, List.setIfInBounds_toArray, List.set_cons_zero, List.set_cons_succ]
      refine wpAnyH_done (by kernel_rfl) ?_ _
      generalize wr.drew = w2 at hS ⊢
      by_cases hq : ek.1 = key
      · have hN := HF.out hq
        have hEL := HE1.out (by rw [hN]; exact hlt)
        rw [decide_eq_true hq]
        have HDONE := Lib.hid (HSAME.out 17 w2 (x1.trans hS))
        have HEL := Lib.hid hEL
        clear HF heq hEL hN HE1 HE2 HE3 HF1 HF2
        go_wp2_with fail
        go_ret
        rw [HEL.out.1, HEL.out.2]
        exact HDONE.out
      · have HNO2 := Lib.hid (show ∀ j, j < k + 1 → decide (es[j]?.map (·.1) = some key) = false from fun j hj => by
          by_cases h : j < k
          · exact HNO.out j h
          · obtain rfl : j = k := by omega
            rw [HAT.out]
            simpa using hq)
        rw [decide_eq_false hq]
        clear HF heq
        go_wp2_with fail
        go_roundw
        case rel => exact ⟨k + 1, by omega, by go_num, HNO2.out, hS⟩
        case measure => simp [intOf]; omega
    · obtain rfl : k = es.length := by omega
      have hN : ¬ N < es.length := by rw [HF2.out HNO.out]; exact Nat.lt_irrefl _
      by_cases h32 : es.length = 32
      · have hEL := HE2.out hN h32
        have HEL := Lib.hid hEL
        have HDONE := Lib.hid (HSAME.out 28 wr (x1.trans x))
        have hge : (32 : Int) ≤ (es.length : Int) := by omega
        clear hEL hN HE1 HE2 HE3 HF1 HF2 h32
        go_wp2_with fail
        go_ret
        rw [HEL.out.1, HEL.out.2]
        exact HDONE.out
      · have hEL := HE3.out hN h32
        have HEL := Lib.hid hEL
        have hlt32 : (es.length : Int) < 32 := by omega
        clear hEL hN HE1 HE2 HE3 HF1 HF2 h32
        go_upto_region 8 with (fail)
        obtain ⟨kv, hkv⟩ : ∃ kv, kv = bytesV key := ⟨_, rfl⟩
        have HSN1 := Lib.hid (show keysV (es ++ [(key, false)]) = keysV es ++ kv from hkv ▸ HSN1.out)
        rw [← hkv] at hkl hkone BK ⊢
        clear hkv
        have HFLK := Lib.hid (build_k32 kv hkl)
        have hu := Tryd.underlying22
        have hsz2 : (Tryd.prog.info? 22).map (·.size) = some kv.length := by rw [hkl]; kernel_rfl
        have D3 := HD.out wr.drew ((x1.trans x).drew)
        have BD := D3.h
        have OK := D3.k
        have OS := D3.s
        have hRl : (V32 (Ks ++ begin0.list)).length = 72 := by decide +kernel
        have BK := (BK.ext x (by simp)).drew
        have T : Ext (bd :: ((Value.slice ka es.length kc).ownBlock.toList ++ (Value.slice sa es.length sc).ownBlock.toList)) w wr.drew := ((x1.trans x).drew).sub (by simp)
        have hws : w.heap.size ≤ wr.drew.heap.size := T.size
        have HKB := Lib.hid (show ∀ g, (Value.slice ka es.length kc).ownBlock = some g → g ≠ bk from fun g hg => by
          have := owns_lt HDK.out hg
          rw [HBK0.out]; omega)
        clear c72 c73 hbl D3 HC HP HQ HL HD HSAME
        refine wp_region_mark 17 (S := fun w' => w'.cell? ⟨bd, 72, none⟩ = some (.slice ka es.length kc) ∧ w'.cell? ⟨bd, 73, none⟩ = some (.slice sa es.length sc) ∧ bd < w'.heap.size ∧ w'.rangeAt bk 0 kv) (by kernel_rfl) ⟨(cells_two BD hRl).1, (cells_two BD hRl).2.1, (cells_two BD hRl).2.2, range_of_blk4 BK⟩ (fun hS => ?_)
        generalize wr.drew = wq at *
        obtain ⟨rt, hrt⟩ : ∃ rt, rt = V32 (Ks ++ begin0.list) := ⟨_, rfl⟩
        rw [← hrt] at BD hRl
        have HRT := Lib.hid hrt
        clear hrt
        refine wpAnyM_take0 (i := 0) (oi := ⟨some 30, _, _, _, _, _⟩) (v := ?_) rfl (by kernel_rfl) (by kernel_rfl) (by kernel_rfl) (fun _ _ _ h => h) (Or.inl ⟨by rfl, ?_⟩) (by assumption) (by kernel_rfl) ?_
        rotate_left 1
        · (intro w hSw; (try dsimp only at hSw); go_split_ands; (try go_simp); (try with_reducible rfl))
        try simp only [Act.put, List.setIfInBounds_toArray, List.set_cons_zero, List.set_cons_succ]
        refine wpAnyM_take0 (i := 1) (oi := ⟨some 31, _, _, _, _, _⟩) (v := ?_) rfl (by kernel_rfl) (by kernel_rfl) (by kernel_rfl) (fun _ _ _ h => h) (Or.inl ⟨by rfl, ?_⟩) (by assumption) (by kernel_rfl) ?_
        rotate_left 1
        · (intro w hSw; (try dsimp only at hSw); go_split_ands; (try go_simp); (try with_reducible rfl))
        try simp only [Act.put, List.setIfInBounds_toArray, List.set_cons_zero, List.set_cons_succ]
        refine wpAnyM_take0 (i := 2) (oi := ⟨some 32, _, _, _, _, _⟩) (v := ?_) rfl (by kernel_rfl) (by kernel_rfl) (by kernel_rfl) (fun _ _ _ h => h) (Or.inl ⟨by rfl, ?_⟩) (by assumption) (by kernel_rfl) ?_
        rotate_left 1
        · (intro w hSw; (try dsimp only at hSw); go_split_ands; (try go_simp); (try with_reducible rfl))
        try simp only [Act.put, List.setIfInBounds_toArray, List.set_cons_zero, List.set_cons_succ]
        refine wpAnyM_take0 (i := 3) (oi := ⟨some 33, _, _, _, _, _⟩) (v := ?_) rfl (by kernel_rfl) (by kernel_rfl) (by kernel_rfl) (fun _ _ _ h => h) (Or.inl ⟨by rfl, ?_⟩) (by assumption) (by kernel_rfl) ?_
        rotate_left 1
        · (intro w hSw; (try dsimp only at hSw); go_split_ands; (try go_simp); (try with_reducible rfl))
        try simp only [Act.put, List.setIfInBounds_toArray, List.set_cons_zero, List.set_cons_succ]
        refine wpAnyM_take0 (i := 4) (oi := ⟨some 34, _, _, _, _, _⟩) (v := ?_) rfl (by kernel_rfl) (by kernel_rfl) (by kernel_rfl) (fun _ _ _ h => h) (Or.inl ⟨by rfl, ?_⟩) (by assumption) (by kernel_rfl) ?_
        rotate_left 1
        · (intro w hSw; (try dsimp only at hSw); go_split_ands; (try go_simp); (try with_reducible rfl))
        try simp only [Act.put, List.setIfInBounds_toArray, List.set_cons_zero, List.set_cons_succ]
        refine wpAnyM_take (i := 5) (oi := ⟨some 35, _, _, _, _, _⟩) (v := ?_) rfl (by kernel_rfl) (by kernel_rfl) (by kernel_rfl) (fun _ _ _ h => h) (Or.inl ⟨by rfl, ?_⟩) (by assumption) (by kernel_rfl) (by kernel_rfl) (by kernel_rfl) ?_
        rotate_left 1
        · (intro w hSw; (try dsimp only at hSw); go_split_ands; (try skip); (try go_simp); (try with_reducible rfl))
        try simp only [Act.put, List.setIfInBounds_toArray, List.set_cons_zero, List.set_cons_succ]
        refine wpAnyM_take (i := 6) (oi := ⟨some 36, _, _, _, _, _⟩) (v := .agg kv.toArray) rfl (by kernel_rfl) (by kernel_rfl) (by kernel_rfl) (fun _ _ _ h => h) (yieldsIf_load_mid (by rfl) _ _ rfl bk 0 rfl kv _ (fun w h => h.2.2.2) hu rfl hsz2) (by assumption) (by kernel_rfl) (by kernel_rfl) (by kernel_rfl) ?_
        try simp only [Act.put, List.setIfInBounds_toArray, List.set_cons_zero, List.set_cons_succ]
        refine wpAnyM_take0 (i := 9) (oi := ⟨some 39, _, _, _, _, _⟩) (v := ?_) rfl (by kernel_rfl) (by kernel_rfl) (by kernel_rfl) (fun _ _ _ h => h) (Or.inl ⟨by rfl, ?_⟩) (by assumption) (by kernel_rfl) ?_
        rotate_left 1
        · (intro w hSw; (try dsimp only at hSw); go_split_ands; (try go_simp); (try with_reducible rfl))
        try simp only [Act.put, List.setIfInBounds_toArray, List.set_cons_zero, List.set_cons_succ]
        refine wpAnyM_take0 (i := 10) (oi := ⟨some 40, _, _, _, _, _⟩) (v := ?_) rfl (by kernel_rfl) (by kernel_rfl) (by kernel_rfl) (fun _ _ _ h => h) (Or.inl ⟨by rfl, ?_⟩) (by assumption) (by kernel_rfl) ?_
        rotate_left 1
        · (intro w hSw; (try dsimp only at hSw); go_split_ands; (try go_simp); (try with_reducible rfl))
        try simp only [Act.put, List.setIfInBounds_toArray, List.set_cons_zero, List.set_cons_succ]
        refine wpAnyM_take0 (i := 11) (oi := ⟨some 41, _, _, _, _, _⟩) (v := ?_) rfl (by kernel_rfl) (by kernel_rfl) (by kernel_rfl) (fun _ _ _ h => h) (Or.inl ⟨by rfl, ?_⟩) (by assumption) (by kernel_rfl) ?_
        rotate_left 1
        · (intro w hSw; (try dsimp only at hSw); go_split_ands; (try go_simp); (try with_reducible rfl))
        try simp only [Act.put, List.setIfInBounds_toArray, List.set_cons_zero, List.set_cons_succ]
        refine wpAnyM_take (i := 12) (oi := ⟨some 42, _, _, _, _, _⟩) (v := ?_) rfl (by kernel_rfl) (by kernel_rfl) (by kernel_rfl) (fun _ _ _ h => h) (Or.inl ⟨by rfl, ?_⟩) (by assumption) (by kernel_rfl) (by kernel_rfl) (by kernel_rfl) ?_
        rotate_left 1
        · (intro w hSw; (try dsimp only at hSw); go_split_ands; (try skip); (try go_simp); (try with_reducible rfl))
        try simp only [Act.put, List.setIfInBounds_toArray, List.set_cons_zero, List.set_cons_succ]
        refine wpAnyM_ready (rs := [7, 13]) (by kernel_rfl) (by simp) ?_
        refine AllReadyM.cons (o := ⟨some 37, _, _, _, _, _⟩) rfl (fun K hK => ?_) (AllReadyM.cons (o := ⟨some 43, _, _, _, _, _⟩) rfl (fun K hK => ?_) AllReadyM.nil)
        · skip
          have hfl := HFLK.out
          go_simp
          clear hfl
          have BN := Blk.new wq 22 kv.toArray
          have xq : Ext [] wq (wq.alloc (.cells kv.toArray 22)) := (Ext.refl _ _).alloc _
          have hbn : wq.heap.size ≠ bk := Nat.ne_of_gt BK.lt
          have T := T.trans (xq.sub (by simp))
          have BD := BD.ext xq (by simp)
          have OK := owns_ext OK xq (by simp)
          have OS := owns_ext OS xq (by simp)
          have BK := BK.ext xq (by simp)
          try have BM := BM.ext xq (by simp)
          have hkn : ∀ g, (Value.slice ka es.length kc).ownBlock = some g → wq.heap.size ≠ g := fun g hg => by
            rintro rfl
            exact absurd (owns_lt ‹wq.ownsRow 0 22 32 (.slice ka es.length kc) es.length (keysV es)› hg) (Nat.lt_irrefl _)
          have hws := Nat.le_trans hws xq.size
          clear xq hS
          generalize wq.alloc (.cells kv.toArray 22) = wq2 at *
          generalize wq.heap.size = bn at *
          obtain ⟨wq, hwq⟩ : ∃ w, w = wq2 := ⟨_, rfl⟩
          subst hwq
          refine hK.out _ _ ⟨(cells_two BD hRl).1, (cells_two BD hRl).2.1, (cells_two BD hRl).2.2, range_of_blk4 BK⟩ (fun hS => ?_)
          clear hK K
          try simp only [Act.put, List.setIfInBounds_toArray, List.set_cons_zero, List.set_cons_succ]
          refine wpAnyM_ready (rs := [8, 13]) (by kernel_rfl) (by simp) ?_
          refine AllReadyM.cons (o := ⟨some 38, _, _, _, _, _⟩) rfl (fun K hK => ?_) (AllReadyM.cons (o := ⟨some 43, _, _, _, _, _⟩) rfl (fun K hK => ?_) AllReadyM.nil)
          · skip
            refine step_app _ rfl (.tmp 35) (.tmp 37) 49 rfl 22 i0 _ 32 32 Tryd.underlying49 hi hz0 hz1 hz2 rfl (by decide) (.slice ka es.length kc) es.length (keysV es) rfl OK (.slice (some ⟨bn, 0, none⟩) 1 1) 1 kv rfl (blk_reads BN 1 (by simpa using hkl)) hkone (by unfold maxLen; omega) (by omega) ?_
            intro v8 w8 hown8 hgrow8 hfr8 _
            have x8 : Ext ((Value.slice ka es.length kc).ownBlock.toList) wq w8 := (Ext.refl _ _).grown hgrow8 (by intro g hg; left; simp [hg])
            have hbd8 : bd ∉ (Value.slice ka es.length kc).ownBlock.toList := fun hm => blk_not_row BD (by decide) OK (by simpa using hm : (Value.slice ka es.length kc).ownBlock = some bd).symm
            have hos8 : ∀ g, (Value.slice sa es.length sc).ownBlock = some g → g ∉ (Value.slice ka es.length kc).ownBlock.toList := fun g hg hm => rows_apart OK OS (by decide) g (by simpa using hm) hg
            have hbk8 : bk ∉ (Value.slice ka es.length kc).ownBlock.toList := fun hm => HKB.out bk (by simpa using hm) rfl
            have BD := BD.ext x8 hbd8
            have OS := owns_ext OS x8 hos8
            have BK := BK.ext x8 hbk8
            try have BM := BM.ext x8 (fun hm => blk_not_row BM (by decide) OK (by simpa using hm : (Value.slice ka es.length kc).ownBlock = some bm).symm)
            have T := T.trans (x8.sub (fun i hi => .inl (by simp only [List.mem_cons, List.mem_append]; exact .inr (.inl hi))))
            have F8 : ∀ g, v8.ownBlock = some g → (Value.slice ka es.length kc).ownBlock = some g ∨ w.heap.size ≤ g := by
              intro g hg
              rcases hfr8 with h | ⟨g', h, hle⟩
              · exact .inl (h ▸ hg)
              · rw [h] at hg; cases hg; exact .inr (Nat.le_trans hws hle)
            have hws := Nat.le_trans hws x8.size
            clear hgrow8 hfr8 x8 hbd8 hos8 hbk8 hS OK BN hkn
            have OK := hown8
            clear hown8
            obtain ⟨wq, hwq⟩ : ∃ w, w = w8 := ⟨_, rfl⟩
            subst hwq
            obtain ⟨a8, c8, rfl⟩ := owns_slice OK
            refine hK.out _ _ ⟨(cells_two BD hRl).1, (cells_two BD hRl).2.1, (cells_two BD hRl).2.2, range_of_blk4 BK⟩ (fun hS => ?_)
            clear hK K
            try simp only [Act.put, List.setIfInBounds_toArray, List.set_cons_zero, List.set_cons_succ]
            refine wpAnyM_ready (rs := [13]) (by kernel_rfl) (by simp) ?_
            refine AllReadyM.cons (o := ⟨some 43, _, _, _, _, _⟩) rfl (fun K hK => ?_) AllReadyM.nil
            go_simp
            have BM := Blk.new wq 4 #[.bool false]
            have xq : Ext [] wq (wq.alloc (.cells #[.bool false] 4)) := (Ext.refl _ _).alloc _
            have T := T.trans (xq.sub (by simp))
            have BD := BD.ext xq (by simp)
            have OK := owns_ext OK xq (by simp)
            have OS := owns_ext OS xq (by simp)
            have BK := BK.ext xq (by simp)
            try have BN := BN.ext xq (by simp)
            have hws := Nat.le_trans hws xq.size
            clear xq hS
            generalize wq.alloc (.cells #[.bool false] 4) = wq2 at *
            generalize wq.heap.size = bm at *
            obtain ⟨wq, hwq⟩ : ∃ w, w = wq2 := ⟨_, rfl⟩
            subst hwq
            refine hK.out _ _ ⟨(cells_two BD hRl).1, (cells_two BD hRl).2.1, (cells_two BD hRl).2.2, range_of_blk4 BK⟩ (fun hS => ?_)
            clear hK K
            try simp only [Act.put, List.setIfInBounds_toArray, List.set_cons_zero, List.set_cons_succ]
            refine wpAnyM_ready (rs := [14]) (by kernel_rfl) (by simp) ?_
            refine AllReadyM.cons (o := ⟨some 44, _, _, _, _, _⟩) rfl (fun K hK => ?_) AllReadyM.nil
            refine step_app _ rfl (.tmp 42) (.tmp 43) 50 rfl 4 j0 _ 1 1 Tryd.underlying50 hj hy0 hy1 hy2 rfl (by decide) (.slice sa es.length sc) es.length (spentV es) rfl OS (.slice (some ⟨bm, 0, none⟩) 1 1) 1 [.bool false] rfl (blk_reads BM 1 rfl) (by intro u hu; simp at hu; subst hu; rfl) (by unfold maxLen; omega) (by omega) ?_
            intro v14 w14 hown14 hgrow14 hfr14 _
            have x14 : Ext ((Value.slice sa es.length sc).ownBlock.toList) wq w14 := (Ext.refl _ _).grown hgrow14 (by intro g hg; left; simp [hg])
            have BD := BD.ext x14 (fun hm => blk_not_row BD (by decide) OS (by simpa using hm : (Value.slice sa es.length sc).ownBlock = some bd).symm)
            have OK := owns_ext OK x14 (fun g hg hm => rows_apart OK OS (by decide) g hg (by simpa using hm))
            have BK := BK.ext x14 (fun hm => blk_not_row BK (by decide) OS (by simpa using hm : (Value.slice sa es.length sc).ownBlock = some bk).symm)
            have T := T.trans (x14.sub (fun i hi => .inl (by simp only [List.mem_cons, List.mem_append]; exact .inr (.inr hi))))
            have F14 : ∀ g, v14.ownBlock = some g → (Value.slice sa es.length sc).ownBlock = some g ∨ w.heap.size ≤ g := by
              intro g hg
              rcases hfr14 with h | ⟨g', h, hle⟩
              · exact .inl (h ▸ hg)
              · rw [h] at hg; cases hg; exact .inr (Nat.le_trans hws hle)
            clear hgrow14 hfr14 x14 hS OS BM hws
            have OS := hown14
            clear hown14
            obtain ⟨wq, hwq⟩ : ∃ w, w = w14 := ⟨_, rfl⟩
            subst hwq
            obtain ⟨a14, c14, rfl⟩ := owns_slice OS
            refine hK.out _ _ ⟨(cells_two BD hRl).1, (cells_two BD hRl).2.1, (cells_two BD hRl).2.2, range_of_blk4 BK⟩ (fun hS => ?_)
            clear hK K
            try simp only [Act.put, List.setIfInBounds_toArray, List.set_cons_zero, List.set_cons_succ]
            refine wpAnyM_take0 (i := 15) (oi := ⟨some 45, _, _, _, _, _⟩) (v := ?_) rfl (by kernel_rfl) (by kernel_rfl) (by kernel_rfl) (fun _ _ _ h => h) (Or.inl ⟨by rfl, ?_⟩) (by assumption) (by kernel_rfl) ?_
            rotate_left 1
            · (intro w hSw; (try dsimp only at hSw); go_split_ands; (try go_simp); (try with_reducible rfl))
            try simp only [Act.put, List.setIfInBounds_toArray, List.set_cons_zero, List.set_cons_succ]
            refine wpAnyM_take0 (i := 16) (oi := ⟨some 46, _, _, _, _, _⟩) (v := ?_) rfl (by kernel_rfl) (by kernel_rfl) (by kernel_rfl) (fun _ _ _ h => h) (Or.inl ⟨by rfl, ?_⟩) (by assumption) (by kernel_rfl) ?_
            rotate_left 1
            · (intro w hSw; (try dsimp only at hSw); go_split_ands; (try go_simp); (try with_reducible rfl))
            try simp only [Act.put, List.setIfInBounds_toArray, List.set_cons_zero, List.set_cons_succ]
            refine wpAnyM_ready (rs := [17]) (by kernel_rfl) (by simp) ?_
            refine AllReadyM.mark (o := ⟨none, _, _, _, _, _⟩) rfl (by kernel_rfl) (fun K hK => ?_)
            have c72 := (cells_two BD hRl).1
            have hbl := BD.lt
            have f72 := BD.frozen 72
            go_simp
            clear c72 hbl f72 hS BK
            have BD1 := BD.set 72 (.slice a8 (es.length + 1) c8)
            rw [set_fst _ _ _ _ hRl] at BD1
            have xq : Ext [bd] wq (wq.setCell ⟨bd, 72, none⟩ (.slice a8 (es.length + 1) c8)) := (Ext.refl _ _).setCell (.inl (by simp)) _
            have T := T.trans (xq.sub (fun i hi => .inl (by simp at hi; simp [hi])))
            have OS := owns_ext OS xq (fun g hg hm => blk_not_row BD (by decide) OS (by simp at hm; rw [hg, hm]))
            have OK := owns_ext OK xq (fun g hg hm => blk_not_row BD (by decide) OK (by simp at hm; rw [hg, hm]))
            clear xq BD
            have BD := BD1
            clear BD1
            generalize wq.setCell ⟨bd, 72, none⟩ (.slice a8 (es.length + 1) c8) = wq2 at *
            obtain ⟨wq, hwq⟩ : ∃ w, w = wq2 := ⟨_, rfl⟩
            subst hwq
            refine hK.out _ _ trivial (fun hS => ?_)
            clear hK K
            try simp only [Act.put]
            refine wpAnyH_take (i := 18) (oi := ⟨some 47, _, _, _, _, _⟩) (v := ?_) rfl (by kernel_rfl) (by kernel_rfl) (by kernel_rfl) (fun _ _ _ h => h) (Or.inl ⟨by rfl, ?_⟩) (by assumption) ?_
            rotate_left 1
            · (intro w hSw; (try dsimp only at hSw); go_split_ands; (try go_simp); (try with_reducible rfl))
            try simp only [Act.put, List.setIfInBounds_toArray, List.set_cons_zero, List.set_cons_succ]
            refine wpAnyH_take (i := 19) (oi := ⟨some 48, _, _, _, _, _⟩) (v := ?_) rfl (by kernel_rfl) (by kernel_rfl) (by kernel_rfl) (fun _ _ _ h => h) (Or.inl ⟨by rfl, ?_⟩) (by assumption) ?_
            rotate_left 1
            · (intro w hSw; (try dsimp only at hSw); go_split_ands; (try go_simp); (try with_reducible rfl))
            try simp only [Act.put, List.setIfInBounds_toArray, List.set_cons_zero, List.set_cons_succ]
            refine wpAnyH_ready (rs := [20]) (by kernel_rfl) (by simp) ?_
            refine AllReadyH.cons (o := ⟨none, _, _, _, _, _⟩) rfl (fun K hK => ?_) AllReadyH.nil
            have c73 := (cells_two BD hRl).2.1
            have hbl := BD.lt
            have f73 := BD.frozen 73
            go_simp
            clear c73 hbl f73
            have BD1 := BD.set 73 (.slice a14 (es.length + 1) c14)
            rw [set_snd _ _ _ _ hRl] at BD1
            have xq : Ext [bd] wq (wq.setCell ⟨bd, 73, none⟩ (.slice a14 (es.length + 1) c14)) := (Ext.refl _ _).setCell (.inl (by simp)) _
            have T := T.trans (xq.sub (fun i hi => .inl (by simp at hi; simp [hi])))
            have OS := owns_ext OS xq (fun g hg hm => blk_not_row BD (by decide) OS (by simp at hm; rw [hg, hm]))
            have OK := owns_ext OK xq (fun g hg hm => blk_not_row BD (by decide) OK (by simp at hm; rw [hg, hm]))
            clear xq BD
            have BD := BD1
            clear BD1
            generalize wq.setCell ⟨bd, 73, none⟩ (.slice a14 (es.length + 1) c14) = wq2 at *
            obtain ⟨wq, hwq⟩ : ∃ w, w = wq2 := ⟨_, rfl⟩
            subst hwq
            refine hK.out _ _ trivial (fun hS => ?_)
            clear hK K
            try simp only [Act.put]
            refine wpAnyH_done (by kernel_rfl) ?_ _
            have HNK := Lib.hid (fun g (hg : (Value.slice a8 (es.length + 1) c8).ownBlock = some g) => (show g ≠ bd from fun e => blk_not_row BD (by decide) OK (by rw [hg, e])))
            have HNS := Lib.hid (fun g (hg : (Value.slice a14 (es.length + 1) c14).ownBlock = some g) => (show g ≠ bd from fun e => blk_not_row BD (by decide) OS (by rw [hg, e])))
            have HKS := Lib.hid (rows_apart OK OS (by decide))
            rw [← HSN1.out] at OK
            rw [← HSN2.out] at OS
            go_wp2_with fail
            go_ret
            rw [HEL.out.1, HEL.out.2]
            refine ⟨_, _, rfl, ⟨HRT.out ▸ BD, ?_, ?_, HLEN.out, HNK.out, HNS.out, HKS.out⟩, T, F8, F14⟩
            · rw [List.length_append]; exact OK
            · rw [List.length_append]; exact OS
          · skip
            go_simp
            have BM := Blk.new wq 4 #[.bool false]
            have xq : Ext [] wq (wq.alloc (.cells #[.bool false] 4)) := (Ext.refl _ _).alloc _
            have T := T.trans (xq.sub (by simp))
            have BD := BD.ext xq (by simp)
            have OK := owns_ext OK xq (by simp)
            have OS := owns_ext OS xq (by simp)
            have BK := BK.ext xq (by simp)
            try have BN := BN.ext xq (by simp)
            have hws := Nat.le_trans hws xq.size
            clear xq hS
            generalize wq.alloc (.cells #[.bool false] 4) = wq2 at *
            generalize wq.heap.size = bm at *
            obtain ⟨wq, hwq⟩ : ∃ w, w = wq2 := ⟨_, rfl⟩
            subst hwq
            refine hK.out _ _ ⟨(cells_two BD hRl).1, (cells_two BD hRl).2.1, (cells_two BD hRl).2.2, range_of_blk4 BK⟩ (fun hS => ?_)
            clear hK K
            try simp only [Act.put, List.setIfInBounds_toArray, List.set_cons_zero, List.set_cons_succ]
            refine wpAnyM_ready (rs := [8]) (by kernel_rfl) (by simp) ?_
            refine AllReadyM.cons (o := ⟨some 38, _, _, _, _, _⟩) rfl (fun K hK => ?_) AllReadyM.nil
            refine step_app _ rfl (.tmp 35) (.tmp 37) 49 rfl 22 i0 _ 32 32 Tryd.underlying49 hi hz0 hz1 hz2 rfl (by decide) (.slice ka es.length kc) es.length (keysV es) rfl OK (.slice (some ⟨bn, 0, none⟩) 1 1) 1 kv rfl (blk_reads BN 1 (by simpa using hkl)) hkone (by unfold maxLen; omega) (by omega) ?_
            intro v8 w8 hown8 hgrow8 hfr8 _
            have x8 : Ext ((Value.slice ka es.length kc).ownBlock.toList) wq w8 := (Ext.refl _ _).grown hgrow8 (by intro g hg; left; simp [hg])
            have hbd8 : bd ∉ (Value.slice ka es.length kc).ownBlock.toList := fun hm => blk_not_row BD (by decide) OK (by simpa using hm : (Value.slice ka es.length kc).ownBlock = some bd).symm
            have hos8 : ∀ g, (Value.slice sa es.length sc).ownBlock = some g → g ∉ (Value.slice ka es.length kc).ownBlock.toList := fun g hg hm => rows_apart OK OS (by decide) g (by simpa using hm) hg
            have hbk8 : bk ∉ (Value.slice ka es.length kc).ownBlock.toList := fun hm => HKB.out bk (by simpa using hm) rfl
            have BD := BD.ext x8 hbd8
            have OS := owns_ext OS x8 hos8
            have BK := BK.ext x8 hbk8
            try have BM := BM.ext x8 (fun hm => blk_not_row BM (by decide) OK (by simpa using hm : (Value.slice ka es.length kc).ownBlock = some bm).symm)
            have T := T.trans (x8.sub (fun i hi => .inl (by simp only [List.mem_cons, List.mem_append]; exact .inr (.inl hi))))
            have F8 : ∀ g, v8.ownBlock = some g → (Value.slice ka es.length kc).ownBlock = some g ∨ w.heap.size ≤ g := by
              intro g hg
              rcases hfr8 with h | ⟨g', h, hle⟩
              · exact .inl (h ▸ hg)
              · rw [h] at hg; cases hg; exact .inr (Nat.le_trans hws hle)
            have hws := Nat.le_trans hws x8.size
            clear hgrow8 hfr8 x8 hbd8 hos8 hbk8 hS OK BN hkn
            have OK := hown8
            clear hown8
            obtain ⟨wq, hwq⟩ : ∃ w, w = w8 := ⟨_, rfl⟩
            subst hwq
            obtain ⟨a8, c8, rfl⟩ := owns_slice OK
            refine hK.out _ _ ⟨(cells_two BD hRl).1, (cells_two BD hRl).2.1, (cells_two BD hRl).2.2, range_of_blk4 BK⟩ (fun hS => ?_)
            clear hK K
            try simp only [Act.put, List.setIfInBounds_toArray, List.set_cons_zero, List.set_cons_succ]
            refine wpAnyM_ready (rs := [14]) (by kernel_rfl) (by simp) ?_
            refine AllReadyM.cons (o := ⟨some 44, _, _, _, _, _⟩) rfl (fun K hK => ?_) AllReadyM.nil
            refine step_app _ rfl (.tmp 42) (.tmp 43) 50 rfl 4 j0 _ 1 1 Tryd.underlying50 hj hy0 hy1 hy2 rfl (by decide) (.slice sa es.length sc) es.length (spentV es) rfl OS (.slice (some ⟨bm, 0, none⟩) 1 1) 1 [.bool false] rfl (blk_reads BM 1 rfl) (by intro u hu; simp at hu; subst hu; rfl) (by unfold maxLen; omega) (by omega) ?_
            intro v14 w14 hown14 hgrow14 hfr14 _
            have x14 : Ext ((Value.slice sa es.length sc).ownBlock.toList) wq w14 := (Ext.refl _ _).grown hgrow14 (by intro g hg; left; simp [hg])
            have BD := BD.ext x14 (fun hm => blk_not_row BD (by decide) OS (by simpa using hm : (Value.slice sa es.length sc).ownBlock = some bd).symm)
            have OK := owns_ext OK x14 (fun g hg hm => rows_apart OK OS (by decide) g hg (by simpa using hm))
            have BK := BK.ext x14 (fun hm => blk_not_row BK (by decide) OS (by simpa using hm : (Value.slice sa es.length sc).ownBlock = some bk).symm)
            have T := T.trans (x14.sub (fun i hi => .inl (by simp only [List.mem_cons, List.mem_append]; exact .inr (.inr hi))))
            have F14 : ∀ g, v14.ownBlock = some g → (Value.slice sa es.length sc).ownBlock = some g ∨ w.heap.size ≤ g := by
              intro g hg
              rcases hfr14 with h | ⟨g', h, hle⟩
              · exact .inl (h ▸ hg)
              · rw [h] at hg; cases hg; exact .inr (Nat.le_trans hws hle)
            clear hgrow14 hfr14 x14 hS OS BM hws
            have OS := hown14
            clear hown14
            obtain ⟨wq, hwq⟩ : ∃ w, w = w14 := ⟨_, rfl⟩
            subst hwq
            obtain ⟨a14, c14, rfl⟩ := owns_slice OS
            refine hK.out _ _ ⟨(cells_two BD hRl).1, (cells_two BD hRl).2.1, (cells_two BD hRl).2.2, range_of_blk4 BK⟩ (fun hS => ?_)
            clear hK K
            try simp only [Act.put, List.setIfInBounds_toArray, List.set_cons_zero, List.set_cons_succ]
            refine wpAnyM_take0 (i := 15) (oi := ⟨some 45, _, _, _, _, _⟩) (v := ?_) rfl (by kernel_rfl) (by kernel_rfl) (by kernel_rfl) (fun _ _ _ h => h) (Or.inl ⟨by rfl, ?_⟩) (by assumption) (by kernel_rfl) ?_
            rotate_left 1
            · (intro w hSw; (try dsimp only at hSw); go_split_ands; (try go_simp); (try with_reducible rfl))
            try simp only [Act.put, List.setIfInBounds_toArray, List.set_cons_zero, List.set_cons_succ]
            refine wpAnyM_take0 (i := 16) (oi := ⟨some 46, _, _, _, _, _⟩) (v := ?_) rfl (by kernel_rfl) (by kernel_rfl) (by kernel_rfl) (fun _ _ _ h => h) (Or.inl ⟨by rfl, ?_⟩) (by assumption) (by kernel_rfl) ?_
            rotate_left 1
            · (intro w hSw; (try dsimp only at hSw); go_split_ands; (try go_simp); (try with_reducible rfl))
            try simp only [Act.put, List.setIfInBounds_toArray, List.set_cons_zero, List.set_cons_succ]
            refine wpAnyM_ready (rs := [17]) (by kernel_rfl) (by simp) ?_
            refine AllReadyM.mark (o := ⟨none, _, _, _, _, _⟩) rfl (by kernel_rfl) (fun K hK => ?_)
            have c72 := (cells_two BD hRl).1
            have hbl := BD.lt
            have f72 := BD.frozen 72
            go_simp
            clear c72 hbl f72 hS BK
            have BD1 := BD.set 72 (.slice a8 (es.length + 1) c8)
            rw [set_fst _ _ _ _ hRl] at BD1
            have xq : Ext [bd] wq (wq.setCell ⟨bd, 72, none⟩ (.slice a8 (es.length + 1) c8)) := (Ext.refl _ _).setCell (.inl (by simp)) _
            have T := T.trans (xq.sub (fun i hi => .inl (by simp at hi; simp [hi])))
            have OS := owns_ext OS xq (fun g hg hm => blk_not_row BD (by decide) OS (by simp at hm; rw [hg, hm]))
            have OK := owns_ext OK xq (fun g hg hm => blk_not_row BD (by decide) OK (by simp at hm; rw [hg, hm]))
            clear xq BD
            have BD := BD1
            clear BD1
            generalize wq.setCell ⟨bd, 72, none⟩ (.slice a8 (es.length + 1) c8) = wq2 at *
            obtain ⟨wq, hwq⟩ : ∃ w, w = wq2 := ⟨_, rfl⟩
            subst hwq
            refine hK.out _ _ trivial (fun hS => ?_)
            clear hK K
            try simp only [Act.put]
            refine wpAnyH_take (i := 18) (oi := ⟨some 47, _, _, _, _, _⟩) (v := ?_) rfl (by kernel_rfl) (by kernel_rfl) (by kernel_rfl) (fun _ _ _ h => h) (Or.inl ⟨by rfl, ?_⟩) (by assumption) ?_
            rotate_left 1
            · (intro w hSw; (try dsimp only at hSw); go_split_ands; (try go_simp); (try with_reducible rfl))
            try simp only [Act.put, List.setIfInBounds_toArray, List.set_cons_zero, List.set_cons_succ]
            refine wpAnyH_take (i := 19) (oi := ⟨some 48, _, _, _, _, _⟩) (v := ?_) rfl (by kernel_rfl) (by kernel_rfl) (by kernel_rfl) (fun _ _ _ h => h) (Or.inl ⟨by rfl, ?_⟩) (by assumption) ?_
            rotate_left 1
            · (intro w hSw; (try dsimp only at hSw); go_split_ands; (try go_simp); (try with_reducible rfl))
            try simp only [Act.put, List.setIfInBounds_toArray, List.set_cons_zero, List.set_cons_succ]
            refine wpAnyH_ready (rs := [20]) (by kernel_rfl) (by simp) ?_
            refine AllReadyH.cons (o := ⟨none, _, _, _, _, _⟩) rfl (fun K hK => ?_) AllReadyH.nil
            have c73 := (cells_two BD hRl).2.1
            have hbl := BD.lt
            have f73 := BD.frozen 73
            go_simp
            clear c73 hbl f73
            have BD1 := BD.set 73 (.slice a14 (es.length + 1) c14)
            rw [set_snd _ _ _ _ hRl] at BD1
            have xq : Ext [bd] wq (wq.setCell ⟨bd, 73, none⟩ (.slice a14 (es.length + 1) c14)) := (Ext.refl _ _).setCell (.inl (by simp)) _
            have T := T.trans (xq.sub (fun i hi => .inl (by simp at hi; simp [hi])))
            have OS := owns_ext OS xq (fun g hg hm => blk_not_row BD (by decide) OS (by simp at hm; rw [hg, hm]))
            have OK := owns_ext OK xq (fun g hg hm => blk_not_row BD (by decide) OK (by simp at hm; rw [hg, hm]))
            clear xq BD
            have BD := BD1
            clear BD1
            generalize wq.setCell ⟨bd, 73, none⟩ (.slice a14 (es.length + 1) c14) = wq2 at *
            obtain ⟨wq, hwq⟩ : ∃ w, w = wq2 := ⟨_, rfl⟩
            subst hwq
            refine hK.out _ _ trivial (fun hS => ?_)
            clear hK K
            try simp only [Act.put]
            refine wpAnyH_done (by kernel_rfl) ?_ _
            have HNK := Lib.hid (fun g (hg : (Value.slice a8 (es.length + 1) c8).ownBlock = some g) => (show g ≠ bd from fun e => blk_not_row BD (by decide) OK (by rw [hg, e])))
            have HNS := Lib.hid (fun g (hg : (Value.slice a14 (es.length + 1) c14).ownBlock = some g) => (show g ≠ bd from fun e => blk_not_row BD (by decide) OS (by rw [hg, e])))
            have HKS := Lib.hid (rows_apart OK OS (by decide))
            rw [← HSN1.out] at OK
            rw [← HSN2.out] at OS
            go_wp2_with fail
            go_ret
            rw [HEL.out.1, HEL.out.2]
            refine ⟨_, _, rfl, ⟨HRT.out ▸ BD, ?_, ?_, HLEN.out, HNK.out, HNS.out, HKS.out⟩, T, F8, F14⟩
            · rw [List.length_append]; exact OK
            · rw [List.length_append]; exact OS
        · skip
          go_simp
          have BM := Blk.new wq 4 #[.bool false]
          have xq : Ext [] wq (wq.alloc (.cells #[.bool false] 4)) := (Ext.refl _ _).alloc _
          have T := T.trans (xq.sub (by simp))
          have BD := BD.ext xq (by simp)
          have OK := owns_ext OK xq (by simp)
          have OS := owns_ext OS xq (by simp)
          have BK := BK.ext xq (by simp)
          try have BN := BN.ext xq (by simp)
          have hws := Nat.le_trans hws xq.size
          clear xq hS
          generalize wq.alloc (.cells #[.bool false] 4) = wq2 at *
          generalize wq.heap.size = bm at *
          obtain ⟨wq, hwq⟩ : ∃ w, w = wq2 := ⟨_, rfl⟩
          subst hwq
          refine hK.out _ _ ⟨(cells_two BD hRl).1, (cells_two BD hRl).2.1, (cells_two BD hRl).2.2, range_of_blk4 BK⟩ (fun hS => ?_)
          clear hK K
          try simp only [Act.put, List.setIfInBounds_toArray, List.set_cons_zero, List.set_cons_succ]
          refine wpAnyM_ready (rs := [7]) (by kernel_rfl) (by simp) ?_
          refine AllReadyM.cons (o := ⟨some 37, _, _, _, _, _⟩) rfl (fun K hK => ?_) AllReadyM.nil
          have hfl := HFLK.out
          go_simp
          clear hfl
          have BN := Blk.new wq 22 kv.toArray
          have xq : Ext [] wq (wq.alloc (.cells kv.toArray 22)) := (Ext.refl _ _).alloc _
          have hbn : wq.heap.size ≠ bk := Nat.ne_of_gt BK.lt
          have T := T.trans (xq.sub (by simp))
          have BD := BD.ext xq (by simp)
          have OK := owns_ext OK xq (by simp)
          have OS := owns_ext OS xq (by simp)
          have BK := BK.ext xq (by simp)
          try have BM := BM.ext xq (by simp)
          have hkn : ∀ g, (Value.slice ka es.length kc).ownBlock = some g → wq.heap.size ≠ g := fun g hg => by
            rintro rfl
            exact absurd (owns_lt ‹wq.ownsRow 0 22 32 (.slice ka es.length kc) es.length (keysV es)› hg) (Nat.lt_irrefl _)
          have hws := Nat.le_trans hws xq.size
          clear xq hS
          generalize wq.alloc (.cells kv.toArray 22) = wq2 at *
          generalize wq.heap.size = bn at *
          obtain ⟨wq, hwq⟩ : ∃ w, w = wq2 := ⟨_, rfl⟩
          subst hwq
          refine hK.out _ _ ⟨(cells_two BD hRl).1, (cells_two BD hRl).2.1, (cells_two BD hRl).2.2, range_of_blk4 BK⟩ (fun hS => ?_)
          clear hK K
          try simp only [Act.put, List.setIfInBounds_toArray, List.set_cons_zero, List.set_cons_succ]
          refine wpAnyM_ready (rs := [8]) (by kernel_rfl) (by simp) ?_
          refine AllReadyM.cons (o := ⟨some 38, _, _, _, _, _⟩) rfl (fun K hK => ?_) AllReadyM.nil
          refine step_app _ rfl (.tmp 35) (.tmp 37) 49 rfl 22 i0 _ 32 32 Tryd.underlying49 hi hz0 hz1 hz2 rfl (by decide) (.slice ka es.length kc) es.length (keysV es) rfl OK (.slice (some ⟨bn, 0, none⟩) 1 1) 1 kv rfl (blk_reads BN 1 (by simpa using hkl)) hkone (by unfold maxLen; omega) (by omega) ?_
          intro v8 w8 hown8 hgrow8 hfr8 _
          have x8 : Ext ((Value.slice ka es.length kc).ownBlock.toList) wq w8 := (Ext.refl _ _).grown hgrow8 (by intro g hg; left; simp [hg])
          have hbd8 : bd ∉ (Value.slice ka es.length kc).ownBlock.toList := fun hm => blk_not_row BD (by decide) OK (by simpa using hm : (Value.slice ka es.length kc).ownBlock = some bd).symm
          have hos8 : ∀ g, (Value.slice sa es.length sc).ownBlock = some g → g ∉ (Value.slice ka es.length kc).ownBlock.toList := fun g hg hm => rows_apart OK OS (by decide) g (by simpa using hm) hg
          have hbk8 : bk ∉ (Value.slice ka es.length kc).ownBlock.toList := fun hm => HKB.out bk (by simpa using hm) rfl
          have BD := BD.ext x8 hbd8
          have OS := owns_ext OS x8 hos8
          have BK := BK.ext x8 hbk8
          try have BM := BM.ext x8 (fun hm => blk_not_row BM (by decide) OK (by simpa using hm : (Value.slice ka es.length kc).ownBlock = some bm).symm)
          have T := T.trans (x8.sub (fun i hi => .inl (by simp only [List.mem_cons, List.mem_append]; exact .inr (.inl hi))))
          have F8 : ∀ g, v8.ownBlock = some g → (Value.slice ka es.length kc).ownBlock = some g ∨ w.heap.size ≤ g := by
            intro g hg
            rcases hfr8 with h | ⟨g', h, hle⟩
            · exact .inl (h ▸ hg)
            · rw [h] at hg; cases hg; exact .inr (Nat.le_trans hws hle)
          have hws := Nat.le_trans hws x8.size
          clear hgrow8 hfr8 x8 hbd8 hos8 hbk8 hS OK BN hkn
          have OK := hown8
          clear hown8
          obtain ⟨wq, hwq⟩ : ∃ w, w = w8 := ⟨_, rfl⟩
          subst hwq
          obtain ⟨a8, c8, rfl⟩ := owns_slice OK
          refine hK.out _ _ ⟨(cells_two BD hRl).1, (cells_two BD hRl).2.1, (cells_two BD hRl).2.2, range_of_blk4 BK⟩ (fun hS => ?_)
          clear hK K
          try simp only [Act.put, List.setIfInBounds_toArray, List.set_cons_zero, List.set_cons_succ]
          refine wpAnyM_ready (rs := [14]) (by kernel_rfl) (by simp) ?_
          refine AllReadyM.cons (o := ⟨some 44, _, _, _, _, _⟩) rfl (fun K hK => ?_) AllReadyM.nil
          refine step_app _ rfl (.tmp 42) (.tmp 43) 50 rfl 4 j0 _ 1 1 Tryd.underlying50 hj hy0 hy1 hy2 rfl (by decide) (.slice sa es.length sc) es.length (spentV es) rfl OS (.slice (some ⟨bm, 0, none⟩) 1 1) 1 [.bool false] rfl (blk_reads BM 1 rfl) (by intro u hu; simp at hu; subst hu; rfl) (by unfold maxLen; omega) (by omega) ?_
          intro v14 w14 hown14 hgrow14 hfr14 _
          have x14 : Ext ((Value.slice sa es.length sc).ownBlock.toList) wq w14 := (Ext.refl _ _).grown hgrow14 (by intro g hg; left; simp [hg])
          have BD := BD.ext x14 (fun hm => blk_not_row BD (by decide) OS (by simpa using hm : (Value.slice sa es.length sc).ownBlock = some bd).symm)
          have OK := owns_ext OK x14 (fun g hg hm => rows_apart OK OS (by decide) g hg (by simpa using hm))
          have BK := BK.ext x14 (fun hm => blk_not_row BK (by decide) OS (by simpa using hm : (Value.slice sa es.length sc).ownBlock = some bk).symm)
          have T := T.trans (x14.sub (fun i hi => .inl (by simp only [List.mem_cons, List.mem_append]; exact .inr (.inr hi))))
          have F14 : ∀ g, v14.ownBlock = some g → (Value.slice sa es.length sc).ownBlock = some g ∨ w.heap.size ≤ g := by
            intro g hg
            rcases hfr14 with h | ⟨g', h, hle⟩
            · exact .inl (h ▸ hg)
            · rw [h] at hg; cases hg; exact .inr (Nat.le_trans hws hle)
          clear hgrow14 hfr14 x14 hS OS BM hws
          have OS := hown14
          clear hown14
          obtain ⟨wq, hwq⟩ : ∃ w, w = w14 := ⟨_, rfl⟩
          subst hwq
          obtain ⟨a14, c14, rfl⟩ := owns_slice OS
          refine hK.out _ _ ⟨(cells_two BD hRl).1, (cells_two BD hRl).2.1, (cells_two BD hRl).2.2, range_of_blk4 BK⟩ (fun hS => ?_)
          clear hK K
          try simp only [Act.put, List.setIfInBounds_toArray, List.set_cons_zero, List.set_cons_succ]
          refine wpAnyM_take0 (i := 15) (oi := ⟨some 45, _, _, _, _, _⟩) (v := ?_) rfl (by kernel_rfl) (by kernel_rfl) (by kernel_rfl) (fun _ _ _ h => h) (Or.inl ⟨by rfl, ?_⟩) (by assumption) (by kernel_rfl) ?_
          rotate_left 1
          · (intro w hSw; (try dsimp only at hSw); go_split_ands; (try go_simp); (try with_reducible rfl))
          try simp only [Act.put, List.setIfInBounds_toArray, List.set_cons_zero, List.set_cons_succ]
          refine wpAnyM_take0 (i := 16) (oi := ⟨some 46, _, _, _, _, _⟩) (v := ?_) rfl (by kernel_rfl) (by kernel_rfl) (by kernel_rfl) (fun _ _ _ h => h) (Or.inl ⟨by rfl, ?_⟩) (by assumption) (by kernel_rfl) ?_
          rotate_left 1
          · (intro w hSw; (try dsimp only at hSw); go_split_ands; (try go_simp); (try with_reducible rfl))
          try simp only [Act.put, List.setIfInBounds_toArray, List.set_cons_zero, List.set_cons_succ]
          refine wpAnyM_ready (rs := [17]) (by kernel_rfl) (by simp) ?_
          refine AllReadyM.mark (o := ⟨none, _, _, _, _, _⟩) rfl (by kernel_rfl) (fun K hK => ?_)
          have c72 := (cells_two BD hRl).1
          have hbl := BD.lt
          have f72 := BD.frozen 72
          go_simp
          clear c72 hbl f72 hS BK
          have BD1 := BD.set 72 (.slice a8 (es.length + 1) c8)
          rw [set_fst _ _ _ _ hRl] at BD1
          have xq : Ext [bd] wq (wq.setCell ⟨bd, 72, none⟩ (.slice a8 (es.length + 1) c8)) := (Ext.refl _ _).setCell (.inl (by simp)) _
          have T := T.trans (xq.sub (fun i hi => .inl (by simp at hi; simp [hi])))
          have OS := owns_ext OS xq (fun g hg hm => blk_not_row BD (by decide) OS (by simp at hm; rw [hg, hm]))
          have OK := owns_ext OK xq (fun g hg hm => blk_not_row BD (by decide) OK (by simp at hm; rw [hg, hm]))
          clear xq BD
          have BD := BD1
          clear BD1
          generalize wq.setCell ⟨bd, 72, none⟩ (.slice a8 (es.length + 1) c8) = wq2 at *
          obtain ⟨wq, hwq⟩ : ∃ w, w = wq2 := ⟨_, rfl⟩
          subst hwq
          refine hK.out _ _ trivial (fun hS => ?_)
          clear hK K
          try simp only [Act.put]
          refine wpAnyH_take (i := 18) (oi := ⟨some 47, _, _, _, _, _⟩) (v := ?_) rfl (by kernel_rfl) (by kernel_rfl) (by kernel_rfl) (fun _ _ _ h => h) (Or.inl ⟨by rfl, ?_⟩) (by assumption) ?_
          rotate_left 1
          · (intro w hSw; (try dsimp only at hSw); go_split_ands; (try go_simp); (try with_reducible rfl))
          try simp only [Act.put, List.setIfInBounds_toArray, List.set_cons_zero, List.set_cons_succ]
          refine wpAnyH_take (i := 19) (oi := ⟨some 48, _, _, _, _, _⟩) (v := ?_) rfl (by kernel_rfl) (by kernel_rfl) (by kernel_rfl) (fun _ _ _ h => h) (Or.inl ⟨by rfl, ?_⟩) (by assumption) ?_
          rotate_left 1
          · (intro w hSw; (try dsimp only at hSw); go_split_ands; (try go_simp); (try with_reducible rfl))
          try simp only [Act.put, List.setIfInBounds_toArray, List.set_cons_zero, List.set_cons_succ]
          refine wpAnyH_ready (rs := [20]) (by kernel_rfl) (by simp) ?_
          refine AllReadyH.cons (o := ⟨none, _, _, _, _, _⟩) rfl (fun K hK => ?_) AllReadyH.nil
          have c73 := (cells_two BD hRl).2.1
          have hbl := BD.lt
          have f73 := BD.frozen 73
          go_simp
          clear c73 hbl f73
          have BD1 := BD.set 73 (.slice a14 (es.length + 1) c14)
          rw [set_snd _ _ _ _ hRl] at BD1
          have xq : Ext [bd] wq (wq.setCell ⟨bd, 73, none⟩ (.slice a14 (es.length + 1) c14)) := (Ext.refl _ _).setCell (.inl (by simp)) _
          have T := T.trans (xq.sub (fun i hi => .inl (by simp at hi; simp [hi])))
          have OS := owns_ext OS xq (fun g hg hm => blk_not_row BD (by decide) OS (by simp at hm; rw [hg, hm]))
          have OK := owns_ext OK xq (fun g hg hm => blk_not_row BD (by decide) OK (by simp at hm; rw [hg, hm]))
          clear xq BD
          have BD := BD1
          clear BD1
          generalize wq.setCell ⟨bd, 73, none⟩ (.slice a14 (es.length + 1) c14) = wq2 at *
          obtain ⟨wq, hwq⟩ : ∃ w, w = wq2 := ⟨_, rfl⟩
          subst hwq
          refine hK.out _ _ trivial (fun hS => ?_)
          clear hK K
          try simp only [Act.put]
          refine wpAnyH_done (by kernel_rfl) ?_ _
          have HNK := Lib.hid (fun g (hg : (Value.slice a8 (es.length + 1) c8).ownBlock = some g) => (show g ≠ bd from fun e => blk_not_row BD (by decide) OK (by rw [hg, e])))
          have HNS := Lib.hid (fun g (hg : (Value.slice a14 (es.length + 1) c14).ownBlock = some g) => (show g ≠ bd from fun e => blk_not_row BD (by decide) OS (by rw [hg, e])))
          have HKS := Lib.hid (rows_apart OK OS (by decide))
          rw [← HSN1.out] at OK
          rw [← HSN2.out] at OS
          go_wp2_with fail
          go_ret
          rw [HEL.out.1, HEL.out.2]
          refine ⟨_, _, rfl, ⟨HRT.out ▸ BD, ?_, ?_, HLEN.out, HNK.out, HNS.out, HKS.out⟩, T, F8, F14⟩
          · rw [List.length_append]; exact OK
          · rw [List.length_append]; exact OS
end Go.Proofs.YtgcbgeombbohpaaDoor
