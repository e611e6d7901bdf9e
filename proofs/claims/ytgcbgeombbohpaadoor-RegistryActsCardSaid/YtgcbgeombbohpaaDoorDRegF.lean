/- The reference of layer 3: DocFind. -/
import Derived.Test.YtgcbgeombbohpaaDoorDRegS
import Derived.Test.YtgcbgeombbohpaaDoorLamF
import Derived.Test.YtgcbgeombbohpaaDoorRegE
namespace Go.Proofs.YtgcbgeombbohpaaDoor
open Go.RowKit
set_option maxRecDepth 100000

theorem doc_find_no (bd : Nat) (es : List RE) (sum s : List UInt8) (a : Option Addr) (n c : Nat) (w : World) (hn : n = s.length) (hs : s.length ≠ 2048) :
    Calls Tryd.prog 19 #[.pointer (some ⟨bd, 0, none⟩), .agg (bytesV sum).toArray, .slice a n c] w fun e' w' => e' = .returned (fsV es sum s) ∧ Ext [] w w' := by
  have HE := Lib.hid (show fsV es sum s = .tuple #[.int .i64 0, .int .i64 22] from if_neg hs)
  have h1 : ((n : Int) != 2048) = true := by rw [bne_iff_ne]; omega
  generalize fsV es sum s = R at *
  generalize (bytesV sum).toArray = kv
  clear hn hs
  go_enter Tryd.func19, Tryd.ntmps19
  go_wp2_with fail
  go_ret2
  exact ⟨by rw [HE.out]; rfl, (Ext.refl _ _).alloc _⟩

set_option maxHeartbeats 16000000 in
theorem doc_find (bd : Nat) (vk vs : Value) (es : List RE) (sum s : List UInt8) (sv : Value) (w : World) (D : DocR w bd vk vs es) (hn : es.length ≤ 1000) (hsl : sum.length = 32) (hs : s.length = 2048) (ho : w.ownsRow 0 5 1 sv 2048 (bytesV s)) :
    Calls Tryd.prog 19 #[.pointer (some ⟨bd, 0, none⟩), .agg (bytesV sum).toArray, sv] w fun e' w' => e' = .returned (fsV es sum s) ∧ Ext [] w w' := by
  have HE := Lib.hid (show fsV es sum s = if fsN es sum s < es.length then .tuple #[.int .i64 (fsN es sum s : Int), .int .i64 0] else .tuple #[.int .i64 0, .int .i64 129] from if_pos hs)
  have HN1 := Lib.hid (fun k (hk : k < es.length) h1 h2 => fsN_at es sum s k hk h1 h2)
  have HN2 := Lib.hid (fsN_none es sum s)
  have HC := Lib.hid (fun w' (x : Ext [] w w') => (D.ext0 x).cells)
  have HRT := Lib.hid (fun w' (x : Ext [] w w') => (show PartAt w' bd 0 (V32 (Ks ++ begin0.list)) from part_left (D.ext0 x).h.part))
  have hRl : (V32 (Ks ++ begin0.list)).length = 72 := by decide +kernel
  obtain ⟨ka, kc, rfl⟩ := owns_slice D.k
  obtain ⟨sa, sc, rfl⟩ := owns_slice D.s
  obtain ⟨g0, c0, cur0, rfl, hb0, hc0, hm0, hl0, -⟩ := owns_some ho (by omega)
  have HV := Lib.hid (fun key w' (x : Ext [] w w') (hk : key.length = 32) => r2fits key sum s g0 0 c0 w' hk hsl hs (by omega) (by unfold maxLen at hm0; omega) (Nat.lt_of_lt_of_le hb0.lt x.size) (fun j hj => by
    rw [Nat.zero_add, (owns_ext ho x (by simp)).cellAt j (by omega)]
    simp [bytesV, List.getD, hs, hj]))
  have HP := Lib.hid (fun w' (x : Ext [] w w') k (hk : k < es.length) => (show ∃ g, ka = some ⟨g, 0, none⟩ ∧ PartAt w' g (k * 32) (bytesV es[k].1) ∧ es[k].1.length = 32 from by
    obtain ⟨g, c', cur, he, -, -, -, -, -⟩ := owns_some D.k (by omega)
    cases he
    exact ⟨g, rfl, (D.ext0 x).key k hk, D.len _ (List.getElem_mem hk)⟩))
  have HS := Lib.hid (fun w' (x : Ext [] w w') k (hk : k < es.length) => (show ∃ g, sa = some ⟨g, 0, none⟩ ∧ w'.cell? ⟨g, k, none⟩ = some (.bool es[k].2) from by
    obtain ⟨g, c', cur, he, -, -, -, -, -⟩ := owns_some D.s (by omega)
    cases he
    exact ⟨g, rfl, (D.ext0 x).spent k hk⟩))
  have hsv : (bytesV sum).length = 32 := by rw [bytesV_length, hsl]
  obtain ⟨mv, hmv⟩ : ∃ mv, mv = bytesV sum := ⟨_, rfl⟩
  rw [← hmv] at HV hsv ⊢
  generalize fsV es sum s = R at *
  generalize V32 (Ks ++ begin0.list) = rt at *
  clear hmv D ho hs hsl hb0 hc0 hm0 hl0
  have hu := Tryd.underlying22
  have hur := Tryd.underlying47
  have hszr : (Tryd.prog.info? 47).map (·.size) = some rt.length := by rw [hRl]; kernel_rfl
  have hszm : (Tryd.prog.info? 22).map (·.size) = some mv.length := by rw [hsv]; kernel_rfl
  go_enter Tryd.func19, Tryd.ntmps19
  go_upto_region 1 with (fail)
  show Code.wp _ _ _ _ (w.alloc (.cells mv.toArray 22))
  have BM : Blk (w.alloc (.cells mv.toArray 22)) w.heap.size 22 mv := Blk.new w _ mv.toArray
  have x1 : Ext [] w (w.alloc (.cells mv.toArray 22)) := (Ext.refl _ _).alloc _
  generalize w.alloc (.cells mv.toArray 22) = w1 at *
  generalize w.heap.size = bm at *
  go_wp2_with fail
  go_loopw [8] (fun i wr => ∃ k : Nat, k ≤ es.length ∧ i = .int .i64 (k : Int) ∧ (∀ j, j < k → (es[j]?.map (fsP sum s)) ≠ some true) ∧ Ext [] w1 wr) (fun i _ => es.length - (intOf i).toNat)
  case atStart => exact ⟨0, Nat.zero_le _, rfl, fun j hj => by omega, Ext.refl _ _⟩
  case round =>
    obtain ⟨k, hk, rfl, hno, x⟩ := hrel
    have HNO := Lib.hid hno
    clear hno
    obtain ⟨c72, c73, hbl⟩ := HC.out wr (x1.trans x)
    by_cases hlt : k < es.length
    · have hlt' : (k : Int) < (es.length : Int) := by omega
      obtain ⟨g, rfl, -, hel⟩ := HP.out wr (x1.trans x) k hlt
      obtain ⟨g2, rfl, -⟩ := HS.out wr (x1.trans x) k hlt
      have HPK := Lib.hid (fun w' (x' : Ext [] w1 w') => (show PartAt w' g (k * 32) (bytesV es[k].1) from by
        obtain ⟨g', e, h, -⟩ := HP.out w' (x1.trans x') k hlt
        cases e; exact h))
      have HSK := Lib.hid (fun w' (x' : Ext [] w1 w') => (show w'.cell? ⟨g2, k, none⟩ = some (.bool es[k].2) from by
        obtain ⟨g', e, h⟩ := HS.out w' (x1.trans x') k hlt
        cases e; exact h))
      have HBM := Lib.hid (fun w' (x' : Ext [] w1 w') => (BM.ext x' (by simp)).part)
      have HC1 := Lib.hid (fun w' (x' : Ext [] w1 w') => HC.out w' (x1.trans x'))
      have HR1 := Lib.hid (fun w' (x' : Ext [] w1 w') => HRT.out w' (x1.trans x'))
      have HV1 := Lib.hid (fun w' (x' : Ext [] w1 w') => HV.out es[k].1 w' (x1.trans x') hel)
      have HAT := Lib.hid (show es[k]? = some es[k] from List.getElem?_eq_getElem hlt)
      have HN := Lib.hid (HN1.out k hlt HNO.out)
      generalize es[k] = ek at *
      have HFP := Lib.hid (show fsP sum s ek = (!ek.2 && decide (sumOf (fitL sum s 32) = ek.1)) from by
        unfold fsP verR
        congr 1
        split <;> simp_all)
      generalize decide (sumOf (fitL sum s 32) = ek.1) = BB at *
      have hkl : (bytesV ek.1).length = 32 := by rw [bytesV_length, hel]
      generalize bytesV ek.1 = kv at *
      have hszk : (Tryd.prog.info? 22).map (·.size) = some kv.length := by rw [hkl]; kernel_rfl
      go_wp2_with fail
      clear c72 c73 hbl
      by_cases hsp : ek.2 = true
      · have HNO2 := Lib.hid (show ∀ j, j < k + 1 → (es[j]?.map (fsP sum s)) ≠ some true from fun j hj => by
          by_cases h : j < k
          · exact HNO.out j h
          · obtain rfl : j = k := by omega
            rw [HAT.out, Option.map_some, HFP.out, hsp]; simp)
        rw [hsp] at HSK
        clear HFP HN HV1 hsp
        refine wp_region_held_drew (S := fun w' => Ext [] w1 w') (by kernel_rfl) x.drew (fun hS => ?_)
        refine wpAnyH_take (i := 0) (oi := ⟨some 21, _, _, _, _, _⟩) (v := ?_) rfl (by kernel_rfl) (by kernel_rfl) (by kernel_rfl) (fun _ _ _ h => h) (Or.inl ⟨by rfl, ?_⟩) (by assumption) ?_
        rotate_left 1
        · (intro w hSw; (try dsimp only at hSw); go_split_ands; (try go_simp); (try with_reducible rfl))
        try simp only [Act.put, List.setIfInBounds_toArray, List.set_cons_zero, List.set_cons_succ]
        refine wpAnyH_take (i := 1) (oi := ⟨some 22, _, _, _, _, _⟩) (v := ?_) rfl (by kernel_rfl) (by kernel_rfl) (by kernel_rfl) (fun _ _ _ h => h) (Or.inl ⟨by rfl, ?_⟩) (by assumption) ?_
        rotate_left 1
        · (intro w hSw; (try dsimp only at hSw); go_split_ands; (try go_simp); (try with_reducible rfl))
        try simp only [Act.put, List.setIfInBounds_toArray, List.set_cons_zero, List.set_cons_succ]
        refine wpAnyH_take (i := 2) (oi := ⟨some 23, _, _, _, _, _⟩) (v := ?_) rfl (by kernel_rfl) (by kernel_rfl) (by kernel_rfl) (fun _ _ _ h => h) (Or.inl ⟨by rfl, ?_⟩) (by assumption) ?_
        rotate_left 1
        · (intro w hSw; (try dsimp only at hSw); go_split_ands; (try go_simp); (try with_reducible rfl))
        try simp only [Act.put, List.setIfInBounds_toArray, List.set_cons_zero, List.set_cons_succ]
        refine wpAnyH_take (i := 3) (oi := ⟨some 24, _, _, _, _, _⟩) (v := ?_) rfl (by kernel_rfl) (by kernel_rfl) (by kernel_rfl) (fun _ _ _ h => h) (Or.inl ⟨by rfl, ?_⟩) (by assumption) ?_
        rotate_left 1
        · (intro w hSw; (try dsimp only at hSw); go_split_ands; obtain ⟨c72, c73, hbl⟩ := HC1.out w (by assumption); (try go_simp); (try with_reducible rfl))
        try simp only [Act.put, List.setIfInBounds_toArray, List.set_cons_zero, List.set_cons_succ]
        refine wpAnyH_take (i := 4) (oi := ⟨some 25, _, _, _, _, _⟩) (v := ?_) rfl (by kernel_rfl) (by kernel_rfl) (by kernel_rfl) (fun _ _ _ h => h) (Or.inl ⟨by rfl, ?_⟩) (by assumption) ?_
        rotate_left 1
        · (intro w hSw; (try dsimp only at hSw); go_split_ands; (try go_simp); (try with_reducible rfl))
        try simp only [Act.put, List.setIfInBounds_toArray, List.set_cons_zero, List.set_cons_succ]
        refine wpAnyH_take (i := 5) (oi := ⟨some 26, _, _, _, _, _⟩) (v := ?_) rfl (by kernel_rfl) (by kernel_rfl) (by kernel_rfl) (fun _ _ _ h => h) (Or.inl ⟨by rfl, ?_⟩) (by assumption) ?_
        rotate_left 1
        · (intro w hSw; (try dsimp only at hSw); go_split_ands; (try go_simp); (try with_reducible rfl))
        try simp only [Act.put, List.setIfInBounds_toArray, List.set_cons_zero, List.set_cons_succ]
        refine wpAnyH_take (i := 6) (oi := ⟨some 27, _, _, _, _, _⟩) (v := ?_) rfl (by kernel_rfl) (by kernel_rfl) (by kernel_rfl) (fun _ _ _ h => h) (Or.inl ⟨by rfl, ?_⟩) (by assumption) ?_
        rotate_left 1
        · (intro w hSw; (try dsimp only at hSw); go_split_ands; have hsc := HSK.out w (by assumption); (try go_simp); (try with_reducible rfl))
        try simp only [Act.put, List.setIfInBounds_toArray, List.set_cons_zero, List.set_cons_succ]
        refine wpAnyH_take (i := 7) (oi := ⟨some 28, _, _, _, _, _⟩) (v := ?_) rfl (by kernel_rfl) (by kernel_rfl) (by kernel_rfl) (fun _ _ _ h => h) (Or.inl ⟨by rfl, ?_⟩) (by assumption) ?_
        rotate_left 1
        · (intro w hSw; (try dsimp only at hSw); go_split_ands; (try go_simp); (try with_reducible rfl))
        try simp only [Act.put, List.setIfInBounds_toArray, List.set_cons_zero, List.set_cons_succ]
        refine wpAnyH_take (i := 8) (oi := ⟨some 29, _, _, _, _, _⟩) (v := ?_) rfl (by kernel_rfl) (by kernel_rfl) (by kernel_rfl) (fun _ _ _ h => h) (Or.inl ⟨by rfl, ?_⟩) (by assumption) ?_
        rotate_left 1
        · (intro w hSw; (try dsimp only at hSw); go_split_ands; (try go_simp); (try with_reducible rfl))
        try simp only [Act.put, List.setIfInBounds_toArray, List.set_cons_zero, List.set_cons_succ]
        refine wpAnyH_take (i := 9) (oi := ⟨some 30, _, _, _, _, _⟩) (v := _) rfl (by kernel_rfl) (by kernel_rfl) (by kernel_rfl) (fun _ _ _ h => h) (Or.inr ⟨by rfl, rfl⟩) (by assumption) ?_
        try simp only [Act.put, List.setIfInBounds_toArray, List.set_cons_zero, List.set_cons_succ]
        refine wpAnyH_take (i := 10) (oi := ⟨some 31, _, _, _, _, _⟩) (v := _) rfl (by kernel_rfl) (by kernel_rfl) (by kernel_rfl) (fun _ _ _ h => h) (Or.inr ⟨by rfl, rfl⟩) (by assumption) ?_
        try simp only [Act.put, List.setIfInBounds_toArray, List.set_cons_zero, List.set_cons_succ]
        refine wpAnyH_take (i := 11) (oi := ⟨some 32, _, _, _, _, _⟩) (v := _) rfl (by kernel_rfl) (by kernel_rfl) (by kernel_rfl) (fun _ _ _ h => h) (Or.inr ⟨by rfl, rfl⟩) (by assumption) ?_
        try simp only [Act.put, List.setIfInBounds_toArray, List.set_cons_zero, List.set_cons_succ]
        refine wpAnyH_take (i := 12) (oi := ⟨some 33, _, _, _, _, _⟩) (v := _) rfl (by kernel_rfl) (by kernel_rfl) (by kernel_rfl) (fun _ _ _ h => h) (Or.inr ⟨by rfl, rfl⟩) (by assumption) ?_
        try simp only [Act.put, List.setIfInBounds_toArray, List.set_cons_zero, List.set_cons_succ]
        refine wpAnyH_take (i := 13) (oi := ⟨some 34, _, _, _, _, _⟩) (v := _) rfl (by kernel_rfl) (by kernel_rfl) (by kernel_rfl) (fun _ _ _ h => h) (Or.inr ⟨by rfl, rfl⟩) (by assumption) ?_
        try simp only [Act.put, List.setIfInBounds_toArray, List.set_cons_zero, List.set_cons_succ]
        refine wpAnyH_take (i := 14) (oi := ⟨some 35, _, _, _, _, _⟩) (v := _) rfl (by kernel_rfl) (by kernel_rfl) (by kernel_rfl) (fun _ _ _ h => h) (Or.inr ⟨by rfl, rfl⟩) (by assumption) ?_
        try simp only [Act.put, List.setIfInBounds_toArray, List.set_cons_zero, List.set_cons_succ]
        refine wpAnyH_take (i := 15) (oi := ⟨some 36, _, _, _, _, _⟩) (v := _) rfl (by kernel_rfl) (by kernel_rfl) (by kernel_rfl) (fun _ _ _ h => h) (Or.inr ⟨by rfl, rfl⟩) (by assumption) ?_
        try simp only [Act.put, List.setIfInBounds_toArray, List.set_cons_zero, List.set_cons_succ]
        refine wpAnyH_take (i := 16) (oi := ⟨some 37, _, _, _, _, _⟩) (v := _) rfl (by kernel_rfl) (by kernel_rfl) (by kernel_rfl) (fun _ _ _ h => h) (Or.inr ⟨by rfl, rfl⟩) (by assumption) ?_
        try simp only [Act.put, List.setIfInBounds_toArray, List.set_cons_zero, List.set_cons_succ]
        refine wpAnyH_take (i := 17) (oi := ⟨some 38, _, _, _, _, _⟩) (v := _) rfl (by kernel_rfl) (by kernel_rfl) (by kernel_rfl) (fun _ _ _ h => h) (Or.inr ⟨by rfl, rfl⟩) (by assumption) ?_
        try simp only [Act.put, List.setIfInBounds_toArray, List.set_cons_zero, List.set_cons_succ]
        refine wpAnyH_take (i := 18) (oi := ⟨some 39, _, _, _, _, _⟩) (v := _) rfl (by kernel_rfl) (by kernel_rfl) (by kernel_rfl) (fun _ _ _ h => h) (Or.inr ⟨by rfl, rfl⟩) (by assumption) ?_
        try simp only [Act.put, List.setIfInBounds_toArray, List.set_cons_zero, List.set_cons_succ]
        refine wpAnyH_take (i := 19) (oi := ⟨some 40, _, _, _, _, _⟩) (v := _) rfl (by kernel_rfl) (by kernel_rfl) (by kernel_rfl) (fun _ _ _ h => h) (Or.inr ⟨by rfl, rfl⟩) (by assumption) ?_
        try simp only [Act.put, List.setIfInBounds_toArray, List.set_cons_zero, List.set_cons_succ]
        refine wpAnyH_take (i := 20) (oi := ⟨some 41, _, _, _, _, _⟩) (v := _) rfl (by kernel_rfl) (by kernel_rfl) (by kernel_rfl) (fun _ _ _ h => h) (Or.inr ⟨by rfl, rfl⟩) (by assumption) ?_
        try simp only [Act.put, List.setIfInBounds_toArray, List.set_cons_zero, List.set_cons_succ]
        refine wpAnyH_take (i := 21) (oi := ⟨some 42, _, _, _, _, _⟩) (v := _) rfl (by kernel_rfl) (by kernel_rfl) (by kernel_rfl) (fun _ _ _ h => h) (Or.inr ⟨by rfl, rfl⟩) (by assumption) ?_
        try simp only [Act.put, List.setIfInBounds_toArray, List.set_cons_zero, List.set_cons_succ]
        refine wpAnyH_take (i := 22) (oi := ⟨some 43, _, _, _, _, _⟩) (v := _) rfl (by kernel_rfl) (by kernel_rfl) (by kernel_rfl) (fun _ _ _ h => h) (Or.inr ⟨by rfl, rfl⟩) (by assumption) ?_
        try simp only [Act.put, List.setIfInBounds_toArray, List.set_cons_zero, List.set_cons_succ]
        refine wpAnyH_take (i := 23) (oi := ⟨some 44, _, _, _, _, _⟩) (v := ?_) rfl (by kernel_rfl) (by kernel_rfl) (by kernel_rfl) (fun _ _ _ h => h) (Or.inl ⟨by rfl, ?_⟩) (by assumption) ?_
        rotate_left 1
        · (intro w hSw; (try dsimp only at hSw); go_split_ands; (try go_simp); (try with_reducible rfl))
        try simp only [Act.put, List.setIfInBounds_toArray, List.set_cons_zero, List.set_cons_succ]
        refine wpAnyH_done (by kernel_rfl) ?_ _
        generalize wr.drew = w2 at hS ⊢
        go_wp2_with fail
        go_roundw
        case rel => exact ⟨k + 1, by omega, by go_num, HNO2.out, hS⟩
        case measure => simp [intOf]; omega
      · have hsp : ek.2 = false := by simpa using hsp
        rw [hsp] at HSK
        have HFP := Lib.hid (show fsP sum s ek = BB by rw [HFP.out, hsp]; rfl)
        clear hsp
        refine wp_region_held_drew (S := fun w' => Ext [] w1 w') (by kernel_rfl) x.drew (fun hS => ?_)
        generalize wr.drew = w2 at hS ⊢
        refine wpAnyH_take (i := 0) (oi := ⟨some 21, _, _, _, _, _⟩) (v := ?_) rfl (by kernel_rfl) (by kernel_rfl) (by kernel_rfl) (fun _ _ _ h => h) (Or.inl ⟨by rfl, ?_⟩) (by assumption) ?_
        rotate_left 1
        · (intro w hSw; (try dsimp only at hSw); go_split_ands; (try go_simp); (try with_reducible rfl))
        try simp only [Act.put, List.setIfInBounds_toArray, List.set_cons_zero, List.set_cons_succ]
        refine wpAnyH_take (i := 1) (oi := ⟨some 22, _, _, _, _, _⟩) (v := ?_) rfl (by kernel_rfl) (by kernel_rfl) (by kernel_rfl) (fun _ _ _ h => h) (Or.inl ⟨by rfl, ?_⟩) (by assumption) ?_
        rotate_left 1
        · (intro w hSw; (try dsimp only at hSw); go_split_ands; (try go_simp); (try with_reducible rfl))
        try simp only [Act.put, List.setIfInBounds_toArray, List.set_cons_zero, List.set_cons_succ]
        refine wpAnyH_take (i := 2) (oi := ⟨some 23, _, _, _, _, _⟩) (v := ?_) rfl (by kernel_rfl) (by kernel_rfl) (by kernel_rfl) (fun _ _ _ h => h) (Or.inl ⟨by rfl, ?_⟩) (by assumption) ?_
        rotate_left 1
        · (intro w hSw; (try dsimp only at hSw); go_split_ands; (try go_simp); (try with_reducible rfl))
        try simp only [Act.put, List.setIfInBounds_toArray, List.set_cons_zero, List.set_cons_succ]
        refine wpAnyH_take (i := 3) (oi := ⟨some 24, _, _, _, _, _⟩) (v := ?_) rfl (by kernel_rfl) (by kernel_rfl) (by kernel_rfl) (fun _ _ _ h => h) (Or.inl ⟨by rfl, ?_⟩) (by assumption) ?_
        rotate_left 1
        · (intro w hSw; (try dsimp only at hSw); go_split_ands; obtain ⟨c72, c73, hbl⟩ := HC1.out w (by assumption); (try go_simp); (try with_reducible rfl))
        try simp only [Act.put, List.setIfInBounds_toArray, List.set_cons_zero, List.set_cons_succ]
        refine wpAnyH_take (i := 4) (oi := ⟨some 25, _, _, _, _, _⟩) (v := ?_) rfl (by kernel_rfl) (by kernel_rfl) (by kernel_rfl) (fun _ _ _ h => h) (Or.inl ⟨by rfl, ?_⟩) (by assumption) ?_
        rotate_left 1
        · (intro w hSw; (try dsimp only at hSw); go_split_ands; (try go_simp); (try with_reducible rfl))
        try simp only [Act.put, List.setIfInBounds_toArray, List.set_cons_zero, List.set_cons_succ]
        refine wpAnyH_take (i := 5) (oi := ⟨some 26, _, _, _, _, _⟩) (v := ?_) rfl (by kernel_rfl) (by kernel_rfl) (by kernel_rfl) (fun _ _ _ h => h) (Or.inl ⟨by rfl, ?_⟩) (by assumption) ?_
        rotate_left 1
        · (intro w hSw; (try dsimp only at hSw); go_split_ands; (try go_simp); (try with_reducible rfl))
        try simp only [Act.put, List.setIfInBounds_toArray, List.set_cons_zero, List.set_cons_succ]
        refine wpAnyH_take (i := 6) (oi := ⟨some 27, _, _, _, _, _⟩) (v := ?_) rfl (by kernel_rfl) (by kernel_rfl) (by kernel_rfl) (fun _ _ _ h => h) (Or.inl ⟨by rfl, ?_⟩) (by assumption) ?_
        rotate_left 1
        · (intro w hSw; (try dsimp only at hSw); go_split_ands; have hsc := HSK.out w (by assumption); (try go_simp); (try with_reducible rfl))
        try simp only [Act.put, List.setIfInBounds_toArray, List.set_cons_zero, List.set_cons_succ]
        refine wpAnyH_take (i := 7) (oi := ⟨some 28, _, _, _, _, _⟩) (v := ?_) rfl (by kernel_rfl) (by kernel_rfl) (by kernel_rfl) (fun _ _ _ h => h) (Or.inl ⟨by rfl, ?_⟩) (by assumption) ?_
        rotate_left 1
        · (intro w hSw; (try dsimp only at hSw); go_split_ands; (try go_simp); (try with_reducible rfl))
        try simp only [Act.put, List.setIfInBounds_toArray, List.set_cons_zero, List.set_cons_succ]
        refine wpAnyH_take (i := 8) (oi := ⟨some 29, _, _, _, _, _⟩) (v := ?_) rfl (by kernel_rfl) (by kernel_rfl) (by kernel_rfl) (fun _ _ _ h => h) (Or.inl ⟨by rfl, ?_⟩) (by assumption) ?_
        rotate_left 1
        · (intro w hSw; (try dsimp only at hSw); go_split_ands; (try go_simp); (try with_reducible rfl))
        try simp only [Act.put, List.setIfInBounds_toArray, List.set_cons_zero, List.set_cons_succ]
        refine wpAnyH_take (i := 9) (oi := ⟨some 30, _, _, _, _, _⟩) (v := ?_) rfl (by kernel_rfl) (by kernel_rfl) (by kernel_rfl) (fun _ _ _ h => h) (Or.inl ⟨by rfl, ?_⟩) (by assumption) ?_
        rotate_left 1
        · (intro w hSw; (try dsimp only at hSw); go_split_ands; (try go_simp); (try with_reducible rfl))
        try simp only [Act.put, List.setIfInBounds_toArray, List.set_cons_zero, List.set_cons_succ]
        refine wpAnyH_take (i := 10) (oi := ⟨some 31, _, _, _, _, _⟩) (v := ?_) rfl (by kernel_rfl) (by kernel_rfl) (by kernel_rfl) (fun _ _ _ h => h) (Or.inl ⟨by rfl, ?_⟩) (by assumption) ?_
        rotate_left 1
        · (intro w hSw; (try dsimp only at hSw); go_split_ands; (try go_simp); (try with_reducible rfl))
        try simp only [Act.put, List.setIfInBounds_toArray, List.set_cons_zero, List.set_cons_succ]
        refine wpAnyH_take (i := 11) (oi := ⟨some 32, _, _, _, _, _⟩) (v := ?_) rfl (by kernel_rfl) (by kernel_rfl) (by kernel_rfl) (fun _ _ _ h => h) (Or.inl ⟨by rfl, ?_⟩) (by assumption) ?_
        rotate_left 1
        · (intro w hSw; (try dsimp only at hSw); go_split_ands; (try go_simp); (try with_reducible rfl))
        try simp only [Act.put, List.setIfInBounds_toArray, List.set_cons_zero, List.set_cons_succ]
        refine wpAnyH_take (i := 12) (oi := ⟨some 33, _, _, _, _, _⟩) (v := .agg rt.toArray) rfl (by kernel_rfl) (by kernel_rfl) (by kernel_rfl) (fun _ _ _ h => h) (yieldsIf_load_mid (by rfl) _ _ rfl bd 0 rfl rt _ (fun w h => range_of_part (HR1.out w h)) hur rfl hszr) (by assumption) ?_
        try simp only [Act.put, List.setIfInBounds_toArray, List.set_cons_zero, List.set_cons_succ]
        refine wpAnyH_take (i := 13) (oi := ⟨some 34, _, _, _, _, _⟩) (v := ?_) rfl (by kernel_rfl) (by kernel_rfl) (by kernel_rfl) (fun _ _ _ h => h) (Or.inl ⟨by rfl, ?_⟩) (by assumption) ?_
        rotate_left 1
        · (intro w hSw; (try dsimp only at hSw); go_split_ands; (try go_simp); (try with_reducible rfl))
        try simp only [Act.put, List.setIfInBounds_toArray, List.set_cons_zero, List.set_cons_succ]
        refine wpAnyH_take (i := 14) (oi := ⟨some 35, _, _, _, _, _⟩) (v := ?_) rfl (by kernel_rfl) (by kernel_rfl) (by kernel_rfl) (fun _ _ _ h => h) (Or.inl ⟨by rfl, ?_⟩) (by assumption) ?_
        rotate_left 1
        · (intro w hSw; (try dsimp only at hSw); go_split_ands; (try go_simp); (try with_reducible rfl))
        try simp only [Act.put, List.setIfInBounds_toArray, List.set_cons_zero, List.set_cons_succ]
        refine wpAnyH_take (i := 15) (oi := ⟨some 36, _, _, _, _, _⟩) (v := ?_) rfl (by kernel_rfl) (by kernel_rfl) (by kernel_rfl) (fun _ _ _ h => h) (Or.inl ⟨by rfl, ?_⟩) (by assumption) ?_
        rotate_left 1
        · (intro w hSw; (try dsimp only at hSw); go_split_ands; (try go_simp); (try with_reducible rfl))
        try simp only [Act.put, List.setIfInBounds_toArray, List.set_cons_zero, List.set_cons_succ]
        refine wpAnyH_take (i := 16) (oi := ⟨some 37, _, _, _, _, _⟩) (v := ?_) rfl (by kernel_rfl) (by kernel_rfl) (by kernel_rfl) (fun _ _ _ h => h) (Or.inl ⟨by rfl, ?_⟩) (by assumption) ?_
        rotate_left 1
        · (intro w hSw; (try dsimp only at hSw); go_split_ands; obtain ⟨c72, c73, hbl⟩ := HC1.out w (by assumption); (try go_simp); (try with_reducible rfl))
        try simp only [Act.put, List.setIfInBounds_toArray, List.set_cons_zero, List.set_cons_succ]
        refine wpAnyH_take (i := 17) (oi := ⟨some 38, _, _, _, _, _⟩) (v := ?_) rfl (by kernel_rfl) (by kernel_rfl) (by kernel_rfl) (fun _ _ _ h => h) (Or.inl ⟨by rfl, ?_⟩) (by assumption) ?_
        rotate_left 1
        · (intro w hSw; (try dsimp only at hSw); go_split_ands; (try go_simp); (try with_reducible rfl))
        try simp only [Act.put, List.setIfInBounds_toArray, List.set_cons_zero, List.set_cons_succ]
        refine wpAnyH_take (i := 18) (oi := ⟨some 39, _, _, _, _, _⟩) (v := ?_) rfl (by kernel_rfl) (by kernel_rfl) (by kernel_rfl) (fun _ _ _ h => h) (Or.inl ⟨by rfl, ?_⟩) (by assumption) ?_
        rotate_left 1
        · (intro w hSw; (try dsimp only at hSw); go_split_ands; (try go_simp); (try with_reducible rfl))
        try simp only [Act.put, List.setIfInBounds_toArray, List.set_cons_zero, List.set_cons_succ]
        refine wpAnyH_take (i := 19) (oi := ⟨some 40, _, _, _, _, _⟩) (v := .agg kv.toArray) rfl (by kernel_rfl) (by kernel_rfl) (by kernel_rfl) (fun _ _ _ h => h) (yieldsIf_load_mid (by rfl) _ _ rfl g (k * 32) rfl kv _ (fun w h => range_of_part (HPK.out w h)) hu rfl hszk) (by assumption) ?_
        try simp only [Act.put, List.setIfInBounds_toArray, List.set_cons_zero, List.set_cons_succ]
        refine wpAnyH_take (i := 20) (oi := ⟨some 41, _, _, _, _, _⟩) (v := .agg mv.toArray) rfl (by kernel_rfl) (by kernel_rfl) (by kernel_rfl) (fun _ _ _ h => h) (yieldsIf_load_mid (by rfl) _ _ rfl bm 0 rfl mv _ (fun w h => range_of_part (HBM.out w h)) hu rfl hszm) (by assumption) ?_
        try simp only [Act.put, List.setIfInBounds_toArray, List.set_cons_zero, List.set_cons_succ]
        refine wpAnyH_take (i := 21) (oi := ⟨some 42, _, _, _, _, _⟩) (v := ?_) rfl (by kernel_rfl) (by kernel_rfl) (by kernel_rfl) (fun _ _ _ h => h) (Or.inl ⟨by rfl, ?_⟩) (by assumption) ?_
        rotate_left 1
        · (intro w hSw; (try dsimp only at hSw); go_split_ands; (try go_simp); (try with_reducible rfl))
        try simp only [Act.put, List.setIfInBounds_toArray, List.set_cons_zero, List.set_cons_succ]
        refine wpAnyH_ready (rs := [22]) (by kernel_rfl) (by simp) ?_
        refine AllReadyH.cons (o := ⟨some 43, _, _, _, _, _⟩) rfl (fun K hK => ?_) AllReadyH.nil
        go_simp
        refine (HV1.out _ hS).mono ?_
        rintro e w22 ⟨rfl, x22⟩
        go_simp
        have hS22 := hS.trans x22
        refine hK.out _ _ hS22 (fun hS => ?_)
        clear hK K
        try simp only [Act.put, List.setIfInBounds_toArray, List.set_cons_zero, List.set_cons_succ]
        refine wpAnyH_take (i := 23) (oi := ⟨some 44, _, _, _, _, _⟩) (v := ?_) rfl (by kernel_rfl) (by kernel_rfl) (by kernel_rfl) (fun _ _ _ h => h) (Or.inl ⟨by rfl, ?_⟩) (by assumption) ?_
        rotate_left 1
        · (intro w hSw; (try dsimp only at hSw); go_split_ands; (try go_simp); (try with_reducible rfl))
        try simp only [Act.put, List.setIfInBounds_toArray, List.set_cons_zero, List.set_cons_succ]
        refine wpAnyH_done (by kernel_rfl) ?_ _
        cases hBB : BB
        · have HNO2 := Lib.hid (show ∀ j, j < k + 1 → (es[j]?.map (fsP sum s)) ≠ some true from fun j hj => by
            by_cases h : j < k
            · exact HNO.out j h
            · obtain rfl : j = k := by omega
              rw [HAT.out, Option.map_some, HFP.out, hBB]; simp)
          subst hBB
          clear HFP HN HV1
          go_wp2_with fail
          go_roundw
          case rel => exact ⟨k + 1, by omega, by go_num, HNO2.out, hS22⟩
          case measure => simp [intOf]; omega
        · have HR := Lib.hid (show R = .tuple #[.int .i64 (k : Int), .int .i64 0] by
            rw [HE.out, HN.out (by rw [HFP.out, hBB]), if_pos hlt])
          subst hBB
          clear HFP HN HV1
          go_wp2_with fail
          go_ret2
          exact ⟨by rw [HR.out]; rfl, x1.trans hS22⟩
    · obtain rfl : k = es.length := by omega
      have HR := Lib.hid (show R = .tuple #[.int .i64 0, .int .i64 129] by
        rw [HE.out, HN2.out HNO.out, if_neg (Nat.lt_irrefl _)])
      go_wp2_with fail
      go_ret2
      exact ⟨by rw [HR.out]; rfl, x1.trans x⟩
end Go.Proofs.YtgcbgeombbohpaaDoor
