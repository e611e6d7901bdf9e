/- The reference of layer 3: its registry in memory. -/
import Derived.Test.YtgcbgeombbohpaaDoorRegA
import Derived.Test.YtgcbgeombbohpaaDoorWork
import Derived.Test.YtgcbgeombbohpaaDoorHeld
import Derived.Deep.CutBlock
import Derived.Test.YtgcbgeombbohpaaDoorPRow
import Derived.Test.YtgcbgeombbohpaaDoorSlc
namespace Go.Proofs.YtgcbgeombbohpaaDoor
open Go.RowKit
set_option maxRecDepth 100000

def keysV (es : List RE) : List Value := rowV (es.map (·.1))
def spentV (es : List RE) : List Value := es.map fun e => Value.bool e.2
theorem keysV_at (es : List RE) (k j : Nat) (h : ∀ e ∈ es, e.1.length = 32) (hk : k < es.length) (hj : j < 32) : (keysV es)[k * 32 + j]? = (bytesV es[k].1)[j]? := by
  unfold keysV
  rw [rowV_at _ k j (by intro m hm; obtain ⟨e, he, rfl⟩ := List.mem_map.1 hm; exact h e he) (by simpa using hk) hj, List.getElem_map]
theorem keysV_snoc (es : List RE) (e : RE) : keysV (es ++ [e]) = keysV es ++ bytesV e.1 := by simp [keysV, rowV]
theorem spentV_snoc (es : List RE) (e : RE) : spentV (es ++ [e]) = spentV es ++ [.bool e.2] := by simp [spentV]
theorem spentV_at (es : List RE) (k : Nat) (hk : k < es.length) : (spentV es)[k]? = some (.bool es[k].2) := by simp [spentV, hk]

/-- The document's registry: its block, the keys' row, the row that tells which are spent. -/
structure DocR (w : World) (bd : Nat) (vk vs : Value) (es : List RE) : Prop where
  h : Blk w bd 52 (V32 (Ks ++ begin0.list) ++ [vk, vs])
  k : w.ownsRow 0 22 32 vk es.length (keysV es)
  s : w.ownsRow 0 4 1 vs es.length (spentV es)
  len : ∀ e ∈ es, e.1.length = 32
  nk : ∀ g, vk.ownBlock = some g → g ≠ bd
  ns : ∀ g, vs.ownBlock = some g → g ≠ bd
  ks : ∀ g, vk.ownBlock = some g → vs.ownBlock ≠ some g

theorem DocR.ext {S : List Nat} {w w' : World} {bd : Nat} {vk vs : Value} {es : List RE} (d : DocR w bd vk vs es) (x : Ext S w w') (h1 : bd ∉ S) (h2 : ∀ g, vk.ownBlock = some g → g ∉ S) (h3 : ∀ g, vs.ownBlock = some g → g ∉ S) : DocR w' bd vk vs es :=
  ⟨d.h.ext x h1, owns_ext d.k x h2, owns_ext d.s x h3, d.len, d.nk, d.ns, d.ks⟩
theorem DocR.ext0 {w w' : World} {bd : Nat} {vk vs : Value} {es : List RE} (d : DocR w bd vk vs es) (x : Ext [] w w') : DocR w' bd vk vs es := d.ext x (by simp) (by simp) (by simp)
theorem DocR.key {w : World} {bd g c : Nat} {vs : Value} {es : List RE} (d : DocR w bd (.slice (some ⟨g, 0, none⟩) es.length c) vs es) (k : Nat) (hk : k < es.length) : PartAt w g (k * 32) (bytesV es[k].1) := by
  intro j hj
  rw [bytesV_length, d.len _ (List.getElem_mem hk)] at hj
  rw [d.k.cellAt (k * 32 + j) (by omega), keysV_at es k j d.len hk hj]
theorem DocR.spent {w : World} {bd g c : Nat} {vk : Value} {es : List RE} (d : DocR w bd vk (.slice (some ⟨g, 0, none⟩) es.length c) es) (k : Nat) (hk : k < es.length) : w.cell? ⟨g, k, none⟩ = some (.bool es[k].2) := by
  rw [d.s.cellAt k (by omega), spentV_at es k hk]
theorem DocR.cells {w : World} {bd : Nat} {vk vs : Value} {es : List RE} (d : DocR w bd vk vs es) : w.cell? ⟨bd, 72, none⟩ = some vk ∧ w.cell? ⟨bd, 73, none⟩ = some vs ∧ bd < w.heap.size := by
  have hl : (V32 (Ks ++ begin0.list)).length = 72 := by decide +kernel
  refine ⟨?_, ?_, d.h.lt⟩
  · rw [d.h.cell 72, List.getElem?_append_right (by omega), hl]; rfl
  · rw [d.h.cell 73, List.getElem?_append_right (by omega), hl]; rfl

theorem range_of_part {w : World} {b off : Nat} {cs : List Value} (h : PartAt w b off cs) : w.rangeAt b off cs := fun j v hv => by
  have hj := (List.getElem?_eq_some_iff.1 hv).1
  show w.cell? ⟨b, off + j, none⟩ = _
  rw [h j hj]; exact hv
theorem eq_keys (a b : List UInt8) (ha : a.length = 32) (hb : b.length = 32) : ∀ w, (Op.equalIn 10000 22 (.agg (bytesV a).toArray) (.agg (bytesV b).toArray)).run Tryd.prog w = .ok (decide (a = b)) w :=
  run_equal_bytes (P := Tryd.prog) 9998 Tryd.underlying22 Tryd.underlying5 (by kernel_rfl) (by kernel_rfl) a b ha hb

set_option maxHeartbeats 8000000 in
theorem doc_has (bd : Nat) (vk vs : Value) (es : List RE) (key : List UInt8) (w : World) (D : DocR w bd vk vs es) (hn : es.length ≤ 1000) (hk : key.length = 32) :
    Calls Tryd.prog 21 #[.pointer (some ⟨bd, 0, none⟩), .agg (bytesV key).toArray] w fun e w' => e = .returned (.bool (hasM es key)) ∧ Ext [] w w' := by
  have HF1 := Lib.hid (fun k (hk : k < es.length) h1 h2 => findN_at es key k hk h1 h2)
  have HF2 := Lib.hid (findN_none es key)
  have HH := Lib.hid (show hasM es key = if findN es key < es.length then !(es.getD (findN es key) ([], false)).2 else false from rfl)
  obtain ⟨ka, kc, rfl⟩ := owns_slice D.k
  obtain ⟨sa, sc, rfl⟩ := owns_slice D.s
  have HC := Lib.hid (fun w' (x : Ext [] w w') => (D.ext0 x).cells)
  have HP := Lib.hid (fun w' (x : Ext [] w w') k (hk : k < es.length) => (show ∃ g, ka = some ⟨g, 0, none⟩ ∧ PartAt w' g (k * 32) (bytesV es[k].1) from by
    obtain ⟨g, c', cur, he, -, -, -, -, -⟩ := owns_some D.k (by omega)
    cases he
    exact ⟨g, rfl, (D.ext0 x).key k hk⟩))
  have HS := Lib.hid (fun w' (x : Ext [] w w') k (hk : k < es.length) => (show ∃ g, sa = some ⟨g, 0, none⟩ ∧ w'.cell? ⟨g, k, none⟩ = some (.bool es[k].2) from by
    obtain ⟨g, c', cur, he, -, -, -, -, -⟩ := owns_some D.s (by omega)
    cases he
    exact ⟨g, rfl, (D.ext0 x).spent k hk⟩))
  have HQ := Lib.hid (fun k (hk2 : k < es.length) => eq_keys es[k].1 key (D.len _ (List.getElem_mem hk2)) hk)
  have HL := Lib.hid (fun k (hk2 : k < es.length) => (show (bytesV es[k].1).length = 32 by rw [bytesV_length]; exact D.len _ (List.getElem_mem hk2)))
  have hkl : (bytesV key).length = 32 := by rw [bytesV_length]; exact hk
  generalize hasM es key = R at *
  clear D
  go_enter Tryd.func21, Tryd.ntmps21
  go_upto_region 1 with (fail)
  show Code.wp _ _ _ _ (w.alloc (.cells (bytesV key).toArray 22))
  have BK : Blk (w.alloc (.cells (bytesV key).toArray 22)) w.heap.size 22 (bytesV key) := Blk.new w _ (bytesV key).toArray
  have x1 : Ext [] w (w.alloc (.cells (bytesV key).toArray 22)) := (Ext.refl _ _).alloc _
  generalize w.alloc (.cells (bytesV key).toArray 22) = w1 at *
  generalize w.heap.size = bk at *
  go_wp2_with fail
  go_loopw [5] (fun i wr => ∃ k : Nat, k ≤ es.length ∧ i = .int .i64 (k : Int) ∧ (∀ j, j < k → decide (es[j]?.map (·.1) = some key) = false) ∧ Ext [] w1 wr) (fun i _ => es.length - (intOf i).toNat)
  case atStart => exact ⟨0, Nat.zero_le _, rfl, fun j hj => by omega, Ext.refl _ _⟩
  case round =>
    obtain ⟨k, hk, rfl, hno, x⟩ := hrel
    have HNO := Lib.hid hno
    clear hno
    obtain ⟨c72, c73, hbl⟩ := HC.out wr (x1.trans x)
    by_cases hlt : k < es.length
    · have hlt' : (k : Int) < (es.length : Int) := by omega
      obtain ⟨g, rfl, hpe⟩ := HP.out wr (x1.trans x) k hlt
      have HPK := Lib.hid (fun w' (x' : Ext [] w1 w') => (show PartAt w' g (k * 32) (bytesV es[k].1) from by
        obtain ⟨g', e, h⟩ := HP.out w' (x1.trans x') k hlt
        cases e; exact h))
      have HBK := Lib.hid (fun w' (x' : Ext [] w1 w') => (BK.ext x' (by simp)).part)
      have HC1 := Lib.hid (fun w' (x' : Ext [] w1 w') => HC.out w' (x1.trans x'))
      have HS1 := Lib.hid (fun w' (x' : Ext [] w1 w') => HS.out w' (x1.trans x') k hlt)
      have HAT := Lib.hid (show es[k]? = some es[k] from List.getElem?_eq_getElem hlt)
      have HF := Lib.hid (HF1.out k hlt HNO.out)
      have heq := HQ.out k hlt
      have hl1 := HL.out k hlt
      generalize es[k] = ek at *
      have hu := Tryd.underlying22
      have hsz1 : (Tryd.prog.info? 22).map (·.size) = some (bytesV ek.1).length := by rw [hl1]; kernel_rfl
      have hsz2 : (Tryd.prog.info? 22).map (·.size) = some (bytesV key).length := by rw [hkl]; kernel_rfl
      go_wp2_with fail
      refine wp_region_held_drew (S := fun w' => Ext [] w1 w') (by kernel_rfl) x.drew (fun hS => ?_)
      clear c72 c73 hpe BK
      refine wpAnyH_take (i := 0) (oi := ⟨some 15, _, _, _, _, _⟩) (v := ?_) rfl (by kernel_rfl) (by kernel_rfl) (by kernel_rfl) (fun _ _ _ h => h) (Or.inl ⟨by rfl, ?_⟩) (by assumption) ?_
      rotate_left 1
      · (intro w hSw; (try dsimp only at hSw); go_split_ands; (try go_simp); (try with_reducible rfl))
      try simp only [Act.put, List.setIfInBounds_toArray, List.set_cons_zero, List.set_cons_succ]
      refine wpAnyH_take (i := 1) (oi := ⟨some 16, _, _, _, _, _⟩) (v := ?_) rfl (by kernel_rfl) (by kernel_rfl) (by kernel_rfl) (fun _ _ _ h => h) (Or.inl ⟨by rfl, ?_⟩) (by assumption) ?_
      rotate_left 1
      · (intro w hSw; (try dsimp only at hSw); go_split_ands; (try go_simp); (try with_reducible rfl))
      try simp only [Act.put, List.setIfInBounds_toArray, List.set_cons_zero, List.set_cons_succ]
      refine wpAnyH_take (i := 2) (oi := ⟨some 17, _, _, _, _, _⟩) (v := ?_) rfl (by kernel_rfl) (by kernel_rfl) (by kernel_rfl) (fun _ _ _ h => h) (Or.inl ⟨by rfl, ?_⟩) (by assumption) ?_
      rotate_left 1
      · (intro w hSw; (try dsimp only at hSw); go_split_ands; (try go_simp); (try with_reducible rfl))
      try simp only [Act.put, List.setIfInBounds_toArray, List.set_cons_zero, List.set_cons_succ]
      refine wpAnyH_take (i := 3) (oi := ⟨some 18, _, _, _, _, _⟩) (v := ?_) rfl (by kernel_rfl) (by kernel_rfl) (by kernel_rfl) (fun _ _ _ h => h) (Or.inl ⟨by rfl, ?_⟩) (by assumption) ?_
      rotate_left 1
      · (intro w hSw; (try dsimp only at hSw); go_split_ands; obtain ⟨c72, c73, hbl⟩ := HC1.out w (by assumption); (try go_simp); (try with_reducible rfl))
      try simp only [Act.put, List.setIfInBounds_toArray, List.set_cons_zero, List.set_cons_succ]
      refine wpAnyH_take (i := 4) (oi := ⟨some 19, _, _, _, _, _⟩) (v := ?_) rfl (by kernel_rfl) (by kernel_rfl) (by kernel_rfl) (fun _ _ _ h => h) (Or.inl ⟨by rfl, ?_⟩) (by assumption) ?_
      rotate_left 1
      · (intro w hSw; (try dsimp only at hSw); go_split_ands; (try go_simp); (try with_reducible rfl))
      try simp only [Act.put, List.setIfInBounds_toArray, List.set_cons_zero, List.set_cons_succ]
      refine wpAnyH_take (i := 5) (oi := ⟨some 20, _, _, _, _, _⟩) (v := ?_) rfl (by kernel_rfl) (by kernel_rfl) (by kernel_rfl) (fun _ _ _ h => h) (Or.inl ⟨by rfl, ?_⟩) (by assumption) ?_
      rotate_left 1
      · (intro w hSw; (try dsimp only at hSw); go_split_ands; (try go_simp); (try with_reducible rfl))
      try simp only [Act.put, List.setIfInBounds_toArray, List.set_cons_zero, List.set_cons_succ]
      refine wpAnyH_take (i := 6) (oi := ⟨some 21, _, _, _, _, _⟩) (v := .agg (bytesV ek.1).toArray) rfl (by kernel_rfl) (by kernel_rfl) (by kernel_rfl) (fun _ _ _ h => h) (yieldsIf_load_mid (by rfl) _ _ rfl g (k * 32) rfl (bytesV ek.1) _ (fun w h => range_of_part (HPK.out w h)) hu rfl hsz1) (by assumption) ?_
      try simp only [Act.put, List.setIfInBounds_toArray, List.set_cons_zero, List.set_cons_succ]
      refine wpAnyH_take (i := 7) (oi := ⟨some 22, _, _, _, _, _⟩) (v := .agg (bytesV key).toArray) rfl (by kernel_rfl) (by kernel_rfl) (by kernel_rfl) (fun _ _ _ h => h) (yieldsIf_load_mid (by rfl) _ _ rfl bk 0 rfl (bytesV key) _ (fun w h => range_of_part (HBK.out w h)) hu rfl hsz2) (by assumption) ?_
      try simp only [Act.put, List.setIfInBounds_toArray, List.set_cons_zero, List.set_cons_succ]
      refine wpAnyH_take (i := 8) (oi := ⟨some 23, _, _, _, _, _⟩) (v := ?_) rfl (by kernel_rfl) (by kernel_rfl) (by kernel_rfl) (fun _ _ _ h => h) (Or.inl ⟨by rfl, ?_⟩) (by assumption) ?_
      rotate_left 1
      · (intro w hSw; (try dsimp only at hSw); go_split_ands; (try go_simp); (try with_reducible rfl))
      try simp only [Act.put, List.setIfInBounds_toArray, List.set_cons_zero, List.set_cons_succ]
      refine wpAnyH_done (by kernel_rfl) ?_ _
      generalize wr.drew = w2 at hS ⊢
      by_cases hq : ek.1 = key
      · have hfn := HF.out hq
        have hfi := HH.out
        rw [hfn, if_pos hlt, show es.getD k ([], false) = ek by rw [List.getD_eq_getElem?_getD, HAT.out]; rfl] at hfi
        obtain ⟨c72, c73, hbl⟩ := HC1.out w2 hS
        obtain ⟨g2, rfl, hsc⟩ := HS1.out w2 hS
        subst hfi
        rw [decide_eq_true hq]
        clear HF hfn heq
        go_wp2_with fail
        go_ret
        exact ⟨rfl, x1.trans hS⟩
      · have HNO2 := Lib.hid (show ∀ j, j < k + 1 → decide (es[j]?.map (·.1) = some key) = false from fun j hj => by
          by_cases h : j < k
          · exact HNO.out j h
          · obtain rfl : j = k := by omega
            rw [HAT.out]
            simpa using hq)
        rw [decide_eq_false hq]
        clear HF heq
        go_wp2_with fail
        go_roundw
        case rel => exact ⟨k + 1, by omega, by go_num, HNO2.out, hS⟩
        case measure => simp [intOf]; omega
    · obtain rfl : k = es.length := by omega
      have hfi := HH.out
      rw [HF2.out HNO.out, if_neg (Nat.lt_irrefl _)] at hfi
      subst hfi
      go_wp2_with fail
      go_ret
      exact ⟨rfl, x1.trans x⟩
end Go.Proofs.YtgcbgeombbohpaaDoor
