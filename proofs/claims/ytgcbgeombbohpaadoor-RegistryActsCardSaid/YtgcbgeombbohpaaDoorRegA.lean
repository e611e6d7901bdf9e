/- Package registry: the table, find. -/
import Derived.Test.YtgcbgeombbohpaaDoorEqB
import Derived.Test.YtgcbgeombbohpaaDoorByt
import Derived.Test.YtgcbgeombbohpaaDoorRow
namespace Go.Proofs.YtgcbgeombbohpaaDoor
open Go.RowKit
set_option maxRecDepth 100000

theorem part_left {w : World} {b off : Nat} {xs ys : List Value} (h : PartAt w b off (xs ++ ys)) : PartAt w b off xs := fun j hj => by
  rw [h j (by simp; omega), List.getElem?_append_left hj]

/-- A key, and whether it is spent. -/
abbrev RE : Type := List UInt8 × Bool
def entV (e : RE) : List Value := bytesV e.1 ++ [.bool e.2]
def rowE (es : List RE) : List Value := (es.map entV).flatten
theorem entV_length (e : RE) (h : e.1.length = 32) : (entV e).length = 33 := by simp [entV, bytesV_length, h]
theorem entV_one (e : RE) : ∀ u ∈ entV e, u.oneCell' = true := by
  intro u hu
  simp only [entV, List.mem_append, List.mem_singleton] at hu
  rcases hu with h | h
  · exact bytesV_one _ u h
  · subst h; rfl
theorem rowE_one (es : List RE) : ∀ u ∈ rowE es, u.oneCell' = true := by
  intro u hu
  simp only [rowE, List.mem_flatten, List.mem_map] at hu
  obtain ⟨l, ⟨e, _, rfl⟩, h⟩ := hu
  exact entV_one e u h
theorem rowE_length : ∀ (es : List RE), (∀ e ∈ es, e.1.length = 32) → (rowE es).length = es.length * 33
  | [], _ => rfl
  | e :: es, h => by
    have e1 : rowE (e :: es) = entV e ++ rowE es := by simp [rowE]
    rw [e1, List.length_append, entV_length e (h e (by simp)), rowE_length es (fun x hx => h x (by simp [hx])), List.length_cons]; omega
theorem rowE_at : ∀ (es : List RE) (k j : Nat) (_ : ∀ e ∈ es, e.1.length = 32) (hk : k < es.length), j < 33 → (rowE es)[k * 33 + j]? = (entV es[k])[j]?
  | [], _, _, _, hk, _ => by simp at hk
  | e :: es, 0, j, h, _, hj => by
    have e1 : rowE (e :: es) = entV e ++ rowE es := by simp [rowE]
    rw [e1, Nat.zero_mul, Nat.zero_add, List.getElem?_append_left (by rw [entV_length e (h e (by simp))]; omega)]; rfl
  | e :: es, k + 1, j, h, hk, hj => by
    have e1 : rowE (e :: es) = entV e ++ rowE es := by simp [rowE]
    have h2 := entV_length e (h e (by simp))
    rw [e1, List.getElem?_append_right (by rw [h2]; omega), h2, show (k + 1) * 33 + j - 33 = k * 33 + j by omega, rowE_at es k j (fun x hx => h x (by simp [hx])) (by simpa using hk) hj]
    simp
theorem rowE_snoc (es : List RE) (e : RE) : rowE (es ++ [e]) = rowE es ++ entV e := by simp [rowE]

/-- A registry: block b holds the slice v, which owns the entries. -/
structure RegAt (w : World) (b : Nat) (v : Value) (es : List RE) : Prop where
  hd : Blk w b 59 [v]
  own : w.ownsRow 0 62 33 v es.length (rowE es)
  len : ∀ e ∈ es, e.1.length = 32

theorem RegAt.ext {S : List Nat} {w w' : World} {b : Nat} {v : Value} {es : List RE} (h : RegAt w b v es) (x : Ext S w w') (hb : b ∉ S) (hv : ∀ g, v.ownBlock = some g → g ∉ S) : RegAt w' b v es :=
  ⟨h.hd.ext x hb, owns_ext h.own x hv, h.len⟩
theorem RegAt.ext0 {w w' : World} {b : Nat} {v : Value} {es : List RE} (h : RegAt w b v es) (x : Ext [] w w') : RegAt w' b v es := h.ext x (by simp) (by simp)

theorem RegAt.entry {w : World} {b g c : Nat} {es : List RE} (h : RegAt w b (.slice (some ⟨g, 0, none⟩) es.length c) es) (k : Nat) (hk : k < es.length) : PartAt w g (k * 33) (entV es[k]) := by
  intro j hj
  have hl := entV_length es[k] (h.len _ (List.getElem_mem hk))
  rw [h.own.cellAt (k * 33 + j) (by omega), rowE_at es k j h.len hk (by omega)]

/-- The first place of a key. -/
def findN (es : List RE) (key : List UInt8) : Nat := es.findIdx fun e => decide (e.1 = key)
def findI (es : List RE) (key : List UInt8) : Int := if findN es key < es.length then (findN es key : Int) else -1

set_option maxHeartbeats 2000000 in
theorem fclos_any (e : RE) (key : List UInt8) (bk : Nat) (w : World) (he : e.1.length = 32) (hk : key.length = 32) (hb : Blk w bk 22 (bytesV key)) :
    Calls Tryd.prog 32 #[.agg (entV e).toArray, .pointer (some ⟨bk, 0, none⟩)] w fun e' w' => e' = .returned (.bool (decide (e.1 = key))) ∧ Ext [] w w' := by
  have heq := run_equal_bytes (P := Tryd.prog) 9998 Tryd.underlying22 Tryd.underlying5 (by kernel_rfl) (by kernel_rfl) e.1 key he hk
  have h1 : (bytesV e.1).length = 32 := by rw [bytesV_length, he]
  have h2 : (bytesV key).length = 32 := by rw [bytesV_length, hk]
  have HP := Lib.hid (fun (w' : World) b (h : Blk w' b 62 (entV e)) => (show PartAt w' b 0 (bytesV e.1) from part_left (show PartAt w' b 0 (bytesV e.1 ++ [.bool e.2]) from h.part)))
  generalize decide (e.1 = key) = B at *
  generalize entV e = ev at *
  generalize bytesV e.1 = kv at *
  generalize bytesV key = kw at *
  have hu3 := Tryd.underlying22
  have hsz1 : (Tryd.prog.info? 22).map (·.size) = some kv.length := by rw [h1]; kernel_rfl
  have hsz2 : (Tryd.prog.info? 22).map (·.size) = some kw.length := by rw [h2]; kernel_rfl
  have HEQ := Lib.hid heq
  clear heq he hk
  go_enter Tryd.func32, Tryd.ntmps32
  go_upto_region 1 with (fail)
  show Code.wp _ _ _ _ (w.alloc (.cells ev.toArray 62))
  have BE : Blk (w.alloc (.cells ev.toArray 62)) w.heap.size 62 ev := Blk.new w _ ev.toArray
  have x1 : Ext [] w (w.alloc (.cells ev.toArray 62)) := (Ext.refl _ _).alloc _
  have hb1 := hb.ext x1 (by simp)
  generalize w.alloc (.cells ev.toArray 62) = w1 at *
  have heq := HEQ.out
  go_wp2_with (first
    | (with_reducible refine wpList_ldpart rfl 22 (.tmp 4) rfl w.heap.size 0 rfl kv _ (HP.out _ _ BE) hu3 rfl hsz1 ?_)
    | (with_reducible refine wpList_ldpart rfl 22 (.tmp 1) rfl bk 0 rfl kw _ hb1.part hu3 rfl hsz2 ?_))
  go_ret
  exact ⟨rfl, x1⟩

theorem findN_le (es : List RE) (key : List UInt8) : findN es key ≤ es.length := List.findIdx_le_length
theorem findN_at (es : List RE) (key : List UInt8) (k : Nat) (hk : k < es.length) (h : ∀ j, j < k → decide (es[j]?.map (·.1) = some key) = false) (he : es[k].1 = key) : findN es key = k := by
  unfold findN
  rw [List.findIdx_eq hk]
  refine ⟨by simp [he], fun j hj => ?_⟩
  have := h j hj
  simp only [decide_eq_false_iff_not] at this ⊢
  intro h2
  apply this
  rw [List.getElem?_eq_getElem (by omega)]
  simp [h2]
theorem findN_none (es : List RE) (key : List UInt8) (h : ∀ j, j < es.length → decide (es[j]?.map (·.1) = some key) = false) : findN es key = es.length := by
  unfold findN
  rw [List.findIdx_eq_length]
  intro e he
  obtain ⟨j, hj, rfl⟩ := List.getElem_of_mem he
  have := h j hj
  rw [List.getElem?_eq_getElem hj] at this
  simpa using this

set_option maxHeartbeats 4000000 in
theorem findx_any (b : Nat) (v : Value) (es : List RE) (key : List UInt8) (bk : Nat) (w : World) (h : RegAt w b v es) (hn : es.length ≤ 1000) (hk : key.length = 32) (hb : Blk w bk 22 (bytesV key)) :
    Calls Tryd.prog 31 #[v, .func (.func 32) #[] #[.pointer (some ⟨bk, 0, none⟩)]] w fun e' w' => e' = .returned (.int .i64 (findI es key)) ∧ Ext [] w w' := by
  have HCL := Lib.hid (fun (e : RE) w' (x : Ext [] w w') (he : e.1.length = 32) => fclos_any e key bk w' he hk (hb.ext x (by simp)))
  have HF1 := Lib.hid (fun k (hk : k < es.length) h1 h2 => findN_at es key k hk h1 h2)
  have HF2 := Lib.hid (findN_none es key)
  have HFI := Lib.hid (show findI es key = if findN es key < es.length then (findN es key : Int) else -1 from rfl)
  obtain ⟨va, vc, rfl⟩ := owns_slice h.own
  have HPE := Lib.hid (fun w' (x : Ext [] w w') k (hk : k < es.length) => (show ∃ g, va = some ⟨g, 0, none⟩ ∧ PartAt w' g (k * 33) (entV es[k]) ∧ (entV es[k]).length = 33 from by
    obtain ⟨g, c', cur, he, -, -, -, -, -⟩ := owns_some h.own (by omega)
    cases he
    exact ⟨g, rfl, (h.ext0 x).entry k hk, entV_length _ (h.len _ (List.getElem_mem hk))⟩))
  have HLE := Lib.hid (fun k (hk : k < es.length) => h.len _ (List.getElem_mem hk))
  generalize findI es key = R at *
  clear h hk hb
  go_enter Tryd.func31, Tryd.ntmps31
  go_wp2_with fail
  go_loopw [8] (fun i wr => ∃ k : Nat, k ≤ es.length ∧ i = .int .i64 (k : Int) ∧ (∀ j, j < k → decide (es[j]?.map (·.1) = some key) = false) ∧ Ext [] w wr) (fun i _ => es.length - (intOf i).toNat)
  case atStart => exact ⟨0, Nat.zero_le _, rfl, fun j hj => by omega, Ext.refl _ _⟩
  case round =>
    obtain ⟨k, hk, rfl, hno, x⟩ := hrel
    have HNO := Lib.hid hno
    clear hno
    by_cases hlt : k < es.length
    · obtain ⟨g, rfl, hpe, hel⟩ := HPE.out wr x k hlt
      have HC := Lib.hid (HCL.out es[k] wr x (HLE.out k hlt))
      have HAT := Lib.hid (show es[k]? = some es[k] from List.getElem?_eq_getElem hlt)
      have HF := Lib.hid (HF1.out k hlt HNO.out)
      generalize es[k] = ek at *
      generalize entV ek = ev at *
      have hue := Tryd.underlying62
      have hsze : (Tryd.prog.info? 62).map (·.size) = some ev.length := by rw [hel]; kernel_rfl
      go_wp2_with (with_reducible refine wpList_ldpart rfl 62 (.tmp 14) rfl g (k * 33) rfl ev _ hpe hue rfl hsze ?_)
      refine HC.out.mono ?_
      rintro e w2 ⟨rfl, x2⟩
      have x02 := x.trans x2
      by_cases hq : ek.1 = key
      · have hfi := HFI.out
        rw [HF.out hq, if_pos hlt] at hfi
        subst hfi
        rw [decide_eq_true hq]
        clear HF HC
        go_wp2_with fail
        go_ret
        exact ⟨rfl, x02⟩
      · have HNO2 := Lib.hid (show ∀ j, j < k + 1 → decide (es[j]?.map (·.1) = some key) = false from fun j hj => by
          by_cases h : j < k
          · exact HNO.out j h
          · obtain rfl : j = k := by omega
            rw [HAT.out]
            simpa using hq)
        rw [decide_eq_false hq]
        clear HF HC
        go_wp2_with fail
        go_roundw
        case rel => exact ⟨k + 1, by omega, by go_num, HNO2.out, x02⟩
        case measure => simp [intOf]; omega
    · obtain rfl : k = es.length := by omega
      have hfi := HFI.out
      rw [HF2.out HNO.out, if_neg (Nat.lt_irrefl _)] at hfi
      subst hfi
      go_wp2_with fail
      go_ret
      exact ⟨rfl, x⟩

set_option maxHeartbeats 2000000 in
theorem rfind_any (b : Nat) (v : Value) (es : List RE) (key : List UInt8) (w : World) (h : RegAt w b v es) (hn : es.length ≤ 1000) (hk : key.length = 32) :
    Calls Tryd.prog 22 #[.pointer (some ⟨b, 0, none⟩), .agg (bytesV key).toArray] w fun e' w' => e' = .returned (.int .i64 (findI es key)) ∧ Ext [] w w' := by
  have HF := Lib.hid (fun bk w' (x : Ext [] w w') hb => findx_any b v es key bk w' (h.ext0 x) hn hk hb)
  have hc := h.hd.cell 0
  have hlt := h.hd.lt
  obtain ⟨va, vc, rfl⟩ := owns_slice h.own
  obtain ⟨kv, hkv⟩ : ∃ kv, kv = bytesV key := ⟨_, rfl⟩
  rw [← hkv] at HF ⊢
  clear h hkv hk
  go_enter Tryd.func22, Tryd.ntmps22
  go_upto_region 1 with (fail)
  show Code.wp _ _ _ _ (w.alloc (.cells kv.toArray 22))
  have BK : Blk (w.alloc (.cells kv.toArray 22)) w.heap.size 22 kv := Blk.new w _ kv.toArray
  have x1 : Ext [] w (w.alloc (.cells kv.toArray 22)) := (Ext.refl _ _).alloc _
  have hc1 := (x1.cell (p := ⟨b, 0, none⟩) hlt (by simp)).trans hc
  have HF1 := Lib.hid (HF.out _ _ x1 BK)
  generalize w.alloc (.cells kv.toArray 22) = w1 at *
  clear hc
  go_wp2_with fail
  refine HF1.out.mono ?_
  rintro e w2 ⟨rfl, x2⟩
  go_wp2_with fail
  go_ret
  exact ⟨rfl, x1.trans x2⟩

def hasM (es : List RE) (key : List UInt8) : Bool := if findN es key < es.length then !(es.getD (findN es key) ([], false)).2 else false
end Go.Proofs.YtgcbgeombbohpaaDoor
