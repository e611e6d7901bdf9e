/- Package bmap: the small calls; what is sought. -/
import Derived.Test.YtbjkfgfiifnjoaaDoorBmA
import Derived.Test.YtbjkfgfiifnjoaaDoorByt
namespace Go.Proofs.YtbjkfgfiifnjoaaDoor
open Go.RowKit
set_option maxRecDepth 100000

section
variable {b : Nat} {t : Int} {l : Value} {ck : Nat} {es : List BE} {w : World}
theorem MapAt.cs (h : MapAt w b t l ck es) : w.cell? ⟨b, 0, none⟩ = some (.int .i64 t) ∧ w.cell? ⟨b, 1, none⟩ = some (.int .i64 4) ∧ w.cell? ⟨b, 2, none⟩ = some (.int .i64 2) ∧ w.cell? ⟨b, 3, none⟩ = some (.int .i64 8) ∧ w.cell? ⟨b, 4, none⟩ = some l ∧ w.cell? ⟨b, 5, none⟩ = some (.bool false) ∧ w.cell? ⟨b, 6, none⟩ = some (.int .i64 (ck : Int)) ∧ b < w.heap.size :=
  ⟨h.h.cell 0, h.h.cell 1, h.h.cell 2, h.h.cell 3, h.h.cell 4, h.h.cell 5, h.h.cell 6, h.h.lt⟩

theorem bm_changes (h : MapAt w b t l ck es) : Calls Tryd.prog 55 #[.pointer (some ⟨b, 0, none⟩)] w fun e w' => e = .returned (.int .i64 0) ∧ w = w' := by
  obtain ⟨c0, c1, c2, c3, c4, c5, c6, hlt⟩ := h.cs
  clear h
  go_enter Tryd.func55, Tryd.ntmps55
  go_wp2
  go_ret
  exact ⟨rfl, rfl⟩

theorem bm_right (h : MapAt w b t l ck es) (ht : t = 0 ∨ t = 1 ∨ t = 2) (a : Option Addr) (c : Nat) : Calls Tryd.prog 56 #[.pointer (some ⟨b, 0, none⟩), .slice a 4 c] w fun e w' => e = .returned (.bool true) ∧ w = w' := by
  obtain ⟨c0, c1, c2, c3, c4, c5, c6, hlt⟩ := h.cs
  clear h
  rcases ht with rfl | rfl | rfl
  all_goals
    go_enter Tryd.func56, Tryd.ntmps56
    go_wp2
    go_ret
    exact ⟨rfl, rfl⟩

theorem conv_reads {v : Value} {x : List UInt8} (h : Reads w v 1 x.length (bytesV x)) (h0 : 0 < x.length) : (convert 39 9 v).run Tryd.prog w = .ok (.string (strB x)) w := by
  obtain ⟨ao, c, rfl, -, hnone, hcells⟩ := h
  obtain ⟨ad, rfl⟩ : ∃ ad, ao = some ad := by
    cases ao with
    | none => have := hnone rfl; omega
    | some ad => exact ⟨ad, rfl⟩
  refine run_convert_bytes_back w _ _ 5 ad c x Tryd.underlying39 Tryd.underlying5 Tryd.underlying9 ?_
  intro j hj
  refine hcells ad rfl j _ ?_
  unfold bytesV
  simp [hj]

theorem bm_plain (h : MapAt w b t l ck es) (ht : t = 0 ∨ t = 1 ∨ t = 2) (k : Nat) (v : Value) (hr : Reads w v 1 4 (bytesV (keyB4 k))) : Calls Tryd.prog 60 #[.pointer (some ⟨b, 0, none⟩), v] w fun e w' => e = .returned (.string (keyS k)) ∧ w = w' := by
  obtain ⟨c0, c1, c2, c3, c4, c5, c6, hlt⟩ := h.cs
  have hcv := conv_reads (x := keyB4 k) hr (by simp [keyB4])
  have ht5 : (t == 5) = false := by rcases ht with rfl | rfl | rfl <;> rfl
  obtain ⟨ao, c, rfl, -, -, -⟩ := hr
  clear h
  rw [show strB (keyB4 k) = keyS k from rfl] at hcv
  generalize keyS k = ks at *
  go_enter Tryd.func60, Tryd.ntmps60
  go_wp2_with fail
  go_ret
  exact ⟨rfl, rfl⟩

theorem keyS_beq : ∀ a b : Fin 8, ((keyS a.val).toList == (keyS b.val).toList) = decide (a.val = b.val) := by decide +kernel
theorem bm_eclos (x : BE) (bk k : Nat) (hx : Blk w x.e 122 [.string (keyS x.k), .pointer (some ⟨x.c, 0, none⟩), .int .i64 (x.u : Int)]) (hk : Blk w bk 9 [.string (keyS k)]) (h8 : x.k < 8) (hk8 : k < 8) :
    Calls Tryd.prog 96 #[.pointer (some ⟨x.e, 0, none⟩), .pointer (some ⟨bk, 0, none⟩)] w fun e w' => e = .returned (.bool (decide (x.k = k))) ∧ Ext [] w w' := by
  have c0 := hx.cell 0
  have d0 := hk.cell 0
  simp only [List.getElem?_cons_zero] at c0 d0
  have hl1 := hx.lt
  have hl2 := hk.lt
  have HE := Lib.hid (show ((keyS x.k).toList == (keyS k).toList) = decide (x.k = k) from keyS_beq ⟨x.k, h8⟩ ⟨k, hk8⟩)
  clear hx hk h8 hk8
  generalize keyS x.k = s1 at *
  generalize keyS k = s2 at *
  go_enter Tryd.func96, Tryd.ntmps96
  go_upto_region 1 with (fail)
  go_quiet (fail)
  have x9 : Ext [] w (w.drewN nq) := (Ext.refl _ _).drewN nq
  go_wp2_with fail
  go_ret
  refine ⟨?_, x9⟩
  rw [← HE.out]
  rfl
end

/-- Where a key is, or how many there are. -/
def bmK (es : List BE) (k : Nat) : Nat := es.findIdx fun x => decide (x.k = k)
theorem bmK_at (es : List BE) (k j : Nat) (hj : j < es.length) (h : ∀ i, i < j → es[i]?.map (·.k) ≠ some k) (he : es[j].k = k) : bmK es k = j := by
  unfold bmK
  rw [List.findIdx_eq hj]
  refine ⟨by simpa using he, fun i hi => ?_⟩
  have := h i hi
  rw [List.getElem?_eq_getElem (by omega)] at this
  simpa using this
theorem bmK_none (es : List BE) (k : Nat) (h : ∀ i, i < es.length → es[i]?.map (·.k) ≠ some k) : bmK es k = es.length := by
  unfold bmK
  rw [List.findIdx_eq_length]
  intro x hx
  obtain ⟨i, hi, rfl⟩ := List.getElem_of_mem hx
  have := h i hi
  rw [List.getElem?_eq_getElem hi] at this
  simpa using this
def bmI (es : List BE) (k : Nat) : Int := if bmK es k < es.length then (bmK es k : Int) else -1

set_option maxHeartbeats 4000000 in
theorem bm_index (b : Nat) (t : Int) (l : Value) (ck : Nat) (es : List BE) (bk k : Nat) (w : World) (h : MapAt w b t l ck es) (hk : Blk w bk 9 [.string (keyS k)]) (hk8 : k < 8) :
    Calls Tryd.prog 95 #[l, .func (.func 96) #[] #[.pointer (some ⟨bk, 0, none⟩)]] w fun e w' => e = .returned (.int .i64 (bmI es k)) ∧ Ext [] w w' := by
  have h8 := h.le8
  have HAT := Lib.hid (fun w' (x : Ext [] w w') j (hj : j < es.length) => (show ∃ g c, l = .slice (some ⟨g, 0, none⟩) es.length c ∧ w'.cell? ⟨g, j, none⟩ = some (.pointer (some ⟨es[j].e, 0, none⟩)) from by
    obtain ⟨g, c', cur, he, -, -, -, -, -⟩ := owns_some h.own (by omega)
    subst he
    refine ⟨g, c', rfl, ?_⟩
    rw [(h.ext0 x).own.cellAt j (by omega)]
    simp [ptrE, hj]))
  have HCL := Lib.hid (fun w' (x : Ext [] w w') j (hj : j < es.length) => bm_eclos es[j] bk k (((h.ext0 x).en es[j] (List.getElem_mem hj))) (hk.ext x (by simp)) (h.k8 _ (List.getElem_mem hj)) hk8)
  have HF1 := Lib.hid (fun j hj h1 h2 => bmK_at es k j hj h1 h2)
  have HF2 := Lib.hid (bmK_none es k)
  have HFI := Lib.hid (show bmI es k = if bmK es k < es.length then (bmK es k : Int) else -1 from rfl)
  obtain ⟨la, lc, rfl⟩ := owns_slice h.own
  generalize bmI es k = R at *
  clear h hk
  go_enter Tryd.func95, Tryd.ntmps95
  go_wp2_with fail
  go_loopw [8] (fun i wr => ∃ j : Nat, j ≤ es.length ∧ i = .int .i64 (j : Int) ∧ (∀ i, i < j → es[i]?.map (·.k) ≠ some k) ∧ Ext [] w wr) (fun i _ => es.length - (intOf i).toNat)
  case atStart => exact ⟨0, Nat.zero_le _, rfl, fun j hj => by omega, Ext.refl _ _⟩
  case round =>
    obtain ⟨j, hj, rfl, hno, x⟩ := hrel
    have HNO := Lib.hid hno
    clear hno
    by_cases hlt : j < es.length
    · obtain ⟨g, c', he, hc⟩ := HAT.out wr x j hlt
      cases he
      have HF := Lib.hid (HF1.out j hlt HNO.out)
      have HC := Lib.hid (HCL.out wr x j hlt)
      have HA := Lib.hid (show es[j]?.map (·.k) = some es[j].k by rw [List.getElem?_eq_getElem hlt]; rfl)
      generalize es[j] = y at *
      go_wp2_with fail
      refine HC.out.mono ?_
      rintro e w2 ⟨rfl, x2⟩
      clear HC
      have y2 := x.trans x2
      by_cases hq : y.k = k
      · have hfi := HFI.out
        rw [HF.out hq, if_pos hlt] at hfi
        subst hfi
        rw [decide_eq_true hq]
        clear HF hc
        go_wp2_with fail
        go_ret
        exact ⟨rfl, y2⟩
      · have HNO2 := Lib.hid (show ∀ i, i < j + 1 → es[i]?.map (·.k) ≠ some k from fun i hi => by
          by_cases h : i < j
          · exact HNO.out i h
          · obtain rfl : i = j := by omega
            rw [HA.out]
            simpa using hq)
        rw [decide_eq_false hq]
        clear HF hc
        go_wp2_with fail
        go_roundw
        case rel => exact ⟨j + 1, by omega, by go_num, HNO2.out, y2⟩
        case measure => simp [intOf]; omega
    · obtain rfl : j = es.length := by omega
      have hfi := HFI.out
      rw [HF2.out HNO.out, if_neg (Nat.lt_irrefl _)] at hfi
      subst hfi
      go_wp2_with fail
      go_ret
      exact ⟨rfl, x⟩
end Go.Proofs.YtbjkfgfiifnjoaaDoor
