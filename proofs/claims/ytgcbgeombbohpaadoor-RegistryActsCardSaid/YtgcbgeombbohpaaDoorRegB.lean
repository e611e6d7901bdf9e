/- Package registry: Len, Add, Has, Spend. -/
import Derived.Deep.RegionHeld3
import Derived.Test.YtgcbgeombbohpaaDoorRegA
namespace Go.Proofs.YtgcbgeombbohpaaDoor
open Go.RowKit
set_option maxRecDepth 100000

theorem rlen_any (b : Nat) (v : Value) (es : List RE) (w : World) (h : RegAt w b v es) :
    Calls Tryd.prog 14 #[.pointer (some ⟨b, 0, none⟩)] w fun e' w' => e' = .returned (.int .i64 (es.length : Int)) ∧ w = w' := by
  have hc := h.hd.cell 0
  obtain ⟨va, vc, rfl⟩ := owns_slice h.own
  clear h
  go_enter Tryd.func14, Tryd.ntmps14
  go_wp2
  go_ret
  exact ⟨rfl, rfl⟩
theorem rlen_nil (w : World) : Calls Tryd.prog 14 #[.pointer none] w fun e' w' => e' = .returned (.int .i64 0) ∧ w = w' := by
  go_enter Tryd.func14, Tryd.ntmps14
  go_wp2
  go_ret
  exact ⟨rfl, rfl⟩

set_option maxHeartbeats 4000000 in
theorem rhas_any (b : Nat) (v : Value) (es : List RE) (key : List UInt8) (w : World) (h : RegAt w b v es) (hn : es.length ≤ 1000) (hk : key.length = 32) :
    Calls Tryd.prog 15 #[.pointer (some ⟨b, 0, none⟩), .agg (bytesV key).toArray] w fun e' w' => e' = .returned (.bool (hasM es key)) ∧ Ext [] w w' := by
  have HF := Lib.hid (fun w' (x : Ext [] w w') => rfind_any b v es key w' (h.ext0 x) hn hk)
  have HR := Lib.hid (fun w' (x : Ext [] w w') => h.ext0 x)
  obtain ⟨va, vc, rfl⟩ := owns_slice h.own
  have HM := Lib.hid (show hasM es key = if findN es key < es.length then !(es.getD (findN es key) ([], false)).2 else false from rfl)
  have HI := Lib.hid (show findI es key = if findN es key < es.length then (findN es key : Int) else -1 from rfl)
  have hkl : (bytesV key).length = 32 := by rw [bytesV_length, hk]
  obtain ⟨kv, hkv⟩ : ∃ kv, kv = bytesV key := ⟨_, rfl⟩
  rw [← hkv] at HF hkl ⊢
  generalize hasM es key = R at *
  generalize findI es key = I at *
  generalize findN es key = N at *
  have hu3 := Tryd.underlying22
  have hsz2 : (Tryd.prog.info? 22).map (·.size) = some kv.length := by rw [hkl]; kernel_rfl
  clear h hkv hk
  go_enter Tryd.func15, Tryd.ntmps15
  go_upto_region 1 with (fail)
  show Code.wp _ _ _ _ (w.alloc (.cells kv.toArray 22))
  have BK : Blk (w.alloc (.cells kv.toArray 22)) w.heap.size 22 kv := Blk.new w _ kv.toArray
  have x1 : Ext [] w (w.alloc (.cells kv.toArray 22)) := (Ext.refl _ _).alloc _
  generalize w.alloc (.cells kv.toArray 22) = w1 at *
  go_wp2_with (with_reducible refine wpList_ldpart rfl 22 (.tmp 3) rfl w.heap.size 0 rfl kv _ BK.part hu3 rfl hsz2 ?_)
  refine (HF.out w1 x1).mono ?_
  rintro e w2 ⟨rfl, x2⟩
  have y2 := x1.trans x2
  have hR := HR.out w2 y2
  have hc := hR.hd.cell 0
  have hI := HI.out
  have hM := HM.out
  by_cases hN : N < es.length
  · rw [if_pos hN] at hI hM
    subst hI
    obtain ⟨g, c', cur, he, -, hcc, hcm, -, -⟩ := owns_some hR.own (by omega)
    cases he
    unfold maxLen at hcm
    have hp := hR.entry N hN
    have h32 : w2.cell? ⟨g, N * 33 + 32, none⟩ = some (.bool (es.getD N ([], false)).2) := by
      have hl := hR.len _ (List.getElem_mem hN)
      rw [hp 32 (by rw [entV_length _ hl]; omega)]
      have e1 : es.getD N ([], false) = es[N] := by simp [List.getD, hN]
      rw [e1]
      unfold entV
      rw [List.getElem?_append_right (by rw [bytesV_length, hl]; omega), bytesV_length, hl]; rfl
    generalize (es.getD N ([], false)).2 = B at *
    have HM2 := Lib.hid hM
    clear hp hR hM
    go_wp2_with fail
    go_ret
    exact ⟨by rw [HM2.out]; rfl, y2⟩
  · rw [if_neg hN] at hI hM
    subst hI hM
    clear hR
    go_wp2_with fail
    go_ret
    exact ⟨rfl, y2⟩
theorem rhas_nil (key : List UInt8) (w : World) : Calls Tryd.prog 15 #[.pointer none, .agg (bytesV key).toArray] w fun e' w' => e' = .returned (.bool false) ∧ Ext [] w w' := by
  generalize (bytesV key).toArray = kv
  go_enter Tryd.func15, Tryd.ntmps15
  go_wp2
  go_ret
  exact ⟨rfl, (Ext.refl _ _).alloc _⟩
theorem radd_nil (key : List UInt8) (w : World) : Calls Tryd.prog 9 #[.pointer none, .agg (bytesV key).toArray] w fun e' w' => e' = .returned (.int .i64 22) ∧ Ext [] w w' := by
  generalize (bytesV key).toArray = kv
  go_enter Tryd.func9, Tryd.ntmps9
  go_wp2
  go_ret
  exact ⟨rfl, (Ext.refl _ _).alloc _⟩
theorem rspend_nil (i : Int) (w : World) : Calls Tryd.prog 13 #[.pointer none, .int .i64 i] w fun e' w' => e' = .returned (.int .i64 22) ∧ w = w' := by
  go_enter Tryd.func13, Tryd.ntmps13
  go_wp2
  go_ret
  exact ⟨rfl, rfl⟩
theorem rnew_any (w : World) : Calls Tryd.prog 7 #[] w fun e' w' => ∃ b, e' = .returned (.pointer (some ⟨b, 0, none⟩)) ∧ RegAt w' b (.slice none 0 0) [] ∧ Ext [] w w' ∧ w.heap.size ≤ b := by
  go_enter Tryd.func7, Tryd.ntmps7
  go_wp2
  go_ret
  exact ⟨w.heap.size, rfl, ⟨Blk.new w _ #[_], World.ownsRow_nil _ _ _ _, by simp⟩, (Ext.refl _ _).alloc _, Nat.le_refl _⟩
end Go.Proofs.YtgcbgeombbohpaaDoor
