/- The laws of layer 16: few, goes; CfgChecks. -/
import Derived.Test.YtooifaakflphpaaCfgJ
namespace Go.Proofs.Ytooifaakflphpaa
open Go.RowKit
set_option maxRecDepth 100000

section
variable {P : Program} (w : World)
theorem addr_zero (a : Addr) : a.add 0 = a := by
  obtain ⟨b, o, s⟩ := a
  unfold Addr.add
  split <;> simp_all
theorem run_slice_to (t e : TypeId) (i : TypeInfo) (ht : P.underlying t = some (.slice e)) (hi : P.info? e = some i) (a : Option Addr) (n c k : Nat) (hk : k ≤ c) :
    (Instr.sliceAt t (.slice a n c) none (some (.int .i64 (k : Int))) none).run P w = .ok (.slice a k c) w := by
  have hel : P.elem t = e := by simp [Program.elem, ht]
  have ht' : P.underlying t = some (.slice (P.elem t)) := by rw [hel]; exact ht
  rw [run_sliceAt_slice (P := P) w t _ none _ none ht', run_slice_h (P := P) w t a n c ht' .i64 (k : Int) (by omega) (by omega)]
  simp [sizeOf, typeInfo, hel, hi, sliced, Result.andThen]
  cases a with
  | none => simp
  | some a => simp [addr_zero]
end
theorem ins_take {w : World} {a : Option Addr} {n c k : Nat} {l : List Ins} (h : Reads w (.slice a n c) 5 l.length (insV l)) (hk : k ≤ l.length) : Reads w (.slice a k c) 5 (l.take k).length (insV (l.take k)) := by
  obtain ⟨ao, c', he, hl, hn, hc⟩ := h
  cases he
  refine ⟨a, c, by rw [List.length_take, Nat.min_eq_left hk], insV_length _, fun e => ?_, fun ad e j u hu => hc ad e j u ?_⟩
  · have := hn e
    rw [List.length_take]; omega
  · rw [insV_take, List.getElem?_take] at hu
    split at hu
    · exact hu
    · cases hu

/-- A row of instructions of the call's own, fresh. -/
def InsRow (w : World) (l : List Ins) (e : Ending) (w' : World) : Prop :=
  ∃ v, e = .returned v ∧ w'.ownsRow 0 31 5 v l.length (insV l) ∧ Ext [] w w' ∧ ∀ g, v.ownBlock = some g → w.heap.size ≤ g
theorem info_insnK : (Try.prog.info? 31).map (fun i => (i.zero, i.size, i.bytes)) = some (some (.agg #[.int .u8 0, .int .u8 0, .int .u8 0, .int .i16 0, .int .i32 0]), 5, 12) := by kernel_rfl

set_option maxHeartbeats 2000000 in
theorem cfew_any (v : Value) (l : List Ins) (w : World) (h : InsArg w v l) :
    Calls Try.prog 8 #[v] w (InsRow w (l.take 40)) := by
  obtain ⟨i1, hi, hz0, hz1, hz2⟩ := info_parts info_insnK
  obtain ⟨ao, c, rfl, hlc, hcm, hr⟩ := h
  obtain ⟨k, hk⟩ : ∃ k, k = min l.length 40 := ⟨_, rfl⟩
  have hkl : k ≤ l.length := by omega
  have hk40 : k ≤ 40 := by omega
  have htk : l.take 40 = l.take k := by
    rw [hk, Nat.min_comm]
    by_cases h : 40 ≤ l.length
    · rw [Nat.min_eq_left h]
    · rw [Nat.min_eq_right (by omega), List.take_of_length_le (by omega), List.take_length]
  rw [htk]
  have HT := Lib.hid (fun w' (x : Ext [] w w') => ins_take (hr.ext x) hkl)
  have hll : (l.take k).length = k := by rw [List.length_take]; omega
  have hmin : min (l.length : Int) 40 = (k : Int) := by omega
  have hsl := fun w' => run_slice_to (P := Try.prog) w' 22 31 i1 Try.underlying22 hi ao l.length c k (by omega)
  rw [hll] at HT
  have HLL := Lib.hid hll
  unfold maxLen at hcm
  have hl63 : l.length ≤ 9223372036854775807 := by omega
  clear hr htk hll hk
  generalize l.take k = lk at *
  go_enter Try.func8, Try.ntmps8
  go_wp2_with (at_builtin; go_must (refine wpList_app _ rfl (.tmp 3) (.tmp 8) 22 rfl 31 i1 _ 5 12 Try.underlying22 hi hz0 hz1 hz2 rfl (by decide) (.slice (some ⟨w.heap.size, 0, none⟩) 0 0) 0 [] rfl ((Blk.new w 31 #[]).owns rfl (Nat.zero_le _)) (.slice ao k c) k (insV lk) rfl (HT.out _ ((Ext.refl _ _).alloc _)) (insV_oneCell lk) (by unfold maxLen; omega) (by omega) ?_); intro v2 w2 hown2 hgrow2 hfr2 _)
  go_ret
  simp only [Nat.zero_add, List.nil_append] at hown2
  refine ⟨_, rfl, by rw [HLL.out]; exact hown2, ((Ext.refl [] w).alloc _).grown hgrow2 (by intro g hg; simp [Value.ownBlock] at hg; exact .inr (by omega)), ?_⟩
  intro g hg
  change v2.ownBlock = some g at hg
  rcases hfr2 with h | ⟨g', h, hle⟩
  · rw [h] at hg; simp [Value.ownBlock] at hg; omega
  · rw [h] at hg; obtain rfl := Option.some.inj hg; simp at hle; omega

def gA : Ins := ⟨183, 0, 0, 0, 0⟩
def gJ : Ins := ⟨5, 0, 0, -2, 0⟩
theorem goes_next : nxA [gA, gJ] 0 = [1] := by decide +kernel
theorem goes_t : checkC [gA, gJ] true = (0, 0) := by decide +kernel
theorem goes_f : checkC [gA, gJ] false = (0, 22) := by decide +kernel

set_option maxHeartbeats 2000000 in
theorem goes_any (w : World) :
    Calls Try.prog 13 #[] w fun e w' => e = .returned (.bool true) ∧ Ext [] w w' := by
  go_enter Try.func13, Try.ntmps13
  go_wp2_with fail
  have hrd : Reads (w.alloc (.cells (insV [gA, gJ]).toArray 31)) (.slice (some ⟨w.heap.size, 0, none⟩) 2 2) 5 [gA, gJ].length (insV [gA, gJ]) := blk_reads (Blk.new w 31 (insV [gA, gJ]).toArray) 2 rfl
  have x1 : Ext [] w (w.alloc (.cells (insV [gA, gJ]).toArray 31)) := (Ext.refl _ _).alloc _
  show Calls _ _ _ (w.alloc (.cells (insV [gA, gJ]).toArray 31)) _
  generalize w.alloc (.cells (insV [gA, gJ]).toArray 31) = w1 at *
  have HRD := Lib.hid (fun w' (x' : Ext [] w1 w') => hrd.ext x')
  clear hrd
  refine (next_any _ [gA, gJ] 0 w1 (HRD.out _ (Ext.refl _ _)) (by decide)).mono ?_
  rw [goes_next]
  rintro e w2 ⟨u, rfl, hown, x2, -⟩
  obtain ⟨g, c, cur, rfl, -, -, -, -, hc⟩ := ints_at w2 u [1] hown 0 (by simp)
  have HCE := Lib.hid (fun w' (x' : Ext [] w2 w') => (x'.cell (p := ⟨g, 0, none⟩) (World.block_lt_of_cell? w2 _ hc) (by simp)).trans hc)
  clear hown hc
  go_wp2_with fail
  refine (ccheck_any _ [gA, gJ] true w2 (HRD.out _ x2) (by decide)).mono ?_
  rw [goes_t]
  rintro e w3 ⟨rfl, x3⟩
  go_wp2_with fail
  refine (ccheck_any _ [gA, gJ] false w3 (HRD.out _ (x2.trans x3)) (by decide)).mono ?_
  rw [goes_f]
  rintro e w4 ⟨rfl, x4⟩
  have hc := HCE.out w4 (x3.trans x4)
  simp only [List.getD_cons_zero] at hc
  go_wp2_with fail
  go_ret
  exact ⟨rfl, x1.trans (x2.trans (x3.trans x4))⟩

set_option maxHeartbeats 4000000 in
theorem cfgchecks_walk (v : Value) (l0 : List Ins) (lp : Bool) (w : World) (h : InsArg w v l0) :
    Calls Try.prog 4 #[v, .bool lp] w fun e w' => e = .returned (.bool true) ∧ Ext [] w w' := by
  have HF := Lib.hid (cfew_any v l0 w h)
  obtain ⟨ao, c, rfl, -, -, -⟩ := h
  have hl : (l0.take 40).length ≤ 40 := by rw [List.length_take]; omega
  generalize l0.take 40 = l at *
  go_enter Try.func4, Try.ntmps4
  go_wp2_with fail
  refine HF.out.mono ?_
  rintro e w1 ⟨v1, rfl, hown, x1, -⟩
  have HRD := Lib.hid (fun w' (x' : Ext [] w1 w') => (owns_reads hown).ext x')
  obtain ⟨va, vc, rfl⟩ := owns_slice hown
  clear hown HF
  go_wp2_with fail
  refine (ccheck_any _ l lp w1 (HRD.out _ (Ext.refl _ _)) (by omega)).mono ?_
  rintro e w2 ⟨rfl, x2⟩
  go_wp2_with fail
  refine (rccheck_any _ l lp w2 (HRD.out _ x2) (by omega)).mono ?_
  rintro e w3 ⟨rfl, x3⟩
  have x13 := x2.trans x3
  generalize checkC l lp = R at *
  go_wp2_with fail
  refine (goes_any w3).mono ?_
  rintro e w4 ⟨rfl, x4⟩
  have x14 := x13.trans x4
  go_wp2_with fail
  refine (loops_any _ l w4 (HRD.out _ x14) (by omega)).mono ?_
  rintro e w5 ⟨rfl, x5⟩
  have x15 := x14.trans x5
  go_wp2_with fail
  refine (rloops_any _ l w5 (HRD.out _ x15) (by omega)).mono ?_
  rintro e w6 ⟨rfl, x6⟩
  go_wp2_with fail
  go_ret
  exact ⟨by simp, x1.trans (x15.trans x6)⟩
end Go.Proofs.Ytooifaakflphpaa
