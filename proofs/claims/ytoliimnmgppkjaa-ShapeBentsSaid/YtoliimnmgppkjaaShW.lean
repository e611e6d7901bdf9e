/- The law ShapeBents: the walk. -/
import Derived.Test.YtoliimnmgppkjaaShQ
namespace Go.Proofs.Ytoliimnmgppkjaa
open Go.RowKit
set_option maxRecDepth 100000

/-- One field is another's. -/
def setF (f : Nat) (y x : Ins) : Ins :=
  if f = 0 then { y with op := x.op } else if f = 1 then { y with dst := x.dst } else if f = 2 then { y with src := x.src } else if f = 3 then { y with off := x.off } else { y with imm := x.imm }

theorem insV_setF : ∀ (l : List Ins) (k f : Nat) (x : Ins) (hk : k < l.length), f < 5 → (insV l).set (k * 5 + f) (x.cells.getD f undef) = insV (l.set k (setF f l[k] x))
  | y :: l, 0, f, x, _, hf => by
    have : f = 0 ∨ f = 1 ∨ f = 2 ∨ f = 3 ∨ f = 4 := by omega
    rcases this with rfl | rfl | rfl | rfl | rfl <;> simp [insV_cons, Ins.cells, setF]
  | y :: l, k + 1, f, x, hk, hf => by
    have ih := insV_setF l k f x (by simpa using hk) hf
    have e : (k + 1) * 5 + f - y.cells.length = k * 5 + f := by rw [cells_length]; omega
    simp only [List.set_cons_succ, List.getElem_cons_succ, insV_cons]
    rw [List.set_append_right _ _ (by rw [cells_length]; omega), e, ih]

set_option maxHeartbeats 8000000 in
set_option maxRecDepth 100000 in
theorem bents_walk (v : Value) (l0 : List Ins) (a1 : Int) (x : Ins) (w : World) (h : InsArg w v l0) :
    Calls Try.prog 4 #[v, .int .i64 a1, .agg x.cells.toArray] w fun e w' => e = .returned (.bool true) ∧ Ext [] w w' := by
  obtain ⟨i1, hi, hz0, hz1, hz2⟩ := info_parts info_insn
  have HA := Lib.hid (fun w' (x : Ext [] w w') => (h.ext x).cut 40)
  obtain ⟨aa, ac, rfl, hlac, hamax, -⟩ := h
  unfold maxLen at hamax
  obtain ⟨l, hlq⟩ : ∃ l, l = l0.take 40 := ⟨_, rfl⟩
  have hll : min l0.length 40 = l.length := by rw [hlq, List.length_take, Nat.min_comm]
  rw [← hlq, show cutI 40 (.slice aa l0.length ac) = .slice aa l.length ac by rw [← hll]; rfl] at HA
  have hl40 : l.length ≤ 40 := by omega
  have IFA := Lib.hid (show (if 40 < (l0.length : Int) then 40 else (l0.length : Int)) = (l.length : Int) by rw [← hll]; split <;> omega)
  have p1 : 0 ≤ (if 40 < (l0.length : Int) then 40 else (l0.length : Int)) := by split <;> omega
  have p2 : (if 40 < (l0.length : Int) then 40 else (l0.length : Int)) ≤ (ac : Int) := by split <;> omega
  have p3 : (if 40 < (l0.length : Int) then 40 else (l0.length : Int)).toNat ≤ 40 := by split <;> omega
  clear hlq hll
  simp only [Ins.cells]
  go_enter Try.func4, Try.ntmps4
  go_upto_region 1 with (fail)
  have BX := Blk.new w 26 #[.int .u8 (x.op.toNat : Int), .int .u8 (x.dst.toNat : Int), .int .u8 (x.src.toNat : Int), .int .i16 x.off.toInt, .int .i32 x.imm.toInt]
  have x1 : Ext [] w (w.alloc (.cells #[.int .u8 (x.op.toNat : Int), .int .u8 (x.dst.toNat : Int), .int .u8 (x.src.toNat : Int), .int .i16 x.off.toInt, .int .i32 x.imm.toInt] 26)) := (Ext.refl _ _).alloc _
  have hbl := BX.lt
  generalize w.alloc (.cells #[.int .u8 (x.op.toNat : Int), .int .u8 (x.dst.toNat : Int), .int .u8 (x.src.toNat : Int), .int .i16 x.off.toInt, .int .i32 x.imm.toInt] 26) = w1 at *
  have HA2 := Lib.hid (fun w' (x : Ext [] w1 w') => (show Reads w' (.slice aa (if 40 < (l0.length : Int) then 40 else (l0.length : Int)).toNat ac) 5 (if 40 < (l0.length : Int) then 40 else (l0.length : Int)).toNat (insV l) by rw [IFA.out, Int.toNat_natCast]; exact HA.out w' (x1.trans x)))
  clear HA
  go_upto_region 2 with (at_builtin; go_must (refine wpList_app _ rfl (.tmp 14) (.tmp 19) 22 rfl 26 i1 _ 5 12 Try.underlying22 hi hz0 hz1 hz2 rfl (by decide) (.slice (some ⟨w1.heap.size, 0, none⟩) 0 0) 0 [] rfl ((Blk.new w1 26 #[]).owns rfl (Nat.zero_le _)) _ _ (insV l) rfl (HA2.out _ ((Ext.refl [] w1).alloc _)) (insV_oneCell l) (by unfold maxLen; omega) (by omega) ?_); intro v2 w2 hown2 hgrow2 hfr2 _)
  rw [IFA.out] at hown2 ⊢
  simp only [Nat.zero_add, List.nil_append, Int.toNat_natCast] at hown2 ⊢
  have x12 : Ext [] w1 w2 := ((Ext.refl [] w1).alloc _).grown hgrow2 (by intro g hg; simp [Value.ownBlock] at hg; exact .inr (by omega))
  have BX := BX.ext x12 (by simp)
  have x2 := x1.trans x12
  obtain ⟨a2, c2, rfl⟩ := owns_slice hown2
  clear hgrow2 hfr2 p1 p2 p3 HA2 IFA hlac hamax x1 x12 hbl
  by_cases h0 : l.length = 0
  · have hb0 : ((l.length : Int) == 0) = true := by rw [beq_iff_eq]; omega
    go_wp2_with fail
    refine (forms_any w2).mono ?_
    rintro e w3 ⟨rfl, x3⟩
    go_wp2_with fail
    go_ret
    exact ⟨rfl, x2.trans x3⟩
  have hb0 : ((l.length : Int) == 0) = false := by rw [beq_eq_false_iff_ne]; omega
  obtain ⟨k, hk, hkl⟩ := mod_nat a1 l.length (by omega) (by omega)
  have HK := Lib.hid hk
  clear hk
  go_upto_region 5 with (fail)
  rw [HK.out]
  generalize (IntKind.u64.wrap a1).tmod (l.length : Int) = junk at *
  clear HK
  go_wp2_with fail
  go_loopw [8] (fun i wr => ∃ f : Nat, f ≤ 5 ∧ i = .int .i64 (f : Int) ∧ Ext [] w2 wr) (fun i _ => 5 - (intOf i).toNat)
  case atStart => exact ⟨0, by omega, rfl, Ext.refl _ _⟩
  case round =>
    obtain ⟨f, hf, rfl, xr⟩ := hrel
    by_cases h5 : f = 5
    · subst h5
      go_wp2_with fail
      refine (forms_any wr).mono ?_
      rintro e w6 ⟨rfl, x6⟩
      go_wp2_with fail
      go_ret
      exact ⟨rfl, x2.trans (xr.trans x6)⟩
    have hown := owns_ext hown2 xr (by simp)
    have BXr := BX.ext xr (by simp)
    go_upto_region 9 with (at_builtin; go_must (refine wpList_app _ rfl (.tmp 36) (.tmp 37) 22 rfl 26 i1 _ 5 12 Try.underlying22 hi hz0 hz1 hz2 rfl (by decide) (.slice (some ⟨wr.heap.size, 0, none⟩) 0 0) 0 [] rfl ((Blk.new wr 26 #[]).owns rfl (Nat.zero_le _)) (.slice a2 l.length c2) l.length (insV l) rfl (owns_reads (owns_ext hown ((Ext.refl [] wr).alloc _) (by simp))) (insV_oneCell l) (by unfold maxLen; omega) (by omega) ?_); intro v3 w3 hown3 hgrow3 hfr3 _)
    simp only [Nat.zero_add, List.nil_append] at hown3
    have x3 : Ext [] wr w3 := ((Ext.refl [] wr).alloc _).grown hgrow3 (by intro g hg; simp [Value.ownBlock] at hg; exact .inr (by omega))
    have BX3 := BXr.ext x3 (by simp)
    have fr3 : ∀ g, v3.ownBlock = some g → wr.heap.size ≤ g := by
      intro g hg
      rcases hfr3 with h | ⟨g', h, hle⟩
      · rw [h] at hg; simp [Value.ownBlock] at hg; omega
      · rw [h] at hg; obtain rfl := Option.some.inj hg; simp at hle; omega
    obtain ⟨g, oc3, cur3, he3, -, hoc3, hocm3, -, -⟩ := owns_some hown3 (by omega)
    subst he3
    have hg3 := fr3 g (by simp [Value.ownBlock])
    unfold maxLen at hocm3
    have e0 := BX3.cell 0
    have e1 := BX3.cell 1
    have e2 := BX3.cell 2
    have e3 := BX3.cell 3
    have e4 := BX3.cell 4
    simp only [List.getElem?_cons_zero, List.getElem?_cons_succ] at e0 e1 e2 e3 e4
    clear hgrow3 hfr3 fr3 hown BXr
    have hcl : ∀ j, j < 5 → w3.cell? ⟨g, k * 5 + j, none⟩ = (l[k]).cells[j]? := by
      intro i hi
      rw [hown3.cellAt (k * 5 + i) (by omega), insV_at _ k i hkl hi]
    have hfz := fun j => hown3.frozenAt (k * 5 + j)
    have hff : f = 0 ∨ f = 1 ∨ f = 2 ∨ f = 3 ∨ f = 4 := by omega
    rcases hff with rfl | rfl | rfl | rfl | rfl
    · have hc := hcl 0 (by omega)
      have hz := hfz 0
      have HS := Lib.hid (insV_setF l k 0 x hkl (by omega))
      have ho4 := (hown3.stored (k * 5 + 0) (.int .u8 (x.op.toNat : Int))).1
      rw [show (insV l).set (k * 5 + 0) (.int .u8 (x.op.toNat : Int)) = insV (l.set k (setF 0 l[k] x)) from HS.out] at ho4
      have x4 := x3.setCell (p := ⟨g, k * 5 + 0, none⟩) (.inr hg3) (.int .u8 (x.op.toNat : Int))
      have hlen : (l.set k (setF 0 l[k] x)).length = l.length := by simp
      generalize l.set k (setF 0 l[k] x) = m at *
      generalize l[k] = y at *
      simp only [Ins.cells, List.getElem?_cons_zero, Nat.add_zero] at hc hz
      clear hcl hfz HS
      go_upto_region 20 with (fail)
      generalize w3.setCell ⟨g, k * 5 + 0, none⟩ (.int .u8 (x.op.toNat : Int)) = w4 at *
      have hrd : Reads w4 (.slice (some ⟨g, 0, none⟩) l.length oc3) 5 m.length (insV m) := by rw [hlen]; exact owns_reads ho4
      clear ho4 hc hz e0 e1 e2 e3 e4 x3 BX3 hown3
      obtain ⟨C, hC⟩ : ∃ C, C = checkM m := ⟨_, rfl⟩
      have HC := Lib.hid (fun (u : Value) (w : World) hr hl => hC ▸ check_any u m w hr hl)
      have HRC := Lib.hid (fun (u : Value) (w : World) hr hl => hC ▸ rcheck_any u m w hr hl)
      clear hC
      obtain ⟨A, B⟩ := C
      have hA : ((A : Int) == (A : Int)) = true := beq_self_eq_true _
      have hB : ((B : Int) == (B : Int)) = true := beq_self_eq_true _
      go_wp2_with fail
      refine (HC.out _ w4 hrd (by omega)).mono ?_
      rintro e w5 ⟨rfl, x5⟩
      go_wp2_with fail
      refine (HRC.out _ w5 (hrd.ext x5) (by omega)).mono ?_
      rintro e w6 ⟨rfl, x6⟩
      go_wp2_with fail
      go_roundw
      case rel => exact ⟨1, by omega, by go_num, xr.trans (x4.trans (x5.trans x6))⟩
      case measure => simp [intOf]
    · have hc := hcl 1 (by omega)
      have hz := hfz 1
      have HS := Lib.hid (insV_setF l k 1 x hkl (by omega))
      have ho4 := (hown3.stored (k * 5 + 1) (.int .u8 (x.dst.toNat : Int))).1
      rw [show (insV l).set (k * 5 + 1) (.int .u8 (x.dst.toNat : Int)) = insV (l.set k (setF 1 l[k] x)) from HS.out] at ho4
      have x4 := x3.setCell (p := ⟨g, k * 5 + 1, none⟩) (.inr hg3) (.int .u8 (x.dst.toNat : Int))
      have hlen : (l.set k (setF 1 l[k] x)).length = l.length := by simp
      generalize l.set k (setF 1 l[k] x) = m at *
      generalize l[k] = y at *
      simp only [Ins.cells, List.getElem?_cons_zero, List.getElem?_cons_succ] at hc hz
      clear hcl hfz HS
      go_upto_region 20 with (fail)
      generalize w3.setCell ⟨g, k * 5 + 1, none⟩ (.int .u8 (x.dst.toNat : Int)) = w4 at *
      have hrd : Reads w4 (.slice (some ⟨g, 0, none⟩) l.length oc3) 5 m.length (insV m) := by rw [hlen]; exact owns_reads ho4
      clear ho4 hc hz e0 e1 e2 e3 e4 x3 BX3 hown3
      obtain ⟨C, hC⟩ : ∃ C, C = checkM m := ⟨_, rfl⟩
      have HC := Lib.hid (fun (u : Value) (w : World) hr hl => hC ▸ check_any u m w hr hl)
      have HRC := Lib.hid (fun (u : Value) (w : World) hr hl => hC ▸ rcheck_any u m w hr hl)
      clear hC
      obtain ⟨A, B⟩ := C
      have hA : ((A : Int) == (A : Int)) = true := beq_self_eq_true _
      have hB : ((B : Int) == (B : Int)) = true := beq_self_eq_true _
      go_wp2_with fail
      refine (HC.out _ w4 hrd (by omega)).mono ?_
      rintro e w5 ⟨rfl, x5⟩
      go_wp2_with fail
      refine (HRC.out _ w5 (hrd.ext x5) (by omega)).mono ?_
      rintro e w6 ⟨rfl, x6⟩
      go_wp2_with fail
      go_roundw
      case rel => exact ⟨2, by omega, by go_num, xr.trans (x4.trans (x5.trans x6))⟩
      case measure => simp [intOf]
    · have hc := hcl 2 (by omega)
      have hz := hfz 2
      have HS := Lib.hid (insV_setF l k 2 x hkl (by omega))
      have ho4 := (hown3.stored (k * 5 + 2) (.int .u8 (x.src.toNat : Int))).1
      rw [show (insV l).set (k * 5 + 2) (.int .u8 (x.src.toNat : Int)) = insV (l.set k (setF 2 l[k] x)) from HS.out] at ho4
      have x4 := x3.setCell (p := ⟨g, k * 5 + 2, none⟩) (.inr hg3) (.int .u8 (x.src.toNat : Int))
      have hlen : (l.set k (setF 2 l[k] x)).length = l.length := by simp
      generalize l.set k (setF 2 l[k] x) = m at *
      generalize l[k] = y at *
      simp only [Ins.cells, List.getElem?_cons_zero, List.getElem?_cons_succ] at hc hz
      clear hcl hfz HS
      go_upto_region 20 with (fail)
      generalize w3.setCell ⟨g, k * 5 + 2, none⟩ (.int .u8 (x.src.toNat : Int)) = w4 at *
      have hrd : Reads w4 (.slice (some ⟨g, 0, none⟩) l.length oc3) 5 m.length (insV m) := by rw [hlen]; exact owns_reads ho4
      clear ho4 hc hz e0 e1 e2 e3 e4 x3 BX3 hown3
      obtain ⟨C, hC⟩ : ∃ C, C = checkM m := ⟨_, rfl⟩
      have HC := Lib.hid (fun (u : Value) (w : World) hr hl => hC ▸ check_any u m w hr hl)
      have HRC := Lib.hid (fun (u : Value) (w : World) hr hl => hC ▸ rcheck_any u m w hr hl)
      clear hC
      obtain ⟨A, B⟩ := C
      have hA : ((A : Int) == (A : Int)) = true := beq_self_eq_true _
      have hB : ((B : Int) == (B : Int)) = true := beq_self_eq_true _
      go_wp2_with fail
      refine (HC.out _ w4 hrd (by omega)).mono ?_
      rintro e w5 ⟨rfl, x5⟩
      go_wp2_with fail
      refine (HRC.out _ w5 (hrd.ext x5) (by omega)).mono ?_
      rintro e w6 ⟨rfl, x6⟩
      go_wp2_with fail
      go_roundw
      case rel => exact ⟨3, by omega, by go_num, xr.trans (x4.trans (x5.trans x6))⟩
      case measure => simp [intOf]
    · have hc := hcl 3 (by omega)
      have hz := hfz 3
      have HS := Lib.hid (insV_setF l k 3 x hkl (by omega))
      have ho4 := (hown3.stored (k * 5 + 3) (.int .i16 x.off.toInt)).1
      rw [show (insV l).set (k * 5 + 3) (.int .i16 x.off.toInt) = insV (l.set k (setF 3 l[k] x)) from HS.out] at ho4
      have x4 := x3.setCell (p := ⟨g, k * 5 + 3, none⟩) (.inr hg3) (.int .i16 x.off.toInt)
      have hlen : (l.set k (setF 3 l[k] x)).length = l.length := by simp
      generalize l.set k (setF 3 l[k] x) = m at *
      generalize l[k] = y at *
      simp only [Ins.cells, List.getElem?_cons_zero, List.getElem?_cons_succ] at hc hz
      clear hcl hfz HS
      go_upto_region 20 with (fail)
      generalize w3.setCell ⟨g, k * 5 + 3, none⟩ (.int .i16 x.off.toInt) = w4 at *
      have hrd : Reads w4 (.slice (some ⟨g, 0, none⟩) l.length oc3) 5 m.length (insV m) := by rw [hlen]; exact owns_reads ho4
      clear ho4 hc hz e0 e1 e2 e3 e4 x3 BX3 hown3
      obtain ⟨C, hC⟩ : ∃ C, C = checkM m := ⟨_, rfl⟩
      have HC := Lib.hid (fun (u : Value) (w : World) hr hl => hC ▸ check_any u m w hr hl)
      have HRC := Lib.hid (fun (u : Value) (w : World) hr hl => hC ▸ rcheck_any u m w hr hl)
      clear hC
      obtain ⟨A, B⟩ := C
      have hA : ((A : Int) == (A : Int)) = true := beq_self_eq_true _
      have hB : ((B : Int) == (B : Int)) = true := beq_self_eq_true _
      go_wp2_with fail
      refine (HC.out _ w4 hrd (by omega)).mono ?_
      rintro e w5 ⟨rfl, x5⟩
      go_wp2_with fail
      refine (HRC.out _ w5 (hrd.ext x5) (by omega)).mono ?_
      rintro e w6 ⟨rfl, x6⟩
      go_wp2_with fail
      go_roundw
      case rel => exact ⟨4, by omega, by go_num, xr.trans (x4.trans (x5.trans x6))⟩
      case measure => simp [intOf]
    · have hc := hcl 4 (by omega)
      have hz := hfz 4
      have HS := Lib.hid (insV_setF l k 4 x hkl (by omega))
      have ho4 := (hown3.stored (k * 5 + 4) (.int .i32 x.imm.toInt)).1
      rw [show (insV l).set (k * 5 + 4) (.int .i32 x.imm.toInt) = insV (l.set k (setF 4 l[k] x)) from HS.out] at ho4
      have x4 := x3.setCell (p := ⟨g, k * 5 + 4, none⟩) (.inr hg3) (.int .i32 x.imm.toInt)
      have hlen : (l.set k (setF 4 l[k] x)).length = l.length := by simp
      generalize l.set k (setF 4 l[k] x) = m at *
      generalize l[k] = y at *
      simp only [Ins.cells, List.getElem?_cons_zero, List.getElem?_cons_succ] at hc hz
      clear hcl hfz HS
      go_upto_region 20 with (fail)
      generalize w3.setCell ⟨g, k * 5 + 4, none⟩ (.int .i32 x.imm.toInt) = w4 at *
      have hrd : Reads w4 (.slice (some ⟨g, 0, none⟩) l.length oc3) 5 m.length (insV m) := by rw [hlen]; exact owns_reads ho4
      clear ho4 hc hz e0 e1 e2 e3 e4 x3 BX3 hown3
      obtain ⟨C, hC⟩ : ∃ C, C = checkM m := ⟨_, rfl⟩
      have HC := Lib.hid (fun (u : Value) (w : World) hr hl => hC ▸ check_any u m w hr hl)
      have HRC := Lib.hid (fun (u : Value) (w : World) hr hl => hC ▸ rcheck_any u m w hr hl)
      clear hC
      obtain ⟨A, B⟩ := C
      have hA : ((A : Int) == (A : Int)) = true := beq_self_eq_true _
      have hB : ((B : Int) == (B : Int)) = true := beq_self_eq_true _
      go_wp2_with fail
      refine (HC.out _ w4 hrd (by omega)).mono ?_
      rintro e w5 ⟨rfl, x5⟩
      go_wp2_with fail
      refine (HRC.out _ w5 (hrd.ext x5) (by omega)).mono ?_
      rintro e w6 ⟨rfl, x6⟩
      go_wp2_with fail
      go_roundw
      case rel => exact ⟨5, by omega, by go_num, xr.trans (x4.trans (x5.trans x6))⟩
      case measure => simp [intOf]
end Go.Proofs.Ytoliimnmgppkjaa
