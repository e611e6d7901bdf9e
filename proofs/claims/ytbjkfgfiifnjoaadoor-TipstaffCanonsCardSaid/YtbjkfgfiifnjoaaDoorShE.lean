/- Package shape: one. (Printed by genone.py.) -/
import Derived.Test.YtbjkfgfiifnjoaaDoorShB
import Derived.Test.YtbjkfgfiifnjoaaDoorShD
import Derived.Test.YtbjkfgfiifnjoaaDoorHeld
namespace Go.Proofs.YtbjkfgfiifnjoaaDoor
open Go.RowKit
set_option maxRecDepth 100000

def prevM : Option Ins → Bool
  | none => false
  | some z => decide (kindM z = 9)
/-- An instruction in its own form, between its neighbours. -/
def oneX (x : Ins) (nxt prv : Option Ins) : Bool :=
  if (partsN x.op.toNat).kind = 0 then false
  else if plainM x (namedM (partsN x.op.toNat)) = false then false
  else if writesM (partsN x.op.toNat).kind = true ∧ x.dst.toNat = 10 then false
  else if (partsN x.op.toNat).kind = 1 then constM (partsN x.op.toNat) x.imm.toInt
  else if (partsN x.op.toNat).kind = 4 then decide (0 ≤ argsM x.imm.toInt)
  else if (partsN x.op.toNat).kind = 8 then atomicM x.imm.toInt
  else if (partsN x.op.toNat).kind = 9 then wideM x nxt
  else if (partsN x.op.toNat).kind = 10 then prevM prv
  else true
def prvOf (l : List Ins) (k : Nat) : Option Ins := if k = 0 then none else l[k - 1]?
def oneM (l : List Ins) (k : Nat) : Bool := match l[k]? with | none => false | some x => oneX x l[k + 1]? (prvOf l k)

set_option maxHeartbeats 16000000 in
set_option maxRecDepth 100000 in
theorem sone_any (v : Value) (l : List Ins) (k : Nat) (w : World) (hr : Reads w v 5 l.length (insV l)) (hk : k < l.length) (hl : l.length ≤ 100000) :
    Calls Tryd.prog 47 #[v, .int .i64 (k : Int)] w fun e w' => e = .returned (.bool (oneM l k)) ∧ Ext [] w w' := by
  have hRM : oneM l k = oneX l[k] l[k + 1]? (prvOf l k) := by unfold oneM; rw [List.getElem?_eq_getElem hk]
  rw [hRM]
  have HR := Lib.hid (fun (h0 : 0 < l.length) ao c (he : v = .slice ao l.length c) => ins_lit (he ▸ hr) h0)
  have HWD := Lib.hid (fun w' (h : Ext [] w w') => wide_any v l k w' (hr.ext h) hk hl)
  obtain ⟨ao, c, rfl, -, -, -⟩ := hr
  obtain ⟨bb, oo, rfl, hbb, hcells⟩ := HR.out (by omega) ao c rfl
  have HCA := Lib.hid hcells
  have hc := fun j (hj : j < 5) => hcells k hk j hj
  have HPV := Lib.hid (show prvOf l k = if k = 0 then none else l[k - 1]? from rfl)
  clear hcells HR hRM
  generalize prvOf l k = prv at *
  generalize l[k + 1]? = nxt at *
  generalize l[k] = x at *
  have c0 := hc 0 (by omega)
  have c1 := hc 1 (by omega)
  have c2 := hc 2 (by omega)
  have c3 := hc 3 (by omega)
  have c4 := hc 4 (by omega)
  simp only [Ins.cells, List.getElem?_cons_zero, List.getElem?_cons_succ, Nat.add_zero] at c0 c1 c2 c3 c4
  clear hc
  have hof := Lib.hid (fun w' => of_any x.op.toNat x.op.toNat_lt w')
  have HM := Lib.hid (show oneX x nxt prv = (if (partsN x.op.toNat).kind = 0 then false else if plainM x (namedM (partsN x.op.toNat)) = false then false else if writesM (partsN x.op.toNat).kind = true ∧ x.dst.toNat = 10 then false else if (partsN x.op.toNat).kind = 1 then constM (partsN x.op.toNat) x.imm.toInt else if (partsN x.op.toNat).kind = 4 then decide (0 ≤ argsM x.imm.toInt) else if (partsN x.op.toNat).kind = 8 then atomicM x.imm.toInt else if (partsN x.op.toNat).kind = 9 then wideM x nxt else if (partsN x.op.toNat).kind = 10 then prevM prv else true) from rfl)
  generalize oneX x nxt prv = R at *
  have HNA := Lib.hid (fun w' => named_any (partsN x.op.toNat) w')
  have HPL := Lib.hid (fun f w' => plain_any x f w')
  have HCO := Lib.hid (fun w' => constant_any (partsN x.op.toNat) x.imm.toInt w')
  generalize partsN x.op.toNat = p at *
  obtain ⟨fld, hfld⟩ : ∃ fld, fld = namedM p := ⟨_, rfl⟩
  rw [← hfld] at HNA HM
  have HPL := Lib.hid (fun w' => HPL.out fld w')
  have HPB := Lib.hid (show ∃ b, b = plainM x fld from ⟨_, rfl⟩)
  clear hfld
  obtain ⟨kind, op, size, long, reg⟩ := p
  obtain ⟨fd, fs, fo, fi⟩ := fld
  simp only [Prt.cells, Fld.cells, Ins.cells] at hof HNA HPL HCO
  simp only at HM
  generalize plainM x ⟨fd, fs, fo, fi⟩ = pl at *
  clear HPB
  go_enter Tryd.func47, Tryd.ntmps47
  go_wp2_with fail
  have BX0 := Blk.new w 25 #[.int .u8 (x.op.toNat : Int), .int .u8 (x.dst.toNat : Int), .int .u8 (x.src.toNat : Int), .int .i16 x.off.toInt, .int .i32 x.imm.toInt]
  have x1 : Ext [] w (w.alloc (.cells #[.int .u8 (x.op.toNat : Int), .int .u8 (x.dst.toNat : Int), .int .u8 (x.src.toNat : Int), .int .i16 x.off.toInt, .int .i32 x.imm.toInt] 25)) := (Ext.refl _ _).alloc _
  generalize w.alloc (.cells #[.int .u8 (x.op.toNat : Int), .int .u8 (x.dst.toNat : Int), .int .u8 (x.src.toNat : Int), .int .i16 x.off.toInt, .int .i32 x.imm.toInt] 25) = w1 at *
  refine (hof.out w1).mono ?_
  rintro e w2 ⟨rfl, x12⟩
  have BX2 := BX0.ext x12 (by simp)
  have x2 := x1.trans x12
  clear BX0 x1 x12 c0 c1 c2 c3 c4
  go_upto_region 3 with (fail)
  have BP := Blk.new w2 169 #[.int .i64 (kind : Int), .int .i64 (op : Int), .int .i64 (size : Int), .bool long, .bool reg]
  have x23 : Ext [] w2 (w2.alloc (.cells #[.int .i64 (kind : Int), .int .i64 (op : Int), .int .i64 (size : Int), .bool long, .bool reg] 169)) := (Ext.refl _ _).alloc _
  have BX := BX2.ext x23 (by simp)
  have x3 := x2.trans x23
  obtain ⟨bx, hbx⟩ : ∃ b, b = w.heap.size := ⟨_, rfl⟩
  obtain ⟨bp, hbp⟩ : ∃ b, b = w2.heap.size := ⟨_, rfl⟩
  rw [← hbx] at BX ⊢
  rw [← hbp] at BP ⊢
  show Code.wp _ _ _ _ (w2.alloc (.cells #[.int .i64 (kind : Int), .int .i64 (op : Int), .int .i64 (size : Int), .bool long, .bool reg] 169))
  clear hbx hbp BX2 x23 x2
  generalize w2.alloc (.cells #[.int .i64 (kind : Int), .int .i64 (op : Int), .int .i64 (size : Int), .bool long, .bool reg] 169) = w3 at *
  have HB := Lib.hid (fun w' (h : Ext [] w3 w') => (show w'.cell? ⟨bx, 0, none⟩ = some (.int .u8 (x.op.toNat : Int)) ∧ w'.cell? ⟨bx, 1, none⟩ = some (.int .u8 (x.dst.toNat : Int)) ∧ w'.cell? ⟨bx, 2, none⟩ = some (.int .u8 (x.src.toNat : Int)) ∧ w'.cell? ⟨bx, 3, none⟩ = some (.int .i16 x.off.toInt) ∧ w'.cell? ⟨bx, 4, none⟩ = some (.int .i32 x.imm.toInt) ∧
      w'.cell? ⟨bp, 0, none⟩ = some (.int .i64 (kind : Int)) ∧ w'.cell? ⟨bp, 1, none⟩ = some (.int .i64 (op : Int)) ∧ w'.cell? ⟨bp, 2, none⟩ = some (.int .i64 (size : Int)) ∧ w'.cell? ⟨bp, 3, none⟩ = some (.bool long) ∧ w'.cell? ⟨bp, 4, none⟩ = some (.bool reg) from
    ⟨(BX.ext h (by simp)).cell 0, (BX.ext h (by simp)).cell 1, (BX.ext h (by simp)).cell 2, (BX.ext h (by simp)).cell 3, (BX.ext h (by simp)).cell 4, (BP.ext h (by simp)).cell 0, (BP.ext h (by simp)).cell 1, (BP.ext h (by simp)).cell 2, (BP.ext h (by simp)).cell 3, (BP.ext h (by simp)).cell 4⟩))
  have CN := Lib.hid (fun w' (h : Ext [] w3 w') => (HNA.out w').mono (fun e w'' ⟨he, hx'⟩ => (show e = Ending.returned (.agg #[.bool fd, .bool fs, .bool fo, .bool fi]) ∧ Ext [] w3 w'' from ⟨he, h.trans hx'⟩)))
  have CP := Lib.hid (fun w' (h : Ext [] w3 w') => (HPL.out w').mono (fun e w'' ⟨he, hx'⟩ => (show e = Ending.returned (.bool pl) ∧ Ext [] w3 w'' from ⟨he, h.trans hx'⟩)))
  have CW := Lib.hid (fun w' (h : Ext [] w3 w') => (writes_any kind w').mono (fun e w'' ⟨he, hx'⟩ => (show e = Ending.returned (.bool (writesM kind)) ∧ Ext [] w3 w'' from ⟨he, hx' ▸ h⟩)))
  have hstart : Ext [] w3 w3.drew := (Ext.refl _ _).drew
  clear BX BP HNA HPL
  by_cases hk0 : kind = 0
  · subst hk0
    have HR0 := Lib.hid (show R = false by rw [HM.out, if_pos rfl])
    clear HM
    refine wp_region_held_drew (S := fun w' => Ext [] w3 w') (by kernel_rfl) hstart (fun _ => ?_)
    refine wpAnyH_take (i := 0) (oi := ⟨some 16, _, _, _, _, _⟩) (v := ?_) rfl (by kernel_rfl) (by kernel_rfl) (by kernel_rfl) (fun _ _ _ h => h) (Or.inl ⟨by rfl, ?_⟩) (by assumption) ?_
    rotate_left 1
    · (intro w hSw; (try dsimp only at hSw); go_split_ands; obtain ⟨c0, c1, c2, c3, c4, d0, d1, d2, d3, d4⟩ := HB.out w (by assumption); go_simp; (try with_reducible rfl))
    try simp only [Act.put, List.setIfInBounds_toArray, List.set_cons_zero, List.set_cons_succ]
    refine wpAnyH_take (i := 1) (oi := ⟨some 17, _, _, _, _, _⟩) (v := ?_) rfl (by kernel_rfl) (by kernel_rfl) (by kernel_rfl) (fun _ _ _ h => h) (Or.inl ⟨by rfl, ?_⟩) (by assumption) ?_
    rotate_left 1
    · (intro w hSw; (try dsimp only at hSw); go_split_ands; obtain ⟨c0, c1, c2, c3, c4, d0, d1, d2, d3, d4⟩ := HB.out w (by assumption); go_simp; (try with_reducible rfl))
    try simp only [Act.put, List.setIfInBounds_toArray, List.set_cons_zero, List.set_cons_succ]
    refine wpAnyH_take (i := 2) (oi := ⟨some 18, _, _, _, _, _⟩) (v := ?_) rfl (by kernel_rfl) (by kernel_rfl) (by kernel_rfl) (fun _ _ _ h => h) (Or.inl ⟨by rfl, ?_⟩) (by assumption) ?_
    rotate_left 1
    · (intro w hSw; (try dsimp only at hSw); go_split_ands; obtain ⟨c0, c1, c2, c3, c4, d0, d1, d2, d3, d4⟩ := HB.out w (by assumption); go_simp; (try with_reducible rfl))
    try simp only [Act.put, List.setIfInBounds_toArray, List.set_cons_zero, List.set_cons_succ]
    refine wpAnyH_take (i := 3) (oi := ⟨some 19, _, _, _, _, _⟩) (v := ?_) rfl (by kernel_rfl) (by kernel_rfl) (by kernel_rfl) (fun _ _ _ h => h) (Or.inl ⟨by rfl, ?_⟩) (by assumption) ?_
    rotate_left 1
    · (intro w hSw; (try dsimp only at hSw); go_split_ands; obtain ⟨c0, c1, c2, c3, c4, d0, d1, d2, d3, d4⟩ := HB.out w (by assumption); go_simp; (try with_reducible rfl))
    try simp only [Act.put, List.setIfInBounds_toArray, List.set_cons_zero, List.set_cons_succ]
    refine wpAnyH_take (i := 4) (oi := ⟨some 20, _, _, _, _, _⟩) (v := _) rfl (by kernel_rfl) (by kernel_rfl) (by kernel_rfl) (fun _ _ _ h => h) (Or.inr ⟨by rfl, rfl⟩) (by assumption) ?_
    try simp only [Act.put, List.setIfInBounds_toArray, List.set_cons_zero, List.set_cons_succ]
    refine wpAnyH_take (i := 5) (oi := ⟨some 21, _, _, _, _, _⟩) (v := _) rfl (by kernel_rfl) (by kernel_rfl) (by kernel_rfl) (fun _ _ _ h => h) (Or.inr ⟨by rfl, rfl⟩) (by assumption) ?_
    try simp only [Act.put, List.setIfInBounds_toArray, List.set_cons_zero, List.set_cons_succ]
    refine wpAnyH_ready (rs := [6]) (by kernel_rfl) (by simp) ?_
    refine AllReadyH.cons (o := ⟨some 22, _, _, _, _, _⟩) rfl (fun K hK => ?_) AllReadyH.nil
    go_simp
    refine hK.out _ _ (by assumption) (fun _ => ?_)
    clear hK K
    try simp only [Act.put, List.setIfInBounds_toArray, List.set_cons_zero, List.set_cons_succ]
    refine wpAnyH_ready (rs := [7]) (by kernel_rfl) (by simp) ?_
    refine AllReadyH.cons (o := ⟨some 23, _, _, _, _, _⟩) rfl (fun K hK => ?_) AllReadyH.nil
    go_simp
    refine hK.out _ _ (by assumption) (fun _ => ?_)
    clear hK K
    try simp only [Act.put, List.setIfInBounds_toArray, List.set_cons_zero, List.set_cons_succ]
    refine wpAnyH_take (i := 8) (oi := ⟨some 24, _, _, _, _, _⟩) (v := _) rfl (by kernel_rfl) (by kernel_rfl) (by kernel_rfl) (fun _ _ _ h => h) (Or.inr ⟨by rfl, rfl⟩) (by assumption) ?_
    try simp only [Act.put, List.setIfInBounds_toArray, List.set_cons_zero, List.set_cons_succ]
    refine wpAnyH_take (i := 9) (oi := ⟨some 25, _, _, _, _, _⟩) (v := ?_) rfl (by kernel_rfl) (by kernel_rfl) (by kernel_rfl) (fun _ _ _ h => h) (Or.inl ⟨by rfl, ?_⟩) (by assumption) ?_
    rotate_left 1
    · (intro w hSw; (try dsimp only at hSw); go_split_ands; obtain ⟨c0, c1, c2, c3, c4, d0, d1, d2, d3, d4⟩ := HB.out w (by assumption); go_simp; (try with_reducible rfl))
    try simp only [Act.put, List.setIfInBounds_toArray, List.set_cons_zero, List.set_cons_succ]
    refine wpAnyH_take (i := 10) (oi := ⟨some 26, _, _, _, _, _⟩) (v := ?_) rfl (by kernel_rfl) (by kernel_rfl) (by kernel_rfl) (fun _ _ _ h => h) (Or.inl ⟨by rfl, ?_⟩) (by assumption) ?_
    rotate_left 1
    · (intro w hSw; (try dsimp only at hSw); go_split_ands; obtain ⟨c0, c1, c2, c3, c4, d0, d1, d2, d3, d4⟩ := HB.out w (by assumption); go_simp; (try with_reducible rfl))
    try simp only [Act.put, List.setIfInBounds_toArray, List.set_cons_zero, List.set_cons_succ]
    refine wpAnyH_take (i := 11) (oi := ⟨some 27, _, _, _, _, _⟩) (v := _) rfl (by kernel_rfl) (by kernel_rfl) (by kernel_rfl) (fun _ _ _ h => h) (Or.inr ⟨by rfl, rfl⟩) (by assumption) ?_
    try simp only [Act.put, List.setIfInBounds_toArray, List.set_cons_zero, List.set_cons_succ]
    refine wpAnyH_take (i := 12) (oi := ⟨some 28, _, _, _, _, _⟩) (v := _) rfl (by kernel_rfl) (by kernel_rfl) (by kernel_rfl) (fun _ _ _ h => h) (Or.inr ⟨by rfl, rfl⟩) (by assumption) ?_
    try simp only [Act.put, List.setIfInBounds_toArray, List.set_cons_zero, List.set_cons_succ]
    refine wpAnyH_ready (rs := [13]) (by kernel_rfl) (by simp) ?_
    refine AllReadyH.cons (o := ⟨some 29, _, _, _, _, _⟩) rfl (fun K hK => ?_) AllReadyH.nil
    go_simp
    refine hK.out _ _ (by assumption) (fun _ => ?_)
    clear hK K
    try simp only [Act.put, List.setIfInBounds_toArray, List.set_cons_zero, List.set_cons_succ]
    refine wpAnyH_take (i := 14) (oi := ⟨some 30, _, _, _, _, _⟩) (v := _) rfl (by kernel_rfl) (by kernel_rfl) (by kernel_rfl) (fun _ _ _ h => h) (Or.inr ⟨by rfl, rfl⟩) (by assumption) ?_
    try simp only [Act.put, List.setIfInBounds_toArray, List.set_cons_zero, List.set_cons_succ]
    refine wpAnyH_take (i := 15) (oi := ⟨some 31, _, _, _, _, _⟩) (v := _) rfl (by kernel_rfl) (by kernel_rfl) (by kernel_rfl) (fun _ _ _ h => h) (Or.inr ⟨by rfl, rfl⟩) (by assumption) ?_
    try simp only [Act.put, List.setIfInBounds_toArray, List.set_cons_zero, List.set_cons_succ]
    refine wpAnyH_take (i := 16) (oi := ⟨some 32, _, _, _, _, _⟩) (v := _) rfl (by kernel_rfl) (by kernel_rfl) (by kernel_rfl) (fun _ _ _ h => h) (Or.inr ⟨by rfl, rfl⟩) (by assumption) ?_
    try simp only [Act.put, List.setIfInBounds_toArray, List.set_cons_zero, List.set_cons_succ]
    refine wpAnyH_take (i := 17) (oi := ⟨some 33, _, _, _, _, _⟩) (v := _) rfl (by kernel_rfl) (by kernel_rfl) (by kernel_rfl) (fun _ _ _ h => h) (Or.inr ⟨by rfl, rfl⟩) (by assumption) ?_
    try simp only [Act.put, List.setIfInBounds_toArray, List.set_cons_zero, List.set_cons_succ]
    refine wpAnyH_take (i := 18) (oi := ⟨some 34, _, _, _, _, _⟩) (v := _) rfl (by kernel_rfl) (by kernel_rfl) (by kernel_rfl) (fun _ _ _ h => h) (Or.inr ⟨by rfl, rfl⟩) (by assumption) ?_
    try simp only [Act.put, List.setIfInBounds_toArray, List.set_cons_zero, List.set_cons_succ]
    refine wpAnyH_take (i := 19) (oi := ⟨some 35, _, _, _, _, _⟩) (v := ?_) rfl (by kernel_rfl) (by kernel_rfl) (by kernel_rfl) (fun _ _ _ h => h) (Or.inl ⟨by rfl, ?_⟩) (by assumption) ?_
    rotate_left 1
    · (intro w hSw; (try dsimp only at hSw); go_split_ands; obtain ⟨c0, c1, c2, c3, c4, d0, d1, d2, d3, d4⟩ := HB.out w (by assumption); go_simp; (try with_reducible rfl))
    try simp only [Act.put, List.setIfInBounds_toArray, List.set_cons_zero, List.set_cons_succ]
    refine wpAnyH_done (by kernel_rfl) ?_ _
    go_wp2_with fail
    go_ret
    exact ⟨by rw [HR0.out]; rfl, x3.trans (by assumption)⟩
  have q0 : ((kind : Int) == 0) = false := by rw [beq_eq_false_iff_ne]; omega
  cases pl
  · have HR0 := Lib.hid (show R = false by rw [HM.out, if_neg hk0, if_pos rfl])
    clear HM
    refine wp_region_held_drew (S := fun w' => Ext [] w3 w') (by kernel_rfl) hstart (fun _ => ?_)
    refine wpAnyH_take (i := 0) (oi := ⟨some 16, _, _, _, _, _⟩) (v := ?_) rfl (by kernel_rfl) (by kernel_rfl) (by kernel_rfl) (fun _ _ _ h => h) (Or.inl ⟨by rfl, ?_⟩) (by assumption) ?_
    rotate_left 1
    · (intro w hSw; (try dsimp only at hSw); go_split_ands; obtain ⟨c0, c1, c2, c3, c4, d0, d1, d2, d3, d4⟩ := HB.out w (by assumption); go_simp; (try with_reducible rfl))
    try simp only [Act.put, List.setIfInBounds_toArray, List.set_cons_zero, List.set_cons_succ]
    refine wpAnyH_take (i := 1) (oi := ⟨some 17, _, _, _, _, _⟩) (v := ?_) rfl (by kernel_rfl) (by kernel_rfl) (by kernel_rfl) (fun _ _ _ h => h) (Or.inl ⟨by rfl, ?_⟩) (by assumption) ?_
    rotate_left 1
    · (intro w hSw; (try dsimp only at hSw); go_split_ands; obtain ⟨c0, c1, c2, c3, c4, d0, d1, d2, d3, d4⟩ := HB.out w (by assumption); go_simp; (try with_reducible rfl))
    try simp only [Act.put, List.setIfInBounds_toArray, List.set_cons_zero, List.set_cons_succ]
    refine wpAnyH_take (i := 2) (oi := ⟨some 18, _, _, _, _, _⟩) (v := ?_) rfl (by kernel_rfl) (by kernel_rfl) (by kernel_rfl) (fun _ _ _ h => h) (Or.inl ⟨by rfl, ?_⟩) (by assumption) ?_
    rotate_left 1
    · (intro w hSw; (try dsimp only at hSw); go_split_ands; obtain ⟨c0, c1, c2, c3, c4, d0, d1, d2, d3, d4⟩ := HB.out w (by assumption); go_simp; (try with_reducible rfl))
    try simp only [Act.put, List.setIfInBounds_toArray, List.set_cons_zero, List.set_cons_succ]
    refine wpAnyH_take (i := 3) (oi := ⟨some 19, _, _, _, _, _⟩) (v := ?_) rfl (by kernel_rfl) (by kernel_rfl) (by kernel_rfl) (fun _ _ _ h => h) (Or.inl ⟨by rfl, ?_⟩) (by assumption) ?_
    rotate_left 1
    · (intro w hSw; (try dsimp only at hSw); go_split_ands; obtain ⟨c0, c1, c2, c3, c4, d0, d1, d2, d3, d4⟩ := HB.out w (by assumption); go_simp; (try with_reducible rfl))
    try simp only [Act.put, List.setIfInBounds_toArray, List.set_cons_zero, List.set_cons_succ]
    refine wpAnyH_take (i := 4) (oi := ⟨some 20, _, _, _, _, _⟩) (v := ?_) rfl (by kernel_rfl) (by kernel_rfl) (by kernel_rfl) (fun _ _ _ h => h) (Or.inl ⟨by rfl, ?_⟩) (by assumption) ?_
    rotate_left 1
    · (intro w hSw; (try dsimp only at hSw); go_split_ands; obtain ⟨c0, c1, c2, c3, c4, d0, d1, d2, d3, d4⟩ := HB.out w (by assumption); go_simp; (try with_reducible rfl))
    try simp only [Act.put, List.setIfInBounds_toArray, List.set_cons_zero, List.set_cons_succ]
    refine wpAnyH_take (i := 5) (oi := ⟨some 21, _, _, _, _, _⟩) (v := ?_) rfl (by kernel_rfl) (by kernel_rfl) (by kernel_rfl) (fun _ _ _ h => h) (Or.inl ⟨by rfl, ?_⟩) (by assumption) ?_
    rotate_left 1
    · (intro w hSw; (try dsimp only at hSw); go_split_ands; obtain ⟨c0, c1, c2, c3, c4, d0, d1, d2, d3, d4⟩ := HB.out w (by assumption); go_simp; (try with_reducible rfl))
    try simp only [Act.put, List.setIfInBounds_toArray, List.set_cons_zero, List.set_cons_succ]
    refine wpAnyH_ready (rs := [6]) (by kernel_rfl) (by simp) ?_
    refine AllReadyH.cons (o := ⟨some 22, _, _, _, _, _⟩) rfl (fun K hK => ?_) AllReadyH.nil
    go_simp
    refine (CN.out _ (by assumption)).mono ?_
    rintro e w22 ⟨rfl, hk22⟩
    go_simp
    refine hK.out _ _ (by assumption) (fun _ => ?_)
    clear hK K
    try simp only [Act.put, List.setIfInBounds_toArray, List.set_cons_zero, List.set_cons_succ]
    refine wpAnyH_ready (rs := [7]) (by kernel_rfl) (by simp) ?_
    refine AllReadyH.cons (o := ⟨some 23, _, _, _, _, _⟩) rfl (fun K hK => ?_) AllReadyH.nil
    go_simp
    refine (CP.out _ (by assumption)).mono ?_
    rintro e w23 ⟨rfl, hk23⟩
    go_simp
    refine hK.out _ _ (by assumption) (fun _ => ?_)
    clear hK K
    try simp only [Act.put, List.setIfInBounds_toArray, List.set_cons_zero, List.set_cons_succ]
    refine wpAnyH_take (i := 8) (oi := ⟨some 24, _, _, _, _, _⟩) (v := ?_) rfl (by kernel_rfl) (by kernel_rfl) (by kernel_rfl) (fun _ _ _ h => h) (Or.inl ⟨by rfl, ?_⟩) (by assumption) ?_
    rotate_left 1
    · (intro w hSw; (try dsimp only at hSw); go_split_ands; obtain ⟨c0, c1, c2, c3, c4, d0, d1, d2, d3, d4⟩ := HB.out w (by assumption); go_simp; (try with_reducible rfl))
    try simp only [Act.put, List.setIfInBounds_toArray, List.set_cons_zero, List.set_cons_succ]
    refine wpAnyH_take (i := 9) (oi := ⟨some 25, _, _, _, _, _⟩) (v := ?_) rfl (by kernel_rfl) (by kernel_rfl) (by kernel_rfl) (fun _ _ _ h => h) (Or.inl ⟨by rfl, ?_⟩) (by assumption) ?_
    rotate_left 1
    · (intro w hSw; (try dsimp only at hSw); go_split_ands; obtain ⟨c0, c1, c2, c3, c4, d0, d1, d2, d3, d4⟩ := HB.out w (by assumption); go_simp; (try with_reducible rfl))
    try simp only [Act.put, List.setIfInBounds_toArray, List.set_cons_zero, List.set_cons_succ]
    refine wpAnyH_take (i := 10) (oi := ⟨some 26, _, _, _, _, _⟩) (v := ?_) rfl (by kernel_rfl) (by kernel_rfl) (by kernel_rfl) (fun _ _ _ h => h) (Or.inl ⟨by rfl, ?_⟩) (by assumption) ?_
    rotate_left 1
    · (intro w hSw; (try dsimp only at hSw); go_split_ands; obtain ⟨c0, c1, c2, c3, c4, d0, d1, d2, d3, d4⟩ := HB.out w (by assumption); go_simp; (try with_reducible rfl))
    try simp only [Act.put, List.setIfInBounds_toArray, List.set_cons_zero, List.set_cons_succ]
    refine wpAnyH_take (i := 11) (oi := ⟨some 27, _, _, _, _, _⟩) (v := _) rfl (by kernel_rfl) (by kernel_rfl) (by kernel_rfl) (fun _ _ _ h => h) (Or.inr ⟨by rfl, rfl⟩) (by assumption) ?_
    try simp only [Act.put, List.setIfInBounds_toArray, List.set_cons_zero, List.set_cons_succ]
    refine wpAnyH_take (i := 12) (oi := ⟨some 28, _, _, _, _, _⟩) (v := _) rfl (by kernel_rfl) (by kernel_rfl) (by kernel_rfl) (fun _ _ _ h => h) (Or.inr ⟨by rfl, rfl⟩) (by assumption) ?_
    try simp only [Act.put, List.setIfInBounds_toArray, List.set_cons_zero, List.set_cons_succ]
    refine wpAnyH_ready (rs := [13]) (by kernel_rfl) (by simp) ?_
    refine AllReadyH.cons (o := ⟨some 29, _, _, _, _, _⟩) rfl (fun K hK => ?_) AllReadyH.nil
    go_simp
    refine hK.out _ _ (by assumption) (fun _ => ?_)
    clear hK K
    try simp only [Act.put, List.setIfInBounds_toArray, List.set_cons_zero, List.set_cons_succ]
    refine wpAnyH_take (i := 14) (oi := ⟨some 30, _, _, _, _, _⟩) (v := _) rfl (by kernel_rfl) (by kernel_rfl) (by kernel_rfl) (fun _ _ _ h => h) (Or.inr ⟨by rfl, rfl⟩) (by assumption) ?_
    try simp only [Act.put, List.setIfInBounds_toArray, List.set_cons_zero, List.set_cons_succ]
    refine wpAnyH_take (i := 15) (oi := ⟨some 31, _, _, _, _, _⟩) (v := _) rfl (by kernel_rfl) (by kernel_rfl) (by kernel_rfl) (fun _ _ _ h => h) (Or.inr ⟨by rfl, rfl⟩) (by assumption) ?_
    try simp only [Act.put, List.setIfInBounds_toArray, List.set_cons_zero, List.set_cons_succ]
    refine wpAnyH_take (i := 16) (oi := ⟨some 32, _, _, _, _, _⟩) (v := _) rfl (by kernel_rfl) (by kernel_rfl) (by kernel_rfl) (fun _ _ _ h => h) (Or.inr ⟨by rfl, rfl⟩) (by assumption) ?_
    try simp only [Act.put, List.setIfInBounds_toArray, List.set_cons_zero, List.set_cons_succ]
    refine wpAnyH_take (i := 17) (oi := ⟨some 33, _, _, _, _, _⟩) (v := _) rfl (by kernel_rfl) (by kernel_rfl) (by kernel_rfl) (fun _ _ _ h => h) (Or.inr ⟨by rfl, rfl⟩) (by assumption) ?_
    try simp only [Act.put, List.setIfInBounds_toArray, List.set_cons_zero, List.set_cons_succ]
    refine wpAnyH_take (i := 18) (oi := ⟨some 34, _, _, _, _, _⟩) (v := _) rfl (by kernel_rfl) (by kernel_rfl) (by kernel_rfl) (fun _ _ _ h => h) (Or.inr ⟨by rfl, rfl⟩) (by assumption) ?_
    try simp only [Act.put, List.setIfInBounds_toArray, List.set_cons_zero, List.set_cons_succ]
    refine wpAnyH_take (i := 19) (oi := ⟨some 35, _, _, _, _, _⟩) (v := ?_) rfl (by kernel_rfl) (by kernel_rfl) (by kernel_rfl) (fun _ _ _ h => h) (Or.inl ⟨by rfl, ?_⟩) (by assumption) ?_
    rotate_left 1
    · (intro w hSw; (try dsimp only at hSw); go_split_ands; obtain ⟨c0, c1, c2, c3, c4, d0, d1, d2, d3, d4⟩ := HB.out w (by assumption); go_simp; (try with_reducible rfl))
    try simp only [Act.put, List.setIfInBounds_toArray, List.set_cons_zero, List.set_cons_succ]
    refine wpAnyH_done (by kernel_rfl) ?_ _
    go_wp2_with fail
    go_ret
    exact ⟨by rw [HR0.out]; rfl, x3.trans (by assumption)⟩
  by_cases hw10 : writesM kind = true ∧ x.dst.toNat = 10
  · obtain ⟨hw, h10⟩ := hw10
    have HR0 := Lib.hid (show R = false by rw [HM.out, if_neg hk0, if_neg (by simp), if_pos ⟨hw, h10⟩])
    rw [hw] at CW
    have q10 : ((x.dst.toNat : Int) == 10) = true := by rw [beq_iff_eq]; omega
    clear HM h10
    refine wp_region_held_drew (S := fun w' => Ext [] w3 w') (by kernel_rfl) hstart (fun _ => ?_)
    refine wpAnyH_take (i := 0) (oi := ⟨some 16, _, _, _, _, _⟩) (v := ?_) rfl (by kernel_rfl) (by kernel_rfl) (by kernel_rfl) (fun _ _ _ h => h) (Or.inl ⟨by rfl, ?_⟩) (by assumption) ?_
    rotate_left 1
    · (intro w hSw; (try dsimp only at hSw); go_split_ands; obtain ⟨c0, c1, c2, c3, c4, d0, d1, d2, d3, d4⟩ := HB.out w (by assumption); go_simp; (try with_reducible rfl))
    try simp only [Act.put, List.setIfInBounds_toArray, List.set_cons_zero, List.set_cons_succ]
    refine wpAnyH_take (i := 1) (oi := ⟨some 17, _, _, _, _, _⟩) (v := ?_) rfl (by kernel_rfl) (by kernel_rfl) (by kernel_rfl) (fun _ _ _ h => h) (Or.inl ⟨by rfl, ?_⟩) (by assumption) ?_
    rotate_left 1
    · (intro w hSw; (try dsimp only at hSw); go_split_ands; obtain ⟨c0, c1, c2, c3, c4, d0, d1, d2, d3, d4⟩ := HB.out w (by assumption); go_simp; (try with_reducible rfl))
    try simp only [Act.put, List.setIfInBounds_toArray, List.set_cons_zero, List.set_cons_succ]
    refine wpAnyH_take (i := 2) (oi := ⟨some 18, _, _, _, _, _⟩) (v := ?_) rfl (by kernel_rfl) (by kernel_rfl) (by kernel_rfl) (fun _ _ _ h => h) (Or.inl ⟨by rfl, ?_⟩) (by assumption) ?_
    rotate_left 1
    · (intro w hSw; (try dsimp only at hSw); go_split_ands; obtain ⟨c0, c1, c2, c3, c4, d0, d1, d2, d3, d4⟩ := HB.out w (by assumption); go_simp; (try with_reducible rfl))
    try simp only [Act.put, List.setIfInBounds_toArray, List.set_cons_zero, List.set_cons_succ]
    refine wpAnyH_take (i := 3) (oi := ⟨some 19, _, _, _, _, _⟩) (v := ?_) rfl (by kernel_rfl) (by kernel_rfl) (by kernel_rfl) (fun _ _ _ h => h) (Or.inl ⟨by rfl, ?_⟩) (by assumption) ?_
    rotate_left 1
    · (intro w hSw; (try dsimp only at hSw); go_split_ands; obtain ⟨c0, c1, c2, c3, c4, d0, d1, d2, d3, d4⟩ := HB.out w (by assumption); go_simp; (try with_reducible rfl))
    try simp only [Act.put, List.setIfInBounds_toArray, List.set_cons_zero, List.set_cons_succ]
    refine wpAnyH_take (i := 4) (oi := ⟨some 20, _, _, _, _, _⟩) (v := ?_) rfl (by kernel_rfl) (by kernel_rfl) (by kernel_rfl) (fun _ _ _ h => h) (Or.inl ⟨by rfl, ?_⟩) (by assumption) ?_
    rotate_left 1
    · (intro w hSw; (try dsimp only at hSw); go_split_ands; obtain ⟨c0, c1, c2, c3, c4, d0, d1, d2, d3, d4⟩ := HB.out w (by assumption); go_simp; (try with_reducible rfl))
    try simp only [Act.put, List.setIfInBounds_toArray, List.set_cons_zero, List.set_cons_succ]
    refine wpAnyH_take (i := 5) (oi := ⟨some 21, _, _, _, _, _⟩) (v := ?_) rfl (by kernel_rfl) (by kernel_rfl) (by kernel_rfl) (fun _ _ _ h => h) (Or.inl ⟨by rfl, ?_⟩) (by assumption) ?_
    rotate_left 1
    · (intro w hSw; (try dsimp only at hSw); go_split_ands; obtain ⟨c0, c1, c2, c3, c4, d0, d1, d2, d3, d4⟩ := HB.out w (by assumption); go_simp; (try with_reducible rfl))
    try simp only [Act.put, List.setIfInBounds_toArray, List.set_cons_zero, List.set_cons_succ]
    refine wpAnyH_ready (rs := [6]) (by kernel_rfl) (by simp) ?_
    refine AllReadyH.cons (o := ⟨some 22, _, _, _, _, _⟩) rfl (fun K hK => ?_) AllReadyH.nil
    go_simp
    refine (CN.out _ (by assumption)).mono ?_
    rintro e w22 ⟨rfl, hk22⟩
    go_simp
    refine hK.out _ _ (by assumption) (fun _ => ?_)
    clear hK K
    try simp only [Act.put, List.setIfInBounds_toArray, List.set_cons_zero, List.set_cons_succ]
    refine wpAnyH_ready (rs := [7]) (by kernel_rfl) (by simp) ?_
    refine AllReadyH.cons (o := ⟨some 23, _, _, _, _, _⟩) rfl (fun K hK => ?_) AllReadyH.nil
    go_simp
    refine (CP.out _ (by assumption)).mono ?_
    rintro e w23 ⟨rfl, hk23⟩
    go_simp
    refine hK.out _ _ (by assumption) (fun _ => ?_)
    clear hK K
    try simp only [Act.put, List.setIfInBounds_toArray, List.set_cons_zero, List.set_cons_succ]
    refine wpAnyH_take (i := 8) (oi := ⟨some 24, _, _, _, _, _⟩) (v := ?_) rfl (by kernel_rfl) (by kernel_rfl) (by kernel_rfl) (fun _ _ _ h => h) (Or.inl ⟨by rfl, ?_⟩) (by assumption) ?_
    rotate_left 1
    · (intro w hSw; (try dsimp only at hSw); go_split_ands; obtain ⟨c0, c1, c2, c3, c4, d0, d1, d2, d3, d4⟩ := HB.out w (by assumption); go_simp; (try with_reducible rfl))
    try simp only [Act.put, List.setIfInBounds_toArray, List.set_cons_zero, List.set_cons_succ]
    refine wpAnyH_take (i := 9) (oi := ⟨some 25, _, _, _, _, _⟩) (v := ?_) rfl (by kernel_rfl) (by kernel_rfl) (by kernel_rfl) (fun _ _ _ h => h) (Or.inl ⟨by rfl, ?_⟩) (by assumption) ?_
    rotate_left 1
    · (intro w hSw; (try dsimp only at hSw); go_split_ands; obtain ⟨c0, c1, c2, c3, c4, d0, d1, d2, d3, d4⟩ := HB.out w (by assumption); go_simp; (try with_reducible rfl))
    try simp only [Act.put, List.setIfInBounds_toArray, List.set_cons_zero, List.set_cons_succ]
    refine wpAnyH_take (i := 10) (oi := ⟨some 26, _, _, _, _, _⟩) (v := ?_) rfl (by kernel_rfl) (by kernel_rfl) (by kernel_rfl) (fun _ _ _ h => h) (Or.inl ⟨by rfl, ?_⟩) (by assumption) ?_
    rotate_left 1
    · (intro w hSw; (try dsimp only at hSw); go_split_ands; obtain ⟨c0, c1, c2, c3, c4, d0, d1, d2, d3, d4⟩ := HB.out w (by assumption); go_simp; (try with_reducible rfl))
    try simp only [Act.put, List.setIfInBounds_toArray, List.set_cons_zero, List.set_cons_succ]
    refine wpAnyH_take (i := 11) (oi := ⟨some 27, _, _, _, _, _⟩) (v := ?_) rfl (by kernel_rfl) (by kernel_rfl) (by kernel_rfl) (fun _ _ _ h => h) (Or.inl ⟨by rfl, ?_⟩) (by assumption) ?_
    rotate_left 1
    · (intro w hSw; (try dsimp only at hSw); go_split_ands; obtain ⟨c0, c1, c2, c3, c4, d0, d1, d2, d3, d4⟩ := HB.out w (by assumption); go_simp; (try with_reducible rfl))
    try simp only [Act.put, List.setIfInBounds_toArray, List.set_cons_zero, List.set_cons_succ]
    refine wpAnyH_take (i := 12) (oi := ⟨some 28, _, _, _, _, _⟩) (v := ?_) rfl (by kernel_rfl) (by kernel_rfl) (by kernel_rfl) (fun _ _ _ h => h) (Or.inl ⟨by rfl, ?_⟩) (by assumption) ?_
    rotate_left 1
    · (intro w hSw; (try dsimp only at hSw); go_split_ands; obtain ⟨c0, c1, c2, c3, c4, d0, d1, d2, d3, d4⟩ := HB.out w (by assumption); go_simp; (try with_reducible rfl))
    try simp only [Act.put, List.setIfInBounds_toArray, List.set_cons_zero, List.set_cons_succ]
    refine wpAnyH_ready (rs := [13]) (by kernel_rfl) (by simp) ?_
    refine AllReadyH.cons (o := ⟨some 29, _, _, _, _, _⟩) rfl (fun K hK => ?_) AllReadyH.nil
    go_simp
    refine (CW.out _ (by assumption)).mono ?_
    rintro e w29 ⟨rfl, hk29⟩
    go_simp
    refine hK.out _ _ (by assumption) (fun _ => ?_)
    clear hK K
    try simp only [Act.put, List.setIfInBounds_toArray, List.set_cons_zero, List.set_cons_succ]
    refine wpAnyH_take (i := 14) (oi := ⟨some 30, _, _, _, _, _⟩) (v := ?_) rfl (by kernel_rfl) (by kernel_rfl) (by kernel_rfl) (fun _ _ _ h => h) (Or.inl ⟨by rfl, ?_⟩) (by assumption) ?_
    rotate_left 1
    · (intro w hSw; (try dsimp only at hSw); go_split_ands; obtain ⟨c0, c1, c2, c3, c4, d0, d1, d2, d3, d4⟩ := HB.out w (by assumption); go_simp; (try with_reducible rfl))
    try simp only [Act.put, List.setIfInBounds_toArray, List.set_cons_zero, List.set_cons_succ]
    refine wpAnyH_take (i := 15) (oi := ⟨some 31, _, _, _, _, _⟩) (v := ?_) rfl (by kernel_rfl) (by kernel_rfl) (by kernel_rfl) (fun _ _ _ h => h) (Or.inl ⟨by rfl, ?_⟩) (by assumption) ?_
    rotate_left 1
    · (intro w hSw; (try dsimp only at hSw); go_split_ands; obtain ⟨c0, c1, c2, c3, c4, d0, d1, d2, d3, d4⟩ := HB.out w (by assumption); go_simp; (try with_reducible rfl))
    try simp only [Act.put, List.setIfInBounds_toArray, List.set_cons_zero, List.set_cons_succ]
    refine wpAnyH_take (i := 16) (oi := ⟨some 32, _, _, _, _, _⟩) (v := ?_) rfl (by kernel_rfl) (by kernel_rfl) (by kernel_rfl) (fun _ _ _ h => h) (Or.inl ⟨by rfl, ?_⟩) (by assumption) ?_
    rotate_left 1
    · (intro w hSw; (try dsimp only at hSw); go_split_ands; obtain ⟨c0, c1, c2, c3, c4, d0, d1, d2, d3, d4⟩ := HB.out w (by assumption); go_simp; (try with_reducible rfl))
    try simp only [Act.put, List.setIfInBounds_toArray, List.set_cons_zero, List.set_cons_succ]
    refine wpAnyH_take (i := 17) (oi := ⟨some 33, _, _, _, _, _⟩) (v := ?_) rfl (by kernel_rfl) (by kernel_rfl) (by kernel_rfl) (fun _ _ _ h => h) (Or.inl ⟨by rfl, ?_⟩) (by assumption) ?_
    rotate_left 1
    · (intro w hSw; (try dsimp only at hSw); go_split_ands; obtain ⟨c0, c1, c2, c3, c4, d0, d1, d2, d3, d4⟩ := HB.out w (by assumption); go_simp; (try with_reducible rfl))
    try simp only [Act.put, List.setIfInBounds_toArray, List.set_cons_zero, List.set_cons_succ]
    refine wpAnyH_take (i := 18) (oi := ⟨some 34, _, _, _, _, _⟩) (v := ?_) rfl (by kernel_rfl) (by kernel_rfl) (by kernel_rfl) (fun _ _ _ h => h) (Or.inl ⟨by rfl, ?_⟩) (by assumption) ?_
    rotate_left 1
    · (intro w hSw; (try dsimp only at hSw); go_split_ands; obtain ⟨c0, c1, c2, c3, c4, d0, d1, d2, d3, d4⟩ := HB.out w (by assumption); go_simp; (try with_reducible rfl))
    try simp only [Act.put, List.setIfInBounds_toArray, List.set_cons_zero, List.set_cons_succ]
    refine wpAnyH_take (i := 19) (oi := ⟨some 35, _, _, _, _, _⟩) (v := ?_) rfl (by kernel_rfl) (by kernel_rfl) (by kernel_rfl) (fun _ _ _ h => h) (Or.inl ⟨by rfl, ?_⟩) (by assumption) ?_
    rotate_left 1
    · (intro w hSw; (try dsimp only at hSw); go_split_ands; obtain ⟨c0, c1, c2, c3, c4, d0, d1, d2, d3, d4⟩ := HB.out w (by assumption); go_simp; (try with_reducible rfl))
    try simp only [Act.put, List.setIfInBounds_toArray, List.set_cons_zero, List.set_cons_succ]
    refine wpAnyH_done (by kernel_rfl) ?_ _
    go_wp2_with fail
    go_ret
    exact ⟨by rw [HR0.out]; rfl, x3.trans (by assumption)⟩
  have HR1 := Lib.hid (show R = (if kind = 1 then constM ⟨kind, op, size, long, reg⟩ x.imm.toInt else if kind = 4 then decide (0 ≤ argsM x.imm.toInt) else if kind = 8 then atomicM x.imm.toInt else if kind = 9 then wideM x nxt else if kind = 10 then prevM prv else true) by rw [HM.out, if_neg hk0, if_neg (by simp), if_neg hw10])
  clear HM
  by_cases hw : writesM kind = true
  · rw [hw] at CW
    have q10 : ((x.dst.toNat : Int) == 10) = false := by rw [beq_eq_false_iff_ne]; intro h; exact hw10 ⟨hw, by omega⟩
    have hkk : kind = 1 ∨ kind = 9 ∨ (kind ≠ 1 ∧ kind ≠ 4 ∧ kind ≠ 8 ∧ kind ≠ 9 ∧ kind ≠ 10) := by
      unfold writesM at hw
      simp only [Bool.or_eq_true, decide_eq_true_eq] at hw
      omega
    clear hw10 hw
    refine wp_region_held_drew (S := fun w' => Ext [] w3 w') (by kernel_rfl) hstart (fun _ => ?_)
    refine wpAnyH_take (i := 0) (oi := ⟨some 16, _, _, _, _, _⟩) (v := ?_) rfl (by kernel_rfl) (by kernel_rfl) (by kernel_rfl) (fun _ _ _ h => h) (Or.inl ⟨by rfl, ?_⟩) (by assumption) ?_
    rotate_left 1
    · (intro w hSw; (try dsimp only at hSw); go_split_ands; obtain ⟨c0, c1, c2, c3, c4, d0, d1, d2, d3, d4⟩ := HB.out w (by assumption); go_simp; (try with_reducible rfl))
    try simp only [Act.put, List.setIfInBounds_toArray, List.set_cons_zero, List.set_cons_succ]
    refine wpAnyH_take (i := 1) (oi := ⟨some 17, _, _, _, _, _⟩) (v := ?_) rfl (by kernel_rfl) (by kernel_rfl) (by kernel_rfl) (fun _ _ _ h => h) (Or.inl ⟨by rfl, ?_⟩) (by assumption) ?_
    rotate_left 1
    · (intro w hSw; (try dsimp only at hSw); go_split_ands; obtain ⟨c0, c1, c2, c3, c4, d0, d1, d2, d3, d4⟩ := HB.out w (by assumption); go_simp; (try with_reducible rfl))
    try simp only [Act.put, List.setIfInBounds_toArray, List.set_cons_zero, List.set_cons_succ]
    refine wpAnyH_take (i := 2) (oi := ⟨some 18, _, _, _, _, _⟩) (v := ?_) rfl (by kernel_rfl) (by kernel_rfl) (by kernel_rfl) (fun _ _ _ h => h) (Or.inl ⟨by rfl, ?_⟩) (by assumption) ?_
    rotate_left 1
    · (intro w hSw; (try dsimp only at hSw); go_split_ands; obtain ⟨c0, c1, c2, c3, c4, d0, d1, d2, d3, d4⟩ := HB.out w (by assumption); go_simp; (try with_reducible rfl))
    try simp only [Act.put, List.setIfInBounds_toArray, List.set_cons_zero, List.set_cons_succ]
    refine wpAnyH_take (i := 3) (oi := ⟨some 19, _, _, _, _, _⟩) (v := ?_) rfl (by kernel_rfl) (by kernel_rfl) (by kernel_rfl) (fun _ _ _ h => h) (Or.inl ⟨by rfl, ?_⟩) (by assumption) ?_
    rotate_left 1
    · (intro w hSw; (try dsimp only at hSw); go_split_ands; obtain ⟨c0, c1, c2, c3, c4, d0, d1, d2, d3, d4⟩ := HB.out w (by assumption); go_simp; (try with_reducible rfl))
    try simp only [Act.put, List.setIfInBounds_toArray, List.set_cons_zero, List.set_cons_succ]
    refine wpAnyH_take (i := 4) (oi := ⟨some 20, _, _, _, _, _⟩) (v := ?_) rfl (by kernel_rfl) (by kernel_rfl) (by kernel_rfl) (fun _ _ _ h => h) (Or.inl ⟨by rfl, ?_⟩) (by assumption) ?_
    rotate_left 1
    · (intro w hSw; (try dsimp only at hSw); go_split_ands; obtain ⟨c0, c1, c2, c3, c4, d0, d1, d2, d3, d4⟩ := HB.out w (by assumption); go_simp; (try with_reducible rfl))
    try simp only [Act.put, List.setIfInBounds_toArray, List.set_cons_zero, List.set_cons_succ]
    refine wpAnyH_take (i := 5) (oi := ⟨some 21, _, _, _, _, _⟩) (v := ?_) rfl (by kernel_rfl) (by kernel_rfl) (by kernel_rfl) (fun _ _ _ h => h) (Or.inl ⟨by rfl, ?_⟩) (by assumption) ?_
    rotate_left 1
    · (intro w hSw; (try dsimp only at hSw); go_split_ands; obtain ⟨c0, c1, c2, c3, c4, d0, d1, d2, d3, d4⟩ := HB.out w (by assumption); go_simp; (try with_reducible rfl))
    try simp only [Act.put, List.setIfInBounds_toArray, List.set_cons_zero, List.set_cons_succ]
    refine wpAnyH_ready (rs := [6]) (by kernel_rfl) (by simp) ?_
    refine AllReadyH.cons (o := ⟨some 22, _, _, _, _, _⟩) rfl (fun K hK => ?_) AllReadyH.nil
    go_simp
    refine (CN.out _ (by assumption)).mono ?_
    rintro e w22 ⟨rfl, hk22⟩
    go_simp
    refine hK.out _ _ (by assumption) (fun _ => ?_)
    clear hK K
    try simp only [Act.put, List.setIfInBounds_toArray, List.set_cons_zero, List.set_cons_succ]
    refine wpAnyH_ready (rs := [7]) (by kernel_rfl) (by simp) ?_
    refine AllReadyH.cons (o := ⟨some 23, _, _, _, _, _⟩) rfl (fun K hK => ?_) AllReadyH.nil
    go_simp
    refine (CP.out _ (by assumption)).mono ?_
    rintro e w23 ⟨rfl, hk23⟩
    go_simp
    refine hK.out _ _ (by assumption) (fun _ => ?_)
    clear hK K
    try simp only [Act.put, List.setIfInBounds_toArray, List.set_cons_zero, List.set_cons_succ]
    refine wpAnyH_take (i := 8) (oi := ⟨some 24, _, _, _, _, _⟩) (v := ?_) rfl (by kernel_rfl) (by kernel_rfl) (by kernel_rfl) (fun _ _ _ h => h) (Or.inl ⟨by rfl, ?_⟩) (by assumption) ?_
    rotate_left 1
    · (intro w hSw; (try dsimp only at hSw); go_split_ands; obtain ⟨c0, c1, c2, c3, c4, d0, d1, d2, d3, d4⟩ := HB.out w (by assumption); go_simp; (try with_reducible rfl))
    try simp only [Act.put, List.setIfInBounds_toArray, List.set_cons_zero, List.set_cons_succ]
    refine wpAnyH_take (i := 9) (oi := ⟨some 25, _, _, _, _, _⟩) (v := ?_) rfl (by kernel_rfl) (by kernel_rfl) (by kernel_rfl) (fun _ _ _ h => h) (Or.inl ⟨by rfl, ?_⟩) (by assumption) ?_
    rotate_left 1
    · (intro w hSw; (try dsimp only at hSw); go_split_ands; obtain ⟨c0, c1, c2, c3, c4, d0, d1, d2, d3, d4⟩ := HB.out w (by assumption); go_simp; (try with_reducible rfl))
    try simp only [Act.put, List.setIfInBounds_toArray, List.set_cons_zero, List.set_cons_succ]
    refine wpAnyH_take (i := 10) (oi := ⟨some 26, _, _, _, _, _⟩) (v := ?_) rfl (by kernel_rfl) (by kernel_rfl) (by kernel_rfl) (fun _ _ _ h => h) (Or.inl ⟨by rfl, ?_⟩) (by assumption) ?_
    rotate_left 1
    · (intro w hSw; (try dsimp only at hSw); go_split_ands; obtain ⟨c0, c1, c2, c3, c4, d0, d1, d2, d3, d4⟩ := HB.out w (by assumption); go_simp; (try with_reducible rfl))
    try simp only [Act.put, List.setIfInBounds_toArray, List.set_cons_zero, List.set_cons_succ]
    refine wpAnyH_take (i := 11) (oi := ⟨some 27, _, _, _, _, _⟩) (v := ?_) rfl (by kernel_rfl) (by kernel_rfl) (by kernel_rfl) (fun _ _ _ h => h) (Or.inl ⟨by rfl, ?_⟩) (by assumption) ?_
    rotate_left 1
    · (intro w hSw; (try dsimp only at hSw); go_split_ands; obtain ⟨c0, c1, c2, c3, c4, d0, d1, d2, d3, d4⟩ := HB.out w (by assumption); go_simp; (try with_reducible rfl))
    try simp only [Act.put, List.setIfInBounds_toArray, List.set_cons_zero, List.set_cons_succ]
    refine wpAnyH_take (i := 12) (oi := ⟨some 28, _, _, _, _, _⟩) (v := ?_) rfl (by kernel_rfl) (by kernel_rfl) (by kernel_rfl) (fun _ _ _ h => h) (Or.inl ⟨by rfl, ?_⟩) (by assumption) ?_
    rotate_left 1
    · (intro w hSw; (try dsimp only at hSw); go_split_ands; obtain ⟨c0, c1, c2, c3, c4, d0, d1, d2, d3, d4⟩ := HB.out w (by assumption); go_simp; (try with_reducible rfl))
    try simp only [Act.put, List.setIfInBounds_toArray, List.set_cons_zero, List.set_cons_succ]
    refine wpAnyH_ready (rs := [13]) (by kernel_rfl) (by simp) ?_
    refine AllReadyH.cons (o := ⟨some 29, _, _, _, _, _⟩) rfl (fun K hK => ?_) AllReadyH.nil
    go_simp
    refine (CW.out _ (by assumption)).mono ?_
    rintro e w29 ⟨rfl, hk29⟩
    go_simp
    refine hK.out _ _ (by assumption) (fun _ => ?_)
    clear hK K
    try simp only [Act.put, List.setIfInBounds_toArray, List.set_cons_zero, List.set_cons_succ]
    refine wpAnyH_take (i := 14) (oi := ⟨some 30, _, _, _, _, _⟩) (v := ?_) rfl (by kernel_rfl) (by kernel_rfl) (by kernel_rfl) (fun _ _ _ h => h) (Or.inl ⟨by rfl, ?_⟩) (by assumption) ?_
    rotate_left 1
    · (intro w hSw; (try dsimp only at hSw); go_split_ands; obtain ⟨c0, c1, c2, c3, c4, d0, d1, d2, d3, d4⟩ := HB.out w (by assumption); go_simp; (try with_reducible rfl))
    try simp only [Act.put, List.setIfInBounds_toArray, List.set_cons_zero, List.set_cons_succ]
    refine wpAnyH_take (i := 15) (oi := ⟨some 31, _, _, _, _, _⟩) (v := ?_) rfl (by kernel_rfl) (by kernel_rfl) (by kernel_rfl) (fun _ _ _ h => h) (Or.inl ⟨by rfl, ?_⟩) (by assumption) ?_
    rotate_left 1
    · (intro w hSw; (try dsimp only at hSw); go_split_ands; obtain ⟨c0, c1, c2, c3, c4, d0, d1, d2, d3, d4⟩ := HB.out w (by assumption); go_simp; (try with_reducible rfl))
    try simp only [Act.put, List.setIfInBounds_toArray, List.set_cons_zero, List.set_cons_succ]
    refine wpAnyH_take (i := 16) (oi := ⟨some 32, _, _, _, _, _⟩) (v := ?_) rfl (by kernel_rfl) (by kernel_rfl) (by kernel_rfl) (fun _ _ _ h => h) (Or.inl ⟨by rfl, ?_⟩) (by assumption) ?_
    rotate_left 1
    · (intro w hSw; (try dsimp only at hSw); go_split_ands; obtain ⟨c0, c1, c2, c3, c4, d0, d1, d2, d3, d4⟩ := HB.out w (by assumption); go_simp; (try with_reducible rfl))
    try simp only [Act.put, List.setIfInBounds_toArray, List.set_cons_zero, List.set_cons_succ]
    refine wpAnyH_take (i := 17) (oi := ⟨some 33, _, _, _, _, _⟩) (v := ?_) rfl (by kernel_rfl) (by kernel_rfl) (by kernel_rfl) (fun _ _ _ h => h) (Or.inl ⟨by rfl, ?_⟩) (by assumption) ?_
    rotate_left 1
    · (intro w hSw; (try dsimp only at hSw); go_split_ands; obtain ⟨c0, c1, c2, c3, c4, d0, d1, d2, d3, d4⟩ := HB.out w (by assumption); go_simp; (try with_reducible rfl))
    try simp only [Act.put, List.setIfInBounds_toArray, List.set_cons_zero, List.set_cons_succ]
    refine wpAnyH_take (i := 18) (oi := ⟨some 34, _, _, _, _, _⟩) (v := ?_) rfl (by kernel_rfl) (by kernel_rfl) (by kernel_rfl) (fun _ _ _ h => h) (Or.inl ⟨by rfl, ?_⟩) (by assumption) ?_
    rotate_left 1
    · (intro w hSw; (try dsimp only at hSw); go_split_ands; obtain ⟨c0, c1, c2, c3, c4, d0, d1, d2, d3, d4⟩ := HB.out w (by assumption); go_simp; (try with_reducible rfl))
    try simp only [Act.put, List.setIfInBounds_toArray, List.set_cons_zero, List.set_cons_succ]
    refine wpAnyH_take (i := 19) (oi := ⟨some 35, _, _, _, _, _⟩) (v := ?_) rfl (by kernel_rfl) (by kernel_rfl) (by kernel_rfl) (fun _ _ _ h => h) (Or.inl ⟨by rfl, ?_⟩) (by assumption) ?_
    rotate_left 1
    · (intro w hSw; (try dsimp only at hSw); go_split_ands; obtain ⟨c0, c1, c2, c3, c4, d0, d1, d2, d3, d4⟩ := HB.out w (by assumption); go_simp; (try with_reducible rfl))
    try simp only [Act.put, List.setIfInBounds_toArray, List.set_cons_zero, List.set_cons_succ]
    refine wpAnyH_done (by kernel_rfl) ?_ _
    obtain ⟨c0, c1, c2, c3, c4, d0, d1, d2, d3, d4⟩ := HB.out w29 hk29
    rcases hkk with rfl | rfl | ⟨k1, k4, k8, k9, k10⟩
    · go_wp2_with fail
      refine (HCO.out w29).mono ?_
      rintro e wA ⟨rfl, xA⟩
      go_wp2_with fail
      go_ret
      exact ⟨by rw [HR1.out, if_pos (by trivial)]; rfl, x3.trans (hk29.trans xA)⟩
    · go_wp2_with fail
      refine (HWD.out w29 (x3.trans hk29)).mono ?_
      rintro e wA ⟨rfl, xA⟩
      go_wp2_with fail
      go_ret
      exact ⟨by rw [HR1.out, if_neg (by omega), if_neg (by omega), if_neg (by omega), if_pos (by trivial)]; rfl, x3.trans (hk29.trans xA)⟩
    · have e1 : ((kind : Int) == 1) = false := by rw [beq_eq_false_iff_ne]; omega
      have e4 : ((kind : Int) == 4) = false := by rw [beq_eq_false_iff_ne]; omega
      have e8 : ((kind : Int) == 8) = false := by rw [beq_eq_false_iff_ne]; omega
      have e9 : ((kind : Int) == 9) = false := by rw [beq_eq_false_iff_ne]; omega
      have e10 : ((kind : Int) == 10) = false := by rw [beq_eq_false_iff_ne]; omega
      have HRT := Lib.hid (show R = true by rw [HR1.out, if_neg k1, if_neg k4, if_neg k8, if_neg k9, if_neg k10])
      clear k1 k4 k8 k9 k10
      go_wp2_with fail
      go_ret
      exact ⟨by rw [HRT.out]; rfl, x3.trans hk29⟩
  · have hwf : writesM kind = false := by simpa using hw
    rw [hwf] at CW
    have hkk : kind = 4 ∨ kind = 8 ∨ kind = 10 ∨ (kind ≠ 1 ∧ kind ≠ 4 ∧ kind ≠ 8 ∧ kind ≠ 9 ∧ kind ≠ 10) := by
      unfold writesM at hwf
      simp only [Bool.or_eq_false_iff, decide_eq_false_iff_not] at hwf
      omega
    clear hw10 hw hwf
    refine wp_region_held_drew (S := fun w' => Ext [] w3 w') (by kernel_rfl) hstart (fun _ => ?_)
    refine wpAnyH_take (i := 0) (oi := ⟨some 16, _, _, _, _, _⟩) (v := ?_) rfl (by kernel_rfl) (by kernel_rfl) (by kernel_rfl) (fun _ _ _ h => h) (Or.inl ⟨by rfl, ?_⟩) (by assumption) ?_
    rotate_left 1
    · (intro w hSw; (try dsimp only at hSw); go_split_ands; obtain ⟨c0, c1, c2, c3, c4, d0, d1, d2, d3, d4⟩ := HB.out w (by assumption); go_simp; (try with_reducible rfl))
    try simp only [Act.put, List.setIfInBounds_toArray, List.set_cons_zero, List.set_cons_succ]
    refine wpAnyH_take (i := 1) (oi := ⟨some 17, _, _, _, _, _⟩) (v := ?_) rfl (by kernel_rfl) (by kernel_rfl) (by kernel_rfl) (fun _ _ _ h => h) (Or.inl ⟨by rfl, ?_⟩) (by assumption) ?_
    rotate_left 1
    · (intro w hSw; (try dsimp only at hSw); go_split_ands; obtain ⟨c0, c1, c2, c3, c4, d0, d1, d2, d3, d4⟩ := HB.out w (by assumption); go_simp; (try with_reducible rfl))
    try simp only [Act.put, List.setIfInBounds_toArray, List.set_cons_zero, List.set_cons_succ]
    refine wpAnyH_take (i := 2) (oi := ⟨some 18, _, _, _, _, _⟩) (v := ?_) rfl (by kernel_rfl) (by kernel_rfl) (by kernel_rfl) (fun _ _ _ h => h) (Or.inl ⟨by rfl, ?_⟩) (by assumption) ?_
    rotate_left 1
    · (intro w hSw; (try dsimp only at hSw); go_split_ands; obtain ⟨c0, c1, c2, c3, c4, d0, d1, d2, d3, d4⟩ := HB.out w (by assumption); go_simp; (try with_reducible rfl))
    try simp only [Act.put, List.setIfInBounds_toArray, List.set_cons_zero, List.set_cons_succ]
    refine wpAnyH_take (i := 3) (oi := ⟨some 19, _, _, _, _, _⟩) (v := ?_) rfl (by kernel_rfl) (by kernel_rfl) (by kernel_rfl) (fun _ _ _ h => h) (Or.inl ⟨by rfl, ?_⟩) (by assumption) ?_
    rotate_left 1
    · (intro w hSw; (try dsimp only at hSw); go_split_ands; obtain ⟨c0, c1, c2, c3, c4, d0, d1, d2, d3, d4⟩ := HB.out w (by assumption); go_simp; (try with_reducible rfl))
    try simp only [Act.put, List.setIfInBounds_toArray, List.set_cons_zero, List.set_cons_succ]
    refine wpAnyH_take (i := 4) (oi := ⟨some 20, _, _, _, _, _⟩) (v := ?_) rfl (by kernel_rfl) (by kernel_rfl) (by kernel_rfl) (fun _ _ _ h => h) (Or.inl ⟨by rfl, ?_⟩) (by assumption) ?_
    rotate_left 1
    · (intro w hSw; (try dsimp only at hSw); go_split_ands; obtain ⟨c0, c1, c2, c3, c4, d0, d1, d2, d3, d4⟩ := HB.out w (by assumption); go_simp; (try with_reducible rfl))
    try simp only [Act.put, List.setIfInBounds_toArray, List.set_cons_zero, List.set_cons_succ]
    refine wpAnyH_take (i := 5) (oi := ⟨some 21, _, _, _, _, _⟩) (v := ?_) rfl (by kernel_rfl) (by kernel_rfl) (by kernel_rfl) (fun _ _ _ h => h) (Or.inl ⟨by rfl, ?_⟩) (by assumption) ?_
    rotate_left 1
    · (intro w hSw; (try dsimp only at hSw); go_split_ands; obtain ⟨c0, c1, c2, c3, c4, d0, d1, d2, d3, d4⟩ := HB.out w (by assumption); go_simp; (try with_reducible rfl))
    try simp only [Act.put, List.setIfInBounds_toArray, List.set_cons_zero, List.set_cons_succ]
    refine wpAnyH_ready (rs := [6]) (by kernel_rfl) (by simp) ?_
    refine AllReadyH.cons (o := ⟨some 22, _, _, _, _, _⟩) rfl (fun K hK => ?_) AllReadyH.nil
    go_simp
    refine (CN.out _ (by assumption)).mono ?_
    rintro e w22 ⟨rfl, hk22⟩
    go_simp
    refine hK.out _ _ (by assumption) (fun _ => ?_)
    clear hK K
    try simp only [Act.put, List.setIfInBounds_toArray, List.set_cons_zero, List.set_cons_succ]
    refine wpAnyH_ready (rs := [7]) (by kernel_rfl) (by simp) ?_
    refine AllReadyH.cons (o := ⟨some 23, _, _, _, _, _⟩) rfl (fun K hK => ?_) AllReadyH.nil
    go_simp
    refine (CP.out _ (by assumption)).mono ?_
    rintro e w23 ⟨rfl, hk23⟩
    go_simp
    refine hK.out _ _ (by assumption) (fun _ => ?_)
    clear hK K
    try simp only [Act.put, List.setIfInBounds_toArray, List.set_cons_zero, List.set_cons_succ]
    refine wpAnyH_take (i := 8) (oi := ⟨some 24, _, _, _, _, _⟩) (v := ?_) rfl (by kernel_rfl) (by kernel_rfl) (by kernel_rfl) (fun _ _ _ h => h) (Or.inl ⟨by rfl, ?_⟩) (by assumption) ?_
    rotate_left 1
    · (intro w hSw; (try dsimp only at hSw); go_split_ands; obtain ⟨c0, c1, c2, c3, c4, d0, d1, d2, d3, d4⟩ := HB.out w (by assumption); go_simp; (try with_reducible rfl))
    try simp only [Act.put, List.setIfInBounds_toArray, List.set_cons_zero, List.set_cons_succ]
    refine wpAnyH_take (i := 9) (oi := ⟨some 25, _, _, _, _, _⟩) (v := ?_) rfl (by kernel_rfl) (by kernel_rfl) (by kernel_rfl) (fun _ _ _ h => h) (Or.inl ⟨by rfl, ?_⟩) (by assumption) ?_
    rotate_left 1
    · (intro w hSw; (try dsimp only at hSw); go_split_ands; obtain ⟨c0, c1, c2, c3, c4, d0, d1, d2, d3, d4⟩ := HB.out w (by assumption); go_simp; (try with_reducible rfl))
    try simp only [Act.put, List.setIfInBounds_toArray, List.set_cons_zero, List.set_cons_succ]
    refine wpAnyH_take (i := 10) (oi := ⟨some 26, _, _, _, _, _⟩) (v := ?_) rfl (by kernel_rfl) (by kernel_rfl) (by kernel_rfl) (fun _ _ _ h => h) (Or.inl ⟨by rfl, ?_⟩) (by assumption) ?_
    rotate_left 1
    · (intro w hSw; (try dsimp only at hSw); go_split_ands; obtain ⟨c0, c1, c2, c3, c4, d0, d1, d2, d3, d4⟩ := HB.out w (by assumption); go_simp; (try with_reducible rfl))
    try simp only [Act.put, List.setIfInBounds_toArray, List.set_cons_zero, List.set_cons_succ]
    refine wpAnyH_take (i := 11) (oi := ⟨some 27, _, _, _, _, _⟩) (v := ?_) rfl (by kernel_rfl) (by kernel_rfl) (by kernel_rfl) (fun _ _ _ h => h) (Or.inl ⟨by rfl, ?_⟩) (by assumption) ?_
    rotate_left 1
    · (intro w hSw; (try dsimp only at hSw); go_split_ands; obtain ⟨c0, c1, c2, c3, c4, d0, d1, d2, d3, d4⟩ := HB.out w (by assumption); go_simp; (try with_reducible rfl))
    try simp only [Act.put, List.setIfInBounds_toArray, List.set_cons_zero, List.set_cons_succ]
    refine wpAnyH_take (i := 12) (oi := ⟨some 28, _, _, _, _, _⟩) (v := ?_) rfl (by kernel_rfl) (by kernel_rfl) (by kernel_rfl) (fun _ _ _ h => h) (Or.inl ⟨by rfl, ?_⟩) (by assumption) ?_
    rotate_left 1
    · (intro w hSw; (try dsimp only at hSw); go_split_ands; obtain ⟨c0, c1, c2, c3, c4, d0, d1, d2, d3, d4⟩ := HB.out w (by assumption); go_simp; (try with_reducible rfl))
    try simp only [Act.put, List.setIfInBounds_toArray, List.set_cons_zero, List.set_cons_succ]
    refine wpAnyH_ready (rs := [13]) (by kernel_rfl) (by simp) ?_
    refine AllReadyH.cons (o := ⟨some 29, _, _, _, _, _⟩) rfl (fun K hK => ?_) AllReadyH.nil
    go_simp
    refine (CW.out _ (by assumption)).mono ?_
    rintro e w29 ⟨rfl, hk29⟩
    go_simp
    refine hK.out _ _ (by assumption) (fun _ => ?_)
    clear hK K
    try simp only [Act.put, List.setIfInBounds_toArray, List.set_cons_zero, List.set_cons_succ]
    refine wpAnyH_take (i := 14) (oi := ⟨some 30, _, _, _, _, _⟩) (v := ?_) rfl (by kernel_rfl) (by kernel_rfl) (by kernel_rfl) (fun _ _ _ h => h) (Or.inl ⟨by rfl, ?_⟩) (by assumption) ?_
    rotate_left 1
    · (intro w hSw; (try dsimp only at hSw); go_split_ands; obtain ⟨c0, c1, c2, c3, c4, d0, d1, d2, d3, d4⟩ := HB.out w (by assumption); go_simp; (try with_reducible rfl))
    try simp only [Act.put, List.setIfInBounds_toArray, List.set_cons_zero, List.set_cons_succ]
    refine wpAnyH_take (i := 15) (oi := ⟨some 31, _, _, _, _, _⟩) (v := _) rfl (by kernel_rfl) (by kernel_rfl) (by kernel_rfl) (fun _ _ _ h => h) (Or.inr ⟨by rfl, rfl⟩) (by assumption) ?_
    try simp only [Act.put, List.setIfInBounds_toArray, List.set_cons_zero, List.set_cons_succ]
    refine wpAnyH_take (i := 16) (oi := ⟨some 32, _, _, _, _, _⟩) (v := _) rfl (by kernel_rfl) (by kernel_rfl) (by kernel_rfl) (fun _ _ _ h => h) (Or.inr ⟨by rfl, rfl⟩) (by assumption) ?_
    try simp only [Act.put, List.setIfInBounds_toArray, List.set_cons_zero, List.set_cons_succ]
    refine wpAnyH_take (i := 17) (oi := ⟨some 33, _, _, _, _, _⟩) (v := _) rfl (by kernel_rfl) (by kernel_rfl) (by kernel_rfl) (fun _ _ _ h => h) (Or.inr ⟨by rfl, rfl⟩) (by assumption) ?_
    try simp only [Act.put, List.setIfInBounds_toArray, List.set_cons_zero, List.set_cons_succ]
    refine wpAnyH_take (i := 18) (oi := ⟨some 34, _, _, _, _, _⟩) (v := ?_) rfl (by kernel_rfl) (by kernel_rfl) (by kernel_rfl) (fun _ _ _ h => h) (Or.inl ⟨by rfl, ?_⟩) (by assumption) ?_
    rotate_left 1
    · (intro w hSw; (try dsimp only at hSw); go_split_ands; obtain ⟨c0, c1, c2, c3, c4, d0, d1, d2, d3, d4⟩ := HB.out w (by assumption); go_simp; (try with_reducible rfl))
    try simp only [Act.put, List.setIfInBounds_toArray, List.set_cons_zero, List.set_cons_succ]
    refine wpAnyH_take (i := 19) (oi := ⟨some 35, _, _, _, _, _⟩) (v := ?_) rfl (by kernel_rfl) (by kernel_rfl) (by kernel_rfl) (fun _ _ _ h => h) (Or.inl ⟨by rfl, ?_⟩) (by assumption) ?_
    rotate_left 1
    · (intro w hSw; (try dsimp only at hSw); go_split_ands; obtain ⟨c0, c1, c2, c3, c4, d0, d1, d2, d3, d4⟩ := HB.out w (by assumption); go_simp; (try with_reducible rfl))
    try simp only [Act.put, List.setIfInBounds_toArray, List.set_cons_zero, List.set_cons_succ]
    refine wpAnyH_done (by kernel_rfl) ?_ _
    obtain ⟨c0, c1, c2, c3, c4, d0, d1, d2, d3, d4⟩ := HB.out w29 hk29
    rcases hkk with rfl | rfl | rfl | ⟨k1, k4, k8, k9, k10⟩
    · go_wp2_with fail
      refine (args_any x.imm.toInt w29).mono ?_
      rintro e wA ⟨rfl, rfl⟩
      generalize (if argsM x.imm.toInt < 0 then 0 else argsM x.imm.toInt) = qa
      go_wp2_with fail
      go_ret
      exact ⟨by rw [HR1.out, if_neg (by omega), if_pos (by trivial)]; rfl, x3.trans hk29⟩
    · go_wp2_with fail
      refine (atomic_any x.imm.toInt w29).mono ?_
      rintro e wA ⟨rfl, rfl⟩
      go_wp2_with fail
      go_ret
      exact ⟨by rw [HR1.out, if_neg (by omega), if_neg (by omega), if_pos (by trivial)]; rfl, x3.trans hk29⟩
    · by_cases k0 : k = 0
      · have HRT := Lib.hid (show R = false by rw [HR1.out, if_neg (by omega), if_neg (by omega), if_neg (by omega), if_neg (by omega), if_pos rfl, HPV.out, if_pos k0]; rfl)
        subst k0
        go_wp2_with fail
        go_ret
        exact ⟨by rw [HRT.out]; rfl, x3.trans hk29⟩
      · have hpl : k - 1 < l.length := by omega
        have HRT := Lib.hid (show R = decide (kindM l[k - 1] = 9) by rw [HR1.out, if_neg (by omega), if_neg (by omega), if_neg (by omega), if_neg (by omega), if_pos rfl, HPV.out, if_neg k0, List.getElem?_eq_getElem hpl]; rfl)
        have hz := fun j (hj : j < 5) => ((x3.trans hk29).cell (p := ⟨bb, oo + (k - 1) * 5 + j, none⟩) hbb (by simp)).trans (HCA.out (k - 1) hpl j hj)
        have HKZ := Lib.hid (fun w' => kind_any l[k - 1] w')
        generalize l[k - 1] = z at *
        have z0 := hz 0 (by omega)
        have z1 := hz 1 (by omega)
        have z2 := hz 2 (by omega)
        have z3 := hz 3 (by omega)
        have z4 := hz 4 (by omega)
        simp only [Ins.cells, List.getElem?_cons_zero, List.getElem?_cons_succ, Nat.add_zero] at z0 z1 z2 z3 z4
        have n1 : (0 : Int) < (k : Int) := by omega
        have n2 : ((k : Int) - 1).toNat = k - 1 := by omega
        have n3 : (0 : Int) ≤ (k : Int) - 1 := by omega
        have n4 : (k : Int) - 1 < (l.length : Int) := by omega
        clear hz
        go_wp2_with fail
        refine (HKZ.out w29).mono ?_
        rintro e wA ⟨rfl, xA⟩
        generalize kindM z = kz at *
        by_cases h9 : kz = 9
        · rw [decide_eq_true h9] at HRT
          subst h9
          go_wp2_with fail
          go_ret
          exact ⟨by rw [HRT.out]; rfl, x3.trans (hk29.trans xA)⟩
        · rw [decide_eq_false h9] at HRT
          have q9 : ((kz : Int) == 9) = false := by rw [beq_eq_false_iff_ne]; omega
          clear h9
          go_wp2_with fail
          go_ret
          exact ⟨by rw [HRT.out]; rfl, x3.trans (hk29.trans xA)⟩
    · have e1 : ((kind : Int) == 1) = false := by rw [beq_eq_false_iff_ne]; omega
      have e4 : ((kind : Int) == 4) = false := by rw [beq_eq_false_iff_ne]; omega
      have e8 : ((kind : Int) == 8) = false := by rw [beq_eq_false_iff_ne]; omega
      have e9 : ((kind : Int) == 9) = false := by rw [beq_eq_false_iff_ne]; omega
      have e10 : ((kind : Int) == 10) = false := by rw [beq_eq_false_iff_ne]; omega
      have HRT := Lib.hid (show R = true by rw [HR1.out, if_neg k1, if_neg k4, if_neg k8, if_neg k9, if_neg k10])
      clear k1 k4 k8 k9 k10
      go_wp2_with fail
      go_ret
      exact ⟨by rw [HRT.out]; rfl, x3.trans hk29⟩
end Go.Proofs.YtbjkfgfiifnjoaaDoor
