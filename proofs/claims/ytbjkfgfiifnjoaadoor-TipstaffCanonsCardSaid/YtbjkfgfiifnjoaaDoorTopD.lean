/- TipstaffCanons: the region that holds the sums against each other. -/
import Derived.Test.YtbjkfgfiifnjoaaDoorTopP
import Derived.Test.YtbjkfgfiifnjoaaDoorHeld
import Derived.Test.YtbjkfgfiifnjoaaDoorSlc
namespace Go.Proofs.YtbjkfgfiifnjoaaDoor
open Go.RowKit
set_option maxRecDepth 100000

noncomputable def canBody : Code := Tryd.f3.body.getD .skip

section
variable {P : Program}
/-- A load of several cells, within a region that draws, guarded or not. -/
theorem step_ldpart {ops : Array Oper} {o : Oper} {a : Act} {w : World} {K : Act → World → Prop} {Q : Exit → Act → World → Prop} {E : Prop} (hw : Region.wanted o (yielded ops a.tmps) = true) (ty : TypeId) (x : Operand) (ho : o.op = .load ty x)
    (b off : Nat) (hx : a.eval x = .pointer (some ⟨b, off, none⟩)) (vs : List Value) (d : TypeDesc) (hg : PartAt w b off vs)
    (hu : P.underlying ty = some d) (hd : (match d with | .struct _ | .array _ _ => true | _ => false) = true) (hi : (P.info? ty).map (·.size) = some vs.length)
    (h : K (a.put o.dst (.agg vs.toArray)) w) : if Region.wanted o (yielded ops a.tmps) = true then Oper.wp P o a w K Q else E := by
  rw [if_pos hw]
  exact wp_ldpart ty x ho b off hx vs d hg hu hd hi h
end

set_option maxHeartbeats 16000000 in
theorem can_reg13 (a12 a15 : Option Addr) (c12 c15 g16 : Nat) (i : BitVec 32) (ov : List Value) (w w16 : World) (C : Code) (hC : C = (regAt 13 canBody).getD .skip) (Q : Exit → Act → World → Prop)
    (u0 u1 u2 u3 u4 u5 u6 u7 u8 u9 u10 u11 u13 u14 u16 u17 u18 u19 u21 u22 u23 u24 u25 u26 u27 u28 u29 u30 u31 u32 u33 u34 u35 u36 u37 u38 u39 u40 u41 u42 u43 u44 u45 u46 u47 u48 u49 u50 u51 u52 u53 u54 u55 u56 u57 u58 u59 u60 u61 u62 u63 u64 u65 u66 u67 u68 u69 u70 u71 u72 u73 u74 u75 u76 u77 u78 u79 u80 u81 u82 u83 u84 u85 u86 u87 u88 u89 u90 u91 u92 u93 u94 u95 u96 u97 u98 u99 u100 u101 u102 u103 u104 u105 u106 u107 u108 u109 u110 u111 u112 u113 u114 u115 u116 u117 u118 u119 u120 u121 u122 u123 u124 u125 u126 u127 u128 u129 u130 u131 u132 u133 u134 u135 u136 u137 u138 u139 u140 u141 u142 u143 u144 u145 u146 u147 u148 u149 u150 u151 u152 u153 u154 u155 : Value) (hP : ∀ ch (a : Act) (d : Nat) v w, Q (.panic ch) (a.put (some d) v) w → Q (.panic ch) a w)
    (hol : ov.length = 32) (heq : ∀ w, (Op.equalIn 10000 36 (.agg ov.toArray) (.agg ov.toArray)).run Tryd.prog w = .ok true w)
    (x16 : Ext [] w w16) (B16 : Blk w16 g16 36 ov)
    (hown12 : w16.ownsRow 0 25 5 (.slice a12 8 c12) 8 (insV (prog3 0 1 0 i))) (hown15 : w16.ownsRow 0 25 5 (.slice a15 8 c15) 8 (insV (prog3 0 1 0 i)))
    (HSUM : Hid (∀ w', Ext [] w w' → Reads w' (.slice a15 8 c15) 5 8 (insV (prog3 0 1 0 i)) → Calls Tryd.prog 12 #[.slice a15 8 c15, .slice none 0 0] w' fun e w'' => e = .returned (.agg ov.toArray) ∧ Ext [] w' w''))
    (HJOI : Hid (∀ w', Ext [] w w' → ∀ b u, Blk w' b 39 [u] → Reads w' u 1 (encL (prog3 0 1 0 i)).length (bytesV (encL (prog3 0 1 0 i))) → Calls Tryd.prog 13 #[.slice (some ⟨b, 0, none⟩) 1 1] w' fun e w'' => e = .returned (.agg ov.toArray) ∧ Ext [] w' w''))
    (hQ : ∀ (s101 s102 s103 s104 s105 s106 s107 s108 s109 s110 s111 : Value) (w' : World), w'.ownsRow 0 25 5 (.slice a12 8 c12) 8 (insV (prog3 0 1 0 i)) → Ext [] w w' →
      Q .normal ⟨#[u0, u1, u2, u3, u4, u5, u6, u7, u8, u9, u10, u11, .slice a12 8 c12, u13, u14, .slice a15 8 c15, u16, u17, u18, u19, .pointer (some ⟨g16, 0, none⟩), u21, u22, u23, u24, u25, u26, u27, u28, u29, u30, u31, u32, u33, u34, u35, u36, u37, u38, u39, u40, u41, u42, u43, u44, u45, u46, u47, u48, u49, u50, u51, u52, u53, u54, u55, u56, u57, u58, u59, u60, u61, u62, u63, u64, u65, u66, u67, u68, u69, u70, u71, u72, u73, u74, u75, u76, u77, u78, u79, u80, u81, u82, u83, u84, u85, u86, u87, u88, u89, u90, u91, u92, u93, u94, u95, u96, u97, u98, u99, u100, s101, s102, s103, s104, s105, s106, s107, s108, s109, s110, s111, .bool false, u113, u114, u115, u116, u117, u118, u119, u120, u121, u122, u123, u124, u125, u126, u127, u128, u129, u130, u131, u132, u133, u134, u135, u136, u137, u138, u139, u140, u141, u142, u143, u144, u145, u146, u147, u148, u149, u150, u151, u152, u153, u154, u155], []⟩ w') :
    Code.wp Tryd.prog C Q ⟨#[u0, u1, u2, u3, u4, u5, u6, u7, u8, u9, u10, u11, .slice a12 8 c12, u13, u14, .slice a15 8 c15, u16, u17, u18, u19, .pointer (some ⟨g16, 0, none⟩), u21, u22, u23, u24, u25, u26, u27, u28, u29, u30, u31, u32, u33, u34, u35, u36, u37, u38, u39, u40, u41, u42, u43, u44, u45, u46, u47, u48, u49, u50, u51, u52, u53, u54, u55, u56, u57, u58, u59, u60, u61, u62, u63, u64, u65, u66, u67, u68, u69, u70, u71, u72, u73, u74, u75, u76, u77, u78, u79, u80, u81, u82, u83, u84, u85, u86, u87, u88, u89, u90, u91, u92, u93, u94, u95, u96, u97, u98, u99, u100, u101, u102, u103, u104, u105, u106, u107, u108, u109, u110, u111, u112, u113, u114, u115, u116, u117, u118, u119, u120, u121, u122, u123, u124, u125, u126, u127, u128, u129, u130, u131, u132, u133, u134, u135, u136, u137, u138, u139, u140, u141, u142, u143, u144, u145, u146, u147, u148, u149, u150, u151, u152, u153, u154, u155], []⟩ w16 := by
  subst hC
  conv =>
    arg 2
    whnf
  have HQ := Lib.hid hQ
  have hQ := HQ
  have hu := Tryd.underlying36
  have hsz : (Tryd.prog.info? 36).map (·.size) = some ov.length := by rw [hol]; kernel_rfl
  clear HQ
  have B16 := B16.drew
  have hown12 := owns_ext hown12 ((Ext.refl [] w16).drew) (by simp)
  have hown15 := owns_ext hown15 ((Ext.refl [] w16).drew) (by simp)
  have x16 := x16.drew
  refine wp_region_held_drew (S := fun _ => True) (by kernel_rfl) trivial (fun hS => ?_)
  generalize w16.drew = w17 at B16 hown12 hown15 x16 ⊢
  refine wpAnyH_take (i := 1) (oi := ⟨some 102, _, _, _, _, _⟩) (v := ?_) rfl (by kernel_rfl) (by kernel_rfl) (by kernel_rfl) (fun ch a w h => hP ch a _ _ w h) (Or.inl ⟨by rfl, ?_⟩) (by assumption) ?_
  rotate_left 1
  · (intro w hSw; (try dsimp only at hSw); go_split_ands; (try go_simp); (try with_reducible rfl))
  try simp only [Act.put, List.setIfInBounds_toArray, List.set_cons_zero, List.set_cons_succ]
  refine wpAnyH_ready (rs := [0, 2]) (by kernel_rfl) (by simp) ?_
  refine AllReadyH.cons (o := ⟨some 101, _, _, _, _, _⟩) rfl (fun K hK => ?_) (AllReadyH.cons (o := ⟨some 103, _, _, _, _, _⟩) rfl (fun K hK => ?_) AllReadyH.nil)
  · skip
    refine step_ldpart (by rfl) 36 (.tmp 20) rfl g16 0 rfl ov _ B16.part hu rfl hsz ?_
    refine hK.out _ _ trivial (fun hS => ?_)
    clear hK K
    try simp only [Act.put, List.setIfInBounds_toArray, List.set_cons_zero, List.set_cons_succ]
    refine wpAnyH_ready (rs := [2]) (by kernel_rfl) (by simp) ?_
    refine AllReadyH.cons (o := ⟨some 103, _, _, _, _, _⟩) rfl (fun K hK => ?_) AllReadyH.nil
    go_simp
    refine (HSUM.out _ x16 (owns_reads hown15)).mono ?_
    rintro e w18 ⟨rfl, x18⟩
    go_simp
    have B16 := B16.ext x18 (by simp)
    have hown12 := owns_ext hown12 x18 (by simp)
    have x16 := x16.trans x18
    clear x18 hown15
    refine hK.out _ _ trivial (fun hS => ?_)
    clear hK K
    try simp only [Act.put, List.setIfInBounds_toArray, List.set_cons_zero, List.set_cons_succ]
    refine wpAnyH_take (i := 3) (oi := ⟨some 104, _, _, _, _, _⟩) (v := ?_) rfl (by kernel_rfl) (by kernel_rfl) (by kernel_rfl) (fun ch a w h => hP ch a _ _ w h) (Or.inl ⟨by rfl, ?_⟩) (by assumption) ?_
    rotate_left 1
    · (intro w hSw; (try dsimp only at hSw); go_split_ands; (try go_simp); (try with_reducible rfl))
    try simp only [Act.put, List.setIfInBounds_toArray, List.set_cons_zero, List.set_cons_succ]
    refine wpAnyH_take (i := 4) (oi := ⟨some 105, _, _, _, _, _⟩) (v := ?_) rfl (by kernel_rfl) (by kernel_rfl) (by kernel_rfl) (fun ch a w h => hP ch a _ _ w h) (Or.inl ⟨by rfl, ?_⟩) (by assumption) ?_
    rotate_left 1
    · (intro w hSw; (try dsimp only at hSw); go_split_ands; (try go_simp); (try with_reducible rfl))
    try simp only [Act.put, List.setIfInBounds_toArray, List.set_cons_zero, List.set_cons_succ]
    refine wpAnyH_take (i := 6) (oi := ⟨some 107, _, _, _, _, _⟩) (v := ?_) rfl (by kernel_rfl) (by kernel_rfl) (by kernel_rfl) (fun ch a w h => hP ch a _ _ w h) (Or.inl ⟨by rfl, ?_⟩) (by assumption) ?_
    rotate_left 1
    · (intro w hSw; (try dsimp only at hSw); go_split_ands; (try go_simp); (try with_reducible rfl))
    try simp only [Act.put, List.setIfInBounds_toArray, List.set_cons_zero, List.set_cons_succ]
    refine wpAnyH_ready (rs := [5, 7]) (by kernel_rfl) (by simp) ?_
    refine AllReadyH.cons (o := ⟨some 106, _, _, _, _, _⟩) rfl (fun K hK => ?_) (AllReadyH.cons (o := ⟨some 108, _, _, _, _, _⟩) rfl (fun K hK => ?_) AllReadyH.nil)
    · skip
      refine step_ldpart (by rfl) 36 (.tmp 20) rfl g16 0 rfl ov _ B16.part hu rfl hsz ?_
      refine hK.out _ _ trivial (fun hS => ?_)
      clear hK K
      try simp only [Act.put, List.setIfInBounds_toArray, List.set_cons_zero, List.set_cons_succ]
      refine wpAnyH_ready (rs := [7]) (by kernel_rfl) (by simp) ?_
      refine AllReadyH.cons (o := ⟨some 108, _, _, _, _, _⟩) rfl (fun K hK => ?_) AllReadyH.nil
      go_simp
      refine (encode_any _ (prog3 0 1 0 i) _ (owns_reads hown12) (by show 8 ≤ 100000; omega)).mono ?_
      rintro e w19 ⟨v19, rfl, hown19, x19, -⟩
      go_simp
      have B16 := B16.ext x19 (by simp)
      have hown12 := owns_ext hown12 x19 (by simp)
      have x16 := x16.trans x19
      clear x19
      refine hK.out _ _ trivial (fun hS => ?_)
      clear hK K
      try simp only [Act.put, List.setIfInBounds_toArray, List.set_cons_zero, List.set_cons_succ]
      refine wpAnyH_ready (rs := [8]) (by kernel_rfl) (by simp) ?_
      refine AllReadyH.cons (o := ⟨some 109, _, _, _, _, _⟩) rfl (fun K hK => ?_) AllReadyH.nil
      obtain ⟨q1, q2, rfl⟩ := owns_slice hown19
      go_simp
      have B20 := Blk.new w19 39 #[.slice q1 (encL (prog3 0 1 0 i)).length q2]
      have x20 : Ext [] w19 (w19.alloc (.cells #[.slice q1 (encL (prog3 0 1 0 i)).length q2] 39)) := (Ext.refl _ _).alloc _
      have B16 := B16.ext x20 (by simp)
      have hown12 := owns_ext hown12 x20 (by simp)
      have hr19 := (owns_reads hown19).ext x20
      have x16 := x16.trans x20
      clear x20 hown19
      generalize w19.alloc (.cells #[.slice q1 (encL (prog3 0 1 0 i)).length q2] 39) = w20 at B16 B20 hown12 hr19 x16 ⊢
      generalize w19.heap.size = g20 at B20 ⊢
      refine hK.out _ _ trivial (fun hS => ?_)
      clear hK K
      try simp only [Act.put, List.setIfInBounds_toArray, List.set_cons_zero, List.set_cons_succ]
      refine wpAnyH_ready (rs := [9]) (by kernel_rfl) (by simp) ?_
      refine AllReadyH.cons (o := ⟨some 110, _, _, _, _, _⟩) rfl (fun K hK => ?_) AllReadyH.nil
      go_simp
      refine (HJOI.out _ x16 _ _ B20 hr19).mono ?_
      rintro e w21 ⟨rfl, x21⟩
      go_simp
      have B16 := B16.ext x21 (by simp)
      have hown12 := owns_ext hown12 x21 (by simp)
      have x16 := x16.trans x21
      clear x21
      refine hK.out _ _ trivial (fun hS => ?_)
      clear hK K
      try simp only [Act.put, List.setIfInBounds_toArray, List.set_cons_zero, List.set_cons_succ]
      refine wpAnyH_take (i := 10) (oi := ⟨some 111, _, _, _, _, _⟩) (v := ?_) rfl (by kernel_rfl) (by kernel_rfl) (by kernel_rfl) (fun ch a w h => hP ch a _ _ w h) (Or.inl ⟨by rfl, ?_⟩) (by assumption) ?_
      rotate_left 1
      · (intro w hSw; (try dsimp only at hSw); go_split_ands; (try go_simp); (try with_reducible rfl))
      try simp only [Act.put, List.setIfInBounds_toArray, List.set_cons_zero, List.set_cons_succ]
      refine wpAnyH_take (i := 11) (oi := ⟨some 112, _, _, _, _, _⟩) (v := ?_) rfl (by kernel_rfl) (by kernel_rfl) (by kernel_rfl) (fun ch a w h => hP ch a _ _ w h) (Or.inl ⟨by rfl, ?_⟩) (by assumption) ?_
      rotate_left 1
      · (intro w hSw; (try dsimp only at hSw); go_split_ands; (try go_simp); (try with_reducible rfl))
      try simp only [Act.put, List.setIfInBounds_toArray, List.set_cons_zero, List.set_cons_succ]
      refine wpAnyH_done (by kernel_rfl) ?_ _
      exact hQ.out _ _ _ _ _ _ _ _ _ _ _ _ hown12 x16
    · skip
      go_simp
      refine (encode_any _ (prog3 0 1 0 i) _ (owns_reads hown12) (by show 8 ≤ 100000; omega)).mono ?_
      rintro e w19 ⟨v19, rfl, hown19, x19, -⟩
      go_simp
      have B16 := B16.ext x19 (by simp)
      have hown12 := owns_ext hown12 x19 (by simp)
      have x16 := x16.trans x19
      clear x19
      refine hK.out _ _ trivial (fun hS => ?_)
      clear hK K
      try simp only [Act.put, List.setIfInBounds_toArray, List.set_cons_zero, List.set_cons_succ]
      refine wpAnyH_ready (rs := [5, 8]) (by kernel_rfl) (by simp) ?_
      refine AllReadyH.cons (o := ⟨some 106, _, _, _, _, _⟩) rfl (fun K hK => ?_) (AllReadyH.cons (o := ⟨some 109, _, _, _, _, _⟩) rfl (fun K hK => ?_) AllReadyH.nil)
      · skip
        refine step_ldpart (by rfl) 36 (.tmp 20) rfl g16 0 rfl ov _ B16.part hu rfl hsz ?_
        refine hK.out _ _ trivial (fun hS => ?_)
        clear hK K
        try simp only [Act.put, List.setIfInBounds_toArray, List.set_cons_zero, List.set_cons_succ]
        refine wpAnyH_ready (rs := [8]) (by kernel_rfl) (by simp) ?_
        refine AllReadyH.cons (o := ⟨some 109, _, _, _, _, _⟩) rfl (fun K hK => ?_) AllReadyH.nil
        obtain ⟨q1, q2, rfl⟩ := owns_slice hown19
        go_simp
        have B20 := Blk.new w19 39 #[.slice q1 (encL (prog3 0 1 0 i)).length q2]
        have x20 : Ext [] w19 (w19.alloc (.cells #[.slice q1 (encL (prog3 0 1 0 i)).length q2] 39)) := (Ext.refl _ _).alloc _
        have B16 := B16.ext x20 (by simp)
        have hown12 := owns_ext hown12 x20 (by simp)
        have hr19 := (owns_reads hown19).ext x20
        have x16 := x16.trans x20
        clear x20 hown19
        generalize w19.alloc (.cells #[.slice q1 (encL (prog3 0 1 0 i)).length q2] 39) = w20 at B16 B20 hown12 hr19 x16 ⊢
        generalize w19.heap.size = g20 at B20 ⊢
        refine hK.out _ _ trivial (fun hS => ?_)
        clear hK K
        try simp only [Act.put, List.setIfInBounds_toArray, List.set_cons_zero, List.set_cons_succ]
        refine wpAnyH_ready (rs := [9]) (by kernel_rfl) (by simp) ?_
        refine AllReadyH.cons (o := ⟨some 110, _, _, _, _, _⟩) rfl (fun K hK => ?_) AllReadyH.nil
        go_simp
        refine (HJOI.out _ x16 _ _ B20 hr19).mono ?_
        rintro e w21 ⟨rfl, x21⟩
        go_simp
        have B16 := B16.ext x21 (by simp)
        have hown12 := owns_ext hown12 x21 (by simp)
        have x16 := x16.trans x21
        clear x21
        refine hK.out _ _ trivial (fun hS => ?_)
        clear hK K
        try simp only [Act.put, List.setIfInBounds_toArray, List.set_cons_zero, List.set_cons_succ]
        refine wpAnyH_take (i := 10) (oi := ⟨some 111, _, _, _, _, _⟩) (v := ?_) rfl (by kernel_rfl) (by kernel_rfl) (by kernel_rfl) (fun ch a w h => hP ch a _ _ w h) (Or.inl ⟨by rfl, ?_⟩) (by assumption) ?_
        rotate_left 1
        · (intro w hSw; (try dsimp only at hSw); go_split_ands; (try go_simp); (try with_reducible rfl))
        try simp only [Act.put, List.setIfInBounds_toArray, List.set_cons_zero, List.set_cons_succ]
        refine wpAnyH_take (i := 11) (oi := ⟨some 112, _, _, _, _, _⟩) (v := ?_) rfl (by kernel_rfl) (by kernel_rfl) (by kernel_rfl) (fun ch a w h => hP ch a _ _ w h) (Or.inl ⟨by rfl, ?_⟩) (by assumption) ?_
        rotate_left 1
        · (intro w hSw; (try dsimp only at hSw); go_split_ands; (try go_simp); (try with_reducible rfl))
        try simp only [Act.put, List.setIfInBounds_toArray, List.set_cons_zero, List.set_cons_succ]
        refine wpAnyH_done (by kernel_rfl) ?_ _
        exact hQ.out _ _ _ _ _ _ _ _ _ _ _ _ hown12 x16
      · skip
        obtain ⟨q1, q2, rfl⟩ := owns_slice hown19
        go_simp
        have B20 := Blk.new w19 39 #[.slice q1 (encL (prog3 0 1 0 i)).length q2]
        have x20 : Ext [] w19 (w19.alloc (.cells #[.slice q1 (encL (prog3 0 1 0 i)).length q2] 39)) := (Ext.refl _ _).alloc _
        have B16 := B16.ext x20 (by simp)
        have hown12 := owns_ext hown12 x20 (by simp)
        have hr19 := (owns_reads hown19).ext x20
        have x16 := x16.trans x20
        clear x20 hown19
        generalize w19.alloc (.cells #[.slice q1 (encL (prog3 0 1 0 i)).length q2] 39) = w20 at B16 B20 hown12 hr19 x16 ⊢
        generalize w19.heap.size = g20 at B20 ⊢
        refine hK.out _ _ trivial (fun hS => ?_)
        clear hK K
        try simp only [Act.put, List.setIfInBounds_toArray, List.set_cons_zero, List.set_cons_succ]
        refine wpAnyH_ready (rs := [5, 9]) (by kernel_rfl) (by simp) ?_
        refine AllReadyH.cons (o := ⟨some 106, _, _, _, _, _⟩) rfl (fun K hK => ?_) (AllReadyH.cons (o := ⟨some 110, _, _, _, _, _⟩) rfl (fun K hK => ?_) AllReadyH.nil)
        · skip
          refine step_ldpart (by rfl) 36 (.tmp 20) rfl g16 0 rfl ov _ B16.part hu rfl hsz ?_
          refine hK.out _ _ trivial (fun hS => ?_)
          clear hK K
          try simp only [Act.put, List.setIfInBounds_toArray, List.set_cons_zero, List.set_cons_succ]
          refine wpAnyH_ready (rs := [9]) (by kernel_rfl) (by simp) ?_
          refine AllReadyH.cons (o := ⟨some 110, _, _, _, _, _⟩) rfl (fun K hK => ?_) AllReadyH.nil
          go_simp
          refine (HJOI.out _ x16 _ _ B20 hr19).mono ?_
          rintro e w21 ⟨rfl, x21⟩
          go_simp
          have B16 := B16.ext x21 (by simp)
          have hown12 := owns_ext hown12 x21 (by simp)
          have x16 := x16.trans x21
          clear x21
          refine hK.out _ _ trivial (fun hS => ?_)
          clear hK K
          try simp only [Act.put, List.setIfInBounds_toArray, List.set_cons_zero, List.set_cons_succ]
          refine wpAnyH_take (i := 10) (oi := ⟨some 111, _, _, _, _, _⟩) (v := ?_) rfl (by kernel_rfl) (by kernel_rfl) (by kernel_rfl) (fun ch a w h => hP ch a _ _ w h) (Or.inl ⟨by rfl, ?_⟩) (by assumption) ?_
          rotate_left 1
          · (intro w hSw; (try dsimp only at hSw); go_split_ands; (try go_simp); (try with_reducible rfl))
          try simp only [Act.put, List.setIfInBounds_toArray, List.set_cons_zero, List.set_cons_succ]
          refine wpAnyH_take (i := 11) (oi := ⟨some 112, _, _, _, _, _⟩) (v := ?_) rfl (by kernel_rfl) (by kernel_rfl) (by kernel_rfl) (fun ch a w h => hP ch a _ _ w h) (Or.inl ⟨by rfl, ?_⟩) (by assumption) ?_
          rotate_left 1
          · (intro w hSw; (try dsimp only at hSw); go_split_ands; (try go_simp); (try with_reducible rfl))
          try simp only [Act.put, List.setIfInBounds_toArray, List.set_cons_zero, List.set_cons_succ]
          refine wpAnyH_done (by kernel_rfl) ?_ _
          exact hQ.out _ _ _ _ _ _ _ _ _ _ _ _ hown12 x16
        · skip
          go_simp
          refine (HJOI.out _ x16 _ _ B20 hr19).mono ?_
          rintro e w21 ⟨rfl, x21⟩
          go_simp
          have B16 := B16.ext x21 (by simp)
          have hown12 := owns_ext hown12 x21 (by simp)
          have x16 := x16.trans x21
          clear x21
          refine hK.out _ _ trivial (fun hS => ?_)
          clear hK K
          try simp only [Act.put, List.setIfInBounds_toArray, List.set_cons_zero, List.set_cons_succ]
          refine wpAnyH_ready (rs := [5]) (by kernel_rfl) (by simp) ?_
          refine AllReadyH.cons (o := ⟨some 106, _, _, _, _, _⟩) rfl (fun K hK => ?_) AllReadyH.nil
          refine step_ldpart (by rfl) 36 (.tmp 20) rfl g16 0 rfl ov _ B16.part hu rfl hsz ?_
          refine hK.out _ _ trivial (fun hS => ?_)
          clear hK K
          try simp only [Act.put, List.setIfInBounds_toArray, List.set_cons_zero, List.set_cons_succ]
          refine wpAnyH_take (i := 10) (oi := ⟨some 111, _, _, _, _, _⟩) (v := ?_) rfl (by kernel_rfl) (by kernel_rfl) (by kernel_rfl) (fun ch a w h => hP ch a _ _ w h) (Or.inl ⟨by rfl, ?_⟩) (by assumption) ?_
          rotate_left 1
          · (intro w hSw; (try dsimp only at hSw); go_split_ands; (try go_simp); (try with_reducible rfl))
          try simp only [Act.put, List.setIfInBounds_toArray, List.set_cons_zero, List.set_cons_succ]
          refine wpAnyH_take (i := 11) (oi := ⟨some 112, _, _, _, _, _⟩) (v := ?_) rfl (by kernel_rfl) (by kernel_rfl) (by kernel_rfl) (fun ch a w h => hP ch a _ _ w h) (Or.inl ⟨by rfl, ?_⟩) (by assumption) ?_
          rotate_left 1
          · (intro w hSw; (try dsimp only at hSw); go_split_ands; (try go_simp); (try with_reducible rfl))
          try simp only [Act.put, List.setIfInBounds_toArray, List.set_cons_zero, List.set_cons_succ]
          refine wpAnyH_done (by kernel_rfl) ?_ _
          exact hQ.out _ _ _ _ _ _ _ _ _ _ _ _ hown12 x16
  · skip
    go_simp
    refine (HSUM.out _ x16 (owns_reads hown15)).mono ?_
    rintro e w18 ⟨rfl, x18⟩
    go_simp
    have B16 := B16.ext x18 (by simp)
    have hown12 := owns_ext hown12 x18 (by simp)
    have x16 := x16.trans x18
    clear x18 hown15
    refine hK.out _ _ trivial (fun hS => ?_)
    clear hK K
    try simp only [Act.put, List.setIfInBounds_toArray, List.set_cons_zero, List.set_cons_succ]
    refine wpAnyH_ready (rs := [0]) (by kernel_rfl) (by simp) ?_
    refine AllReadyH.cons (o := ⟨some 101, _, _, _, _, _⟩) rfl (fun K hK => ?_) AllReadyH.nil
    refine step_ldpart (by rfl) 36 (.tmp 20) rfl g16 0 rfl ov _ B16.part hu rfl hsz ?_
    refine hK.out _ _ trivial (fun hS => ?_)
    clear hK K
    try simp only [Act.put, List.setIfInBounds_toArray, List.set_cons_zero, List.set_cons_succ]
    refine wpAnyH_take (i := 3) (oi := ⟨some 104, _, _, _, _, _⟩) (v := ?_) rfl (by kernel_rfl) (by kernel_rfl) (by kernel_rfl) (fun ch a w h => hP ch a _ _ w h) (Or.inl ⟨by rfl, ?_⟩) (by assumption) ?_
    rotate_left 1
    · (intro w hSw; (try dsimp only at hSw); go_split_ands; (try go_simp); (try with_reducible rfl))
    try simp only [Act.put, List.setIfInBounds_toArray, List.set_cons_zero, List.set_cons_succ]
    refine wpAnyH_take (i := 4) (oi := ⟨some 105, _, _, _, _, _⟩) (v := ?_) rfl (by kernel_rfl) (by kernel_rfl) (by kernel_rfl) (fun ch a w h => hP ch a _ _ w h) (Or.inl ⟨by rfl, ?_⟩) (by assumption) ?_
    rotate_left 1
    · (intro w hSw; (try dsimp only at hSw); go_split_ands; (try go_simp); (try with_reducible rfl))
    try simp only [Act.put, List.setIfInBounds_toArray, List.set_cons_zero, List.set_cons_succ]
    refine wpAnyH_take (i := 6) (oi := ⟨some 107, _, _, _, _, _⟩) (v := ?_) rfl (by kernel_rfl) (by kernel_rfl) (by kernel_rfl) (fun ch a w h => hP ch a _ _ w h) (Or.inl ⟨by rfl, ?_⟩) (by assumption) ?_
    rotate_left 1
    · (intro w hSw; (try dsimp only at hSw); go_split_ands; (try go_simp); (try with_reducible rfl))
    try simp only [Act.put, List.setIfInBounds_toArray, List.set_cons_zero, List.set_cons_succ]
    refine wpAnyH_ready (rs := [5, 7]) (by kernel_rfl) (by simp) ?_
    refine AllReadyH.cons (o := ⟨some 106, _, _, _, _, _⟩) rfl (fun K hK => ?_) (AllReadyH.cons (o := ⟨some 108, _, _, _, _, _⟩) rfl (fun K hK => ?_) AllReadyH.nil)
    · skip
      refine step_ldpart (by rfl) 36 (.tmp 20) rfl g16 0 rfl ov _ B16.part hu rfl hsz ?_
      refine hK.out _ _ trivial (fun hS => ?_)
      clear hK K
      try simp only [Act.put, List.setIfInBounds_toArray, List.set_cons_zero, List.set_cons_succ]
      refine wpAnyH_ready (rs := [7]) (by kernel_rfl) (by simp) ?_
      refine AllReadyH.cons (o := ⟨some 108, _, _, _, _, _⟩) rfl (fun K hK => ?_) AllReadyH.nil
      go_simp
      refine (encode_any _ (prog3 0 1 0 i) _ (owns_reads hown12) (by show 8 ≤ 100000; omega)).mono ?_
      rintro e w19 ⟨v19, rfl, hown19, x19, -⟩
      go_simp
      have B16 := B16.ext x19 (by simp)
      have hown12 := owns_ext hown12 x19 (by simp)
      have x16 := x16.trans x19
      clear x19
      refine hK.out _ _ trivial (fun hS => ?_)
      clear hK K
      try simp only [Act.put, List.setIfInBounds_toArray, List.set_cons_zero, List.set_cons_succ]
      refine wpAnyH_ready (rs := [8]) (by kernel_rfl) (by simp) ?_
      refine AllReadyH.cons (o := ⟨some 109, _, _, _, _, _⟩) rfl (fun K hK => ?_) AllReadyH.nil
      obtain ⟨q1, q2, rfl⟩ := owns_slice hown19
      go_simp
      have B20 := Blk.new w19 39 #[.slice q1 (encL (prog3 0 1 0 i)).length q2]
      have x20 : Ext [] w19 (w19.alloc (.cells #[.slice q1 (encL (prog3 0 1 0 i)).length q2] 39)) := (Ext.refl _ _).alloc _
      have B16 := B16.ext x20 (by simp)
      have hown12 := owns_ext hown12 x20 (by simp)
      have hr19 := (owns_reads hown19).ext x20
      have x16 := x16.trans x20
      clear x20 hown19
      generalize w19.alloc (.cells #[.slice q1 (encL (prog3 0 1 0 i)).length q2] 39) = w20 at B16 B20 hown12 hr19 x16 ⊢
      generalize w19.heap.size = g20 at B20 ⊢
      refine hK.out _ _ trivial (fun hS => ?_)
      clear hK K
      try simp only [Act.put, List.setIfInBounds_toArray, List.set_cons_zero, List.set_cons_succ]
      refine wpAnyH_ready (rs := [9]) (by kernel_rfl) (by simp) ?_
      refine AllReadyH.cons (o := ⟨some 110, _, _, _, _, _⟩) rfl (fun K hK => ?_) AllReadyH.nil
      go_simp
      refine (HJOI.out _ x16 _ _ B20 hr19).mono ?_
      rintro e w21 ⟨rfl, x21⟩
      go_simp
      have B16 := B16.ext x21 (by simp)
      have hown12 := owns_ext hown12 x21 (by simp)
      have x16 := x16.trans x21
      clear x21
      refine hK.out _ _ trivial (fun hS => ?_)
      clear hK K
      try simp only [Act.put, List.setIfInBounds_toArray, List.set_cons_zero, List.set_cons_succ]
      refine wpAnyH_take (i := 10) (oi := ⟨some 111, _, _, _, _, _⟩) (v := ?_) rfl (by kernel_rfl) (by kernel_rfl) (by kernel_rfl) (fun ch a w h => hP ch a _ _ w h) (Or.inl ⟨by rfl, ?_⟩) (by assumption) ?_
      rotate_left 1
      · (intro w hSw; (try dsimp only at hSw); go_split_ands; (try go_simp); (try with_reducible rfl))
      try simp only [Act.put, List.setIfInBounds_toArray, List.set_cons_zero, List.set_cons_succ]
      refine wpAnyH_take (i := 11) (oi := ⟨some 112, _, _, _, _, _⟩) (v := ?_) rfl (by kernel_rfl) (by kernel_rfl) (by kernel_rfl) (fun ch a w h => hP ch a _ _ w h) (Or.inl ⟨by rfl, ?_⟩) (by assumption) ?_
      rotate_left 1
      · (intro w hSw; (try dsimp only at hSw); go_split_ands; (try go_simp); (try with_reducible rfl))
      try simp only [Act.put, List.setIfInBounds_toArray, List.set_cons_zero, List.set_cons_succ]
      refine wpAnyH_done (by kernel_rfl) ?_ _
      exact hQ.out _ _ _ _ _ _ _ _ _ _ _ _ hown12 x16
    · skip
      go_simp
      refine (encode_any _ (prog3 0 1 0 i) _ (owns_reads hown12) (by show 8 ≤ 100000; omega)).mono ?_
      rintro e w19 ⟨v19, rfl, hown19, x19, -⟩
      go_simp
      have B16 := B16.ext x19 (by simp)
      have hown12 := owns_ext hown12 x19 (by simp)
      have x16 := x16.trans x19
      clear x19
      refine hK.out _ _ trivial (fun hS => ?_)
      clear hK K
      try simp only [Act.put, List.setIfInBounds_toArray, List.set_cons_zero, List.set_cons_succ]
      refine wpAnyH_ready (rs := [5, 8]) (by kernel_rfl) (by simp) ?_
      refine AllReadyH.cons (o := ⟨some 106, _, _, _, _, _⟩) rfl (fun K hK => ?_) (AllReadyH.cons (o := ⟨some 109, _, _, _, _, _⟩) rfl (fun K hK => ?_) AllReadyH.nil)
      · skip
        refine step_ldpart (by rfl) 36 (.tmp 20) rfl g16 0 rfl ov _ B16.part hu rfl hsz ?_
        refine hK.out _ _ trivial (fun hS => ?_)
        clear hK K
        try simp only [Act.put, List.setIfInBounds_toArray, List.set_cons_zero, List.set_cons_succ]
        refine wpAnyH_ready (rs := [8]) (by kernel_rfl) (by simp) ?_
        refine AllReadyH.cons (o := ⟨some 109, _, _, _, _, _⟩) rfl (fun K hK => ?_) AllReadyH.nil
        obtain ⟨q1, q2, rfl⟩ := owns_slice hown19
        go_simp
        have B20 := Blk.new w19 39 #[.slice q1 (encL (prog3 0 1 0 i)).length q2]
        have x20 : Ext [] w19 (w19.alloc (.cells #[.slice q1 (encL (prog3 0 1 0 i)).length q2] 39)) := (Ext.refl _ _).alloc _
        have B16 := B16.ext x20 (by simp)
        have hown12 := owns_ext hown12 x20 (by simp)
        have hr19 := (owns_reads hown19).ext x20
        have x16 := x16.trans x20
        clear x20 hown19
        generalize w19.alloc (.cells #[.slice q1 (encL (prog3 0 1 0 i)).length q2] 39) = w20 at B16 B20 hown12 hr19 x16 ⊢
        generalize w19.heap.size = g20 at B20 ⊢
        refine hK.out _ _ trivial (fun hS => ?_)
        clear hK K
        try simp only [Act.put, List.setIfInBounds_toArray, List.set_cons_zero, List.set_cons_succ]
        refine wpAnyH_ready (rs := [9]) (by kernel_rfl) (by simp) ?_
        refine AllReadyH.cons (o := ⟨some 110, _, _, _, _, _⟩) rfl (fun K hK => ?_) AllReadyH.nil
        go_simp
        refine (HJOI.out _ x16 _ _ B20 hr19).mono ?_
        rintro e w21 ⟨rfl, x21⟩
        go_simp
        have B16 := B16.ext x21 (by simp)
        have hown12 := owns_ext hown12 x21 (by simp)
        have x16 := x16.trans x21
        clear x21
        refine hK.out _ _ trivial (fun hS => ?_)
        clear hK K
        try simp only [Act.put, List.setIfInBounds_toArray, List.set_cons_zero, List.set_cons_succ]
        refine wpAnyH_take (i := 10) (oi := ⟨some 111, _, _, _, _, _⟩) (v := ?_) rfl (by kernel_rfl) (by kernel_rfl) (by kernel_rfl) (fun ch a w h => hP ch a _ _ w h) (Or.inl ⟨by rfl, ?_⟩) (by assumption) ?_
        rotate_left 1
        · (intro w hSw; (try dsimp only at hSw); go_split_ands; (try go_simp); (try with_reducible rfl))
        try simp only [Act.put, List.setIfInBounds_toArray, List.set_cons_zero, List.set_cons_succ]
        refine wpAnyH_take (i := 11) (oi := ⟨some 112, _, _, _, _, _⟩) (v := ?_) rfl (by kernel_rfl) (by kernel_rfl) (by kernel_rfl) (fun ch a w h => hP ch a _ _ w h) (Or.inl ⟨by rfl, ?_⟩) (by assumption) ?_
        rotate_left 1
        · (intro w hSw; (try dsimp only at hSw); go_split_ands; (try go_simp); (try with_reducible rfl))
        try simp only [Act.put, List.setIfInBounds_toArray, List.set_cons_zero, List.set_cons_succ]
        refine wpAnyH_done (by kernel_rfl) ?_ _
        exact hQ.out _ _ _ _ _ _ _ _ _ _ _ _ hown12 x16
      · skip
        obtain ⟨q1, q2, rfl⟩ := owns_slice hown19
        go_simp
        have B20 := Blk.new w19 39 #[.slice q1 (encL (prog3 0 1 0 i)).length q2]
        have x20 : Ext [] w19 (w19.alloc (.cells #[.slice q1 (encL (prog3 0 1 0 i)).length q2] 39)) := (Ext.refl _ _).alloc _
        have B16 := B16.ext x20 (by simp)
        have hown12 := owns_ext hown12 x20 (by simp)
        have hr19 := (owns_reads hown19).ext x20
        have x16 := x16.trans x20
        clear x20 hown19
        generalize w19.alloc (.cells #[.slice q1 (encL (prog3 0 1 0 i)).length q2] 39) = w20 at B16 B20 hown12 hr19 x16 ⊢
        generalize w19.heap.size = g20 at B20 ⊢
        refine hK.out _ _ trivial (fun hS => ?_)
        clear hK K
        try simp only [Act.put, List.setIfInBounds_toArray, List.set_cons_zero, List.set_cons_succ]
        refine wpAnyH_ready (rs := [5, 9]) (by kernel_rfl) (by simp) ?_
        refine AllReadyH.cons (o := ⟨some 106, _, _, _, _, _⟩) rfl (fun K hK => ?_) (AllReadyH.cons (o := ⟨some 110, _, _, _, _, _⟩) rfl (fun K hK => ?_) AllReadyH.nil)
        · skip
          refine step_ldpart (by rfl) 36 (.tmp 20) rfl g16 0 rfl ov _ B16.part hu rfl hsz ?_
          refine hK.out _ _ trivial (fun hS => ?_)
          clear hK K
          try simp only [Act.put, List.setIfInBounds_toArray, List.set_cons_zero, List.set_cons_succ]
          refine wpAnyH_ready (rs := [9]) (by kernel_rfl) (by simp) ?_
          refine AllReadyH.cons (o := ⟨some 110, _, _, _, _, _⟩) rfl (fun K hK => ?_) AllReadyH.nil
          go_simp
          refine (HJOI.out _ x16 _ _ B20 hr19).mono ?_
          rintro e w21 ⟨rfl, x21⟩
          go_simp
          have B16 := B16.ext x21 (by simp)
          have hown12 := owns_ext hown12 x21 (by simp)
          have x16 := x16.trans x21
          clear x21
          refine hK.out _ _ trivial (fun hS => ?_)
          clear hK K
          try simp only [Act.put, List.setIfInBounds_toArray, List.set_cons_zero, List.set_cons_succ]
          refine wpAnyH_take (i := 10) (oi := ⟨some 111, _, _, _, _, _⟩) (v := ?_) rfl (by kernel_rfl) (by kernel_rfl) (by kernel_rfl) (fun ch a w h => hP ch a _ _ w h) (Or.inl ⟨by rfl, ?_⟩) (by assumption) ?_
          rotate_left 1
          · (intro w hSw; (try dsimp only at hSw); go_split_ands; (try go_simp); (try with_reducible rfl))
          try simp only [Act.put, List.setIfInBounds_toArray, List.set_cons_zero, List.set_cons_succ]
          refine wpAnyH_take (i := 11) (oi := ⟨some 112, _, _, _, _, _⟩) (v := ?_) rfl (by kernel_rfl) (by kernel_rfl) (by kernel_rfl) (fun ch a w h => hP ch a _ _ w h) (Or.inl ⟨by rfl, ?_⟩) (by assumption) ?_
          rotate_left 1
          · (intro w hSw; (try dsimp only at hSw); go_split_ands; (try go_simp); (try with_reducible rfl))
          try simp only [Act.put, List.setIfInBounds_toArray, List.set_cons_zero, List.set_cons_succ]
          refine wpAnyH_done (by kernel_rfl) ?_ _
          exact hQ.out _ _ _ _ _ _ _ _ _ _ _ _ hown12 x16
        · skip
          go_simp
          refine (HJOI.out _ x16 _ _ B20 hr19).mono ?_
          rintro e w21 ⟨rfl, x21⟩
          go_simp
          have B16 := B16.ext x21 (by simp)
          have hown12 := owns_ext hown12 x21 (by simp)
          have x16 := x16.trans x21
          clear x21
          refine hK.out _ _ trivial (fun hS => ?_)
          clear hK K
          try simp only [Act.put, List.setIfInBounds_toArray, List.set_cons_zero, List.set_cons_succ]
          refine wpAnyH_ready (rs := [5]) (by kernel_rfl) (by simp) ?_
          refine AllReadyH.cons (o := ⟨some 106, _, _, _, _, _⟩) rfl (fun K hK => ?_) AllReadyH.nil
          refine step_ldpart (by rfl) 36 (.tmp 20) rfl g16 0 rfl ov _ B16.part hu rfl hsz ?_
          refine hK.out _ _ trivial (fun hS => ?_)
          clear hK K
          try simp only [Act.put, List.setIfInBounds_toArray, List.set_cons_zero, List.set_cons_succ]
          refine wpAnyH_take (i := 10) (oi := ⟨some 111, _, _, _, _, _⟩) (v := ?_) rfl (by kernel_rfl) (by kernel_rfl) (by kernel_rfl) (fun ch a w h => hP ch a _ _ w h) (Or.inl ⟨by rfl, ?_⟩) (by assumption) ?_
          rotate_left 1
          · (intro w hSw; (try dsimp only at hSw); go_split_ands; (try go_simp); (try with_reducible rfl))
          try simp only [Act.put, List.setIfInBounds_toArray, List.set_cons_zero, List.set_cons_succ]
          refine wpAnyH_take (i := 11) (oi := ⟨some 112, _, _, _, _, _⟩) (v := ?_) rfl (by kernel_rfl) (by kernel_rfl) (by kernel_rfl) (fun ch a w h => hP ch a _ _ w h) (Or.inl ⟨by rfl, ?_⟩) (by assumption) ?_
          rotate_left 1
          · (intro w hSw; (try dsimp only at hSw); go_split_ands; (try go_simp); (try with_reducible rfl))
          try simp only [Act.put, List.setIfInBounds_toArray, List.set_cons_zero, List.set_cons_succ]
          refine wpAnyH_done (by kernel_rfl) ?_ _
          exact hQ.out _ _ _ _ _ _ _ _ _ _ _ _ hown12 x16

end Go.Proofs.YtbjkfgfiifnjoaaDoor
