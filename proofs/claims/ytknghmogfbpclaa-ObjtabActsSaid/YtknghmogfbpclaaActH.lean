/- The statement ObjtabActs: one act, in both tables: Hold. -/
import Derived.Test.YtknghmogfbpclaaActM
namespace Go.Proofs.Ytknghmogfbpclaa
open Go.RowKit
set_option maxRecDepth 100000

set_option maxHeartbeats 16000000 in
theorem act_hold (B bt bm bd bx size next : Nat) (v : Value) (l : List Ent) (wt xx id : Int) (w0 w5 : World) (hB : B = w0.heap.size) (x5 : Ext [] w0 w5) (A : ActI B w5 bt bm bd v size next l) (_hnx : next ≤ 100)
    (BX : Blk w5 bx 53 [.int .i64 wt, .int .i64 xx, .int .i64 id]) (AP : Apart bx bt bm bd v l) (hq : wrap64 ((IntKind.u64.wrap wt).tmod 6) = 2)
    (C : Code) (hC : C = seqHead ((tailAt 14 actBody).getD .skip)) (Q : Exit → Act → World → Prop) (u0 u1 u2 u3 u4 u5 u6 u7 u8 u9 u10 u12 u14 u16 u17 u18 u19 u20 u21 u22 u23 u24 u25 u26 u27 u28 u29 u30 u31 u32 u33 u34 u35 u36 u37 u38 u39 u40 u41 u42 u43 u44 u45 u46 u47 u48 u49 u50 u51 u52 u53 u54 u55 u56 u57 u58 u59 u60 u61 u62 u63 u64 u65 u66 u67 u68 u69 u70 u71 u72 u73 u74 u75 u76 u77 u78 u79 u80 u81 u82 u83 u84 u85 u86 u87 u88 u89 u90 u91 u92 u93 u94 u95 u96 u97 u98 u99 u100 u101 u102 u103 u104 u105 u106 u107 u108 u109 u110 u111 u112 u113 u114 u115 u116 u117 u118 u119 u120 u121 u122 u123 u124 u125 u126 u127 u128 u129 u130 u131 u132 u133 u134 u135 u136 u137 u138 u139 u140 u141 u142 u143 u144 u145 u146 u147 u148 u149 u150 u151 u152 u153 u154 u155 u156 u157 u158 u159 u160 u161 u162 u163 u164 u165 u166 u167 u168 u169 u170 u171 u172 u173 u174 u175 u176 u177 u178 u179 u180 u181 u182 u183 u184 u185 u186 u187 u188 u189 u190 u191 u192 u193 u194 u195 u196 u197 u198 u199 u200 u201 u202 u203 u204 u205 u206 u207 u208 u209 u210 u211 u212 u213 u214 u215 u216 u217 u218 u219 u220 u221 u222 u223 u224 u225 u226 u227 u228 u229 u230 u231 u232 u233 u234 u235 u236 u237 u238 u239 u240 u241 u242 u243 u244 u245 u246 u247 u248 u249 u250 u251 u252 u253 u254 u255 u256 u257 u258 u259 u260 u261 u262 u263 u264 u265 u266 u267 u268 u269 u270 u271 u272 : Value) (hP : ∀ ch (a : Act) (d : Nat) v w, Q (.panic ch) (a.put (some d) v) w → Q (.panic ch) a w)
    (hQ : ∀ (l2 : List Ent) (v2 : Value) (next2 : Nat) (s16 s17 s18 s19 s20 s21 s22 s23 s24 s25 s26 s108 s109 s110 s111 s112 s113 s114 s115 s116 s117 s118 s119 s120 s121 s122 s123 s124 s125 s126 s127 s128 s129 s130 s131 s132 s133 s134 s135 s136 s137 s138 s139 s140 s141 s142 s143 s144 s145 s146 s147 s148 s149 s150 s151 s152 s153 s154 s155 s156 s157 s158 s159 s160 s161 s162 s163 s164 s165 s166 s167 s168 s169 s170 s171 s172 s173 s174 s175 s176 s177 s178 s179 s180 s181 s182 s183 s184 s185 s186 s187 s188 s189 s190 s191 s192 s193 s194 s195 s196 s197 s198 s199 s200 s201 s202 s203 s204 s205 s206 s207 s208 s209 s210 s211 s212 s213 s214 s215 s216 s217 s218 s219 : Value) (w' : World), ActI B w' bt bm bd v2 size next2 l2 → next2 ≤ next + 1 → Ext [] w0 w' → Q .normal ⟨#[u0, u1, u2, u3, u4, u5, u6, u7, u8, u9, u10, .pointer (some ⟨bt, 0, none⟩), u12, .pointer (some ⟨bd, 0, none⟩), u14, .pointer (some ⟨bx, 0, none⟩), s16, s17, s18, s19, s20, s21, s22, s23, s24, s25, s26, u27, u28, u29, u30, u31, u32, u33, u34, u35, u36, u37, u38, u39, u40, u41, u42, u43, u44, u45, u46, u47, u48, u49, u50, u51, u52, u53, u54, u55, u56, u57, u58, u59, u60, u61, u62, u63, u64, u65, u66, u67, u68, u69, u70, u71, u72, u73, u74, u75, u76, u77, u78, u79, u80, u81, u82, u83, u84, u85, u86, u87, u88, u89, u90, u91, u92, u93, u94, u95, u96, u97, u98, u99, u100, u101, u102, u103, u104, u105, u106, u107, s108, s109, s110, s111, s112, s113, s114, s115, s116, s117, s118, s119, s120, s121, s122, s123, s124, s125, s126, s127, s128, s129, s130, s131, s132, s133, s134, s135, s136, s137, s138, s139, s140, s141, s142, s143, s144, s145, s146, s147, s148, s149, s150, s151, s152, s153, s154, s155, s156, s157, s158, s159, s160, s161, s162, s163, s164, s165, s166, s167, s168, s169, s170, s171, s172, s173, s174, s175, s176, s177, s178, s179, s180, s181, s182, s183, s184, s185, s186, s187, s188, s189, s190, s191, s192, s193, s194, s195, s196, s197, s198, s199, s200, s201, s202, s203, s204, s205, s206, s207, s208, s209, s210, s211, s212, s213, s214, s215, s216, s217, s218, s219, u220, u221, u222, u223, u224, u225, u226, u227, u228, u229, u230, u231, u232, u233, u234, u235, u236, u237, u238, u239, u240, u241, u242, u243, u244, u245, u246, u247, u248, u249, u250, u251, u252, u253, u254, u255, u256, u257, u258, u259, u260, u261, u262, u263, u264, u265, u266, u267, u268, u269, u270, u271, u272], []⟩ w') :
    Code.wp Try.prog C Q ⟨#[u0, u1, u2, u3, u4, u5, u6, u7, u8, u9, u10, .pointer (some ⟨bt, 0, none⟩), u12, .pointer (some ⟨bd, 0, none⟩), u14, .pointer (some ⟨bx, 0, none⟩), u16, u17, u18, u19, u20, u21, u22, u23, u24, u25, u26, u27, u28, u29, u30, u31, u32, u33, u34, u35, u36, u37, u38, u39, u40, u41, u42, u43, u44, u45, u46, u47, u48, u49, u50, u51, u52, u53, u54, u55, u56, u57, u58, u59, u60, u61, u62, u63, u64, u65, u66, u67, u68, u69, u70, u71, u72, u73, u74, u75, u76, u77, u78, u79, u80, u81, u82, u83, u84, u85, u86, u87, u88, u89, u90, u91, u92, u93, u94, u95, u96, u97, u98, u99, u100, u101, u102, u103, u104, u105, u106, u107, u108, u109, u110, u111, u112, u113, u114, u115, u116, u117, u118, u119, u120, u121, u122, u123, u124, u125, u126, u127, u128, u129, u130, u131, u132, u133, u134, u135, u136, u137, u138, u139, u140, u141, u142, u143, u144, u145, u146, u147, u148, u149, u150, u151, u152, u153, u154, u155, u156, u157, u158, u159, u160, u161, u162, u163, u164, u165, u166, u167, u168, u169, u170, u171, u172, u173, u174, u175, u176, u177, u178, u179, u180, u181, u182, u183, u184, u185, u186, u187, u188, u189, u190, u191, u192, u193, u194, u195, u196, u197, u198, u199, u200, u201, u202, u203, u204, u205, u206, u207, u208, u209, u210, u211, u212, u213, u214, u215, u216, u217, u218, u219, u220, u221, u222, u223, u224, u225, u226, u227, u228, u229, u230, u231, u232, u233, u234, u235, u236, u237, u238, u239, u240, u241, u242, u243, u244, u245, u246, u247, u248, u249, u250, u251, u252, u253, u254, u255, u256, u257, u258, u259, u260, u261, u262, u263, u264, u265, u266, u267, u268, u269, u270, u271, u272], []⟩ w5 := by
  subst hC
  conv =>
    arg 2
    whnf
  have HQ := Lib.hid hQ
  clear hQ
  have c0 := BX.cell 0
  have c1 := BX.cell 1
  have c2 := BX.cell 2
  have hxl := BX.lt
  simp only [List.getElem?_cons_zero, List.getElem?_cons_succ] at c0 c1 c2
  have hsm := A.o.small
  have hll := A.o.lsz
  have hB5 : B ≤ w5.heap.size := by rw [hB]; exact x5.size
  all_goals
    go_upto_region 15 with (fail)
    rw [hq]
    clear c0 c1
    by_cases hex : ∃ x ∈ l, (x.id : Int) = id
    · obtain ⟨x, hx, hid0⟩ := hex
      obtain ⟨j, hj, rfl⟩ := List.mem_iff_getElem.1 hx
      have HID := Lib.hid hid0.symm
      have hheld := A.o.held _ hx
      have hxb := A.ap.2.2.2.1 _ hx
      have hxx := AP.e _ hx
      clear hx hid0
      by_cases hmo : l[j].h < 1000
      · have hset := set_blk hj (l[j].h + 1)
        go_upto_region 22 with (fail)
        have HO := A.o.ext0 ((Ext.refl _ _).drew)
        have HD := A.d.ext0 ((Ext.refl _ _).drew)
        have zz : Ext [] w0 w5.drew := x5.drew
        have hS : w5.drew.cell? ⟨bx, 2, none⟩ = some (.int .i64 id) ∧ bx < w5.drew.heap.size := ⟨c2, hxl⟩
        have HA := Lib.hid A
        have HAP := Lib.hid AP
        clear A AP c2 hxl BX x5
        refine wp_region_held_drew (S := fun w' => w'.cell? ⟨bx, 2, none⟩ = some (.int .i64 id) ∧ bx < w'.heap.size) (by kernel_rfl) hS (fun hS => ?_)
        generalize w5.drew = wq at HO HD zz hS ⊢
        refine wpAnyH_take (i := 0) (oi := ⟨some 140, _, _, _, _, _⟩) (v := ?_) rfl (by kernel_rfl) (by kernel_rfl) (by kernel_rfl) (fun ch a w h => hP ch a _ _ w h) (Or.inl ⟨by rfl, ?_⟩) (by assumption) ?_
        rotate_left 1
        · (intro w hSw; (try dsimp only at hSw); go_split_ands; (try go_simp); (try with_reducible rfl))
        try simp only [Act.put, List.setIfInBounds_toArray, List.set_cons_zero, List.set_cons_succ]
        refine wpAnyH_take (i := 1) (oi := ⟨some 141, _, _, _, _, _⟩) (v := ?_) rfl (by kernel_rfl) (by kernel_rfl) (by kernel_rfl) (fun ch a w h => hP ch a _ _ w h) (Or.inl ⟨by rfl, ?_⟩) (by assumption) ?_
        rotate_left 1
        · (intro w hSw; (try dsimp only at hSw); go_split_ands; (try go_simp); (try with_reducible rfl))
        try simp only [Act.put, List.setIfInBounds_toArray, List.set_cons_zero, List.set_cons_succ]
        refine wpAnyH_take (i := 2) (oi := ⟨some 142, _, _, _, _, _⟩) (v := ?_) rfl (by kernel_rfl) (by kernel_rfl) (by kernel_rfl) (fun ch a w h => hP ch a _ _ w h) (Or.inl ⟨by rfl, ?_⟩) (by assumption) ?_
        rotate_left 1
        · (intro w hSw; (try dsimp only at hSw); go_split_ands; (try go_simp); (try with_reducible rfl))
        try simp only [Act.put, List.setIfInBounds_toArray, List.set_cons_zero, List.set_cons_succ]
        refine wpAnyH_take (i := 4) (oi := ⟨some 144, _, _, _, _, _⟩) (v := ?_) rfl (by kernel_rfl) (by kernel_rfl) (by kernel_rfl) (fun ch a w h => hP ch a _ _ w h) (Or.inl ⟨by rfl, ?_⟩) (by assumption) ?_
        rotate_left 1
        · (intro w hSw; (try dsimp only at hSw); go_split_ands; (try go_simp); (try with_reducible rfl))
        try simp only [Act.put, List.setIfInBounds_toArray, List.set_cons_zero, List.set_cons_succ]
        refine wpAnyH_take (i := 5) (oi := ⟨some 145, _, _, _, _, _⟩) (v := ?_) rfl (by kernel_rfl) (by kernel_rfl) (by kernel_rfl) (fun ch a w h => hP ch a _ _ w h) (Or.inl ⟨by rfl, ?_⟩) (by assumption) ?_
        rotate_left 1
        · (intro w hSw; (try dsimp only at hSw); go_split_ands; (try go_simp); (try with_reducible rfl))
        try simp only [Act.put, List.setIfInBounds_toArray, List.set_cons_zero, List.set_cons_succ]
        refine wpAnyH_take (i := 6) (oi := ⟨some 146, _, _, _, _, _⟩) (v := ?_) rfl (by kernel_rfl) (by kernel_rfl) (by kernel_rfl) (fun ch a w h => hP ch a _ _ w h) (Or.inl ⟨by rfl, ?_⟩) (by assumption) ?_
        rotate_left 1
        · (intro w hSw; (try dsimp only at hSw); go_split_ands; (try go_simp); (try with_reducible rfl))
        try simp only [Act.put, List.setIfInBounds_toArray, List.set_cons_zero, List.set_cons_succ]
        refine wpAnyH_ready (rs := [3]) (by kernel_rfl) (by simp) ?_
        refine AllReadyH.cons (o := ⟨some 143, _, _, _, _, _⟩) rfl (fun K hK => ?_) AllReadyH.nil
        go_simp
        refine (I.obj_hold' HO j hj id HID.out hmo).mono ?_
        rintro e wn ⟨rfl, O2, x2, -⟩
        have D2 := HD.ext x2 (by have := HA.out.n1.2.2 _ (List.getElem_mem hj); simp; omega) (by intro g hg; have := (HA.out.n2 g hg).2.2 _ (List.getElem_mem hj); simp; omega)
        have zz2 : Ext [] w0 wn := zz.trans' x2 (by intro i hi; simp at hi; omega)
        have hS2 : wn.cell? ⟨bx, 2, none⟩ = some (.int .i64 id) ∧ bx < wn.heap.size := ⟨(x2.cell (p := ⟨bx, 2, none⟩) hS.2 (by simp; omega)).trans hS.1, Nat.lt_of_lt_of_le hS.2 x2.size⟩
        clear x2 HO HD zz hS
        have HO := O2
        have HD := D2
        have zz := zz2
        clear O2 D2 zz2
        go_simp
        refine hK.out _ _ hS2 (fun hS => ?_)
        clear hS2
        clear hK K
        try simp only [Act.put, List.setIfInBounds_toArray, List.set_cons_zero, List.set_cons_succ]
        refine wpAnyH_ready (rs := [7]) (by kernel_rfl) (by simp) ?_
        refine AllReadyH.cons (o := ⟨some 147, _, _, _, _, _⟩) rfl (fun K hK => ?_) AllReadyH.nil
        go_simp
        refine (doc_hold' HD (by omega) HA.out.o.ids hj HID.out hmo).mono ?_
        rintro e wn ⟨rfl, D2, x2⟩
        have O2 := HA.out.objP (by first | exact fun y hy => ⟨y, hy, rfl⟩ | exact hset) HO x2 own_in
        have zz2 : Ext [] w0 wn := zz.trans' x2 (by intro i hi; have := HA.out.ap.2.2.2.2 i (by simpa using hi); omega)
        have hS2 : wn.cell? ⟨bx, 2, none⟩ = some (.int .i64 id) ∧ bx < wn.heap.size := ⟨(x2.cell (p := ⟨bx, 2, none⟩) hS.2 (by intro hi; have := HAP.out.v bx (by simpa using hi); exact this rfl)).trans hS.1, Nat.lt_of_lt_of_le hS.2 x2.size⟩
        clear x2 HO HD zz hS
        have HO := O2
        have HD := D2
        have zz := zz2
        clear O2 D2 zz2
        go_simp
        refine hK.out _ _ hS2 (fun hS => ?_)
        clear hS2
        clear hK K
        try simp only [Act.put, List.setIfInBounds_toArray, List.set_cons_zero, List.set_cons_succ]
        refine wpAnyH_take (i := 8) (oi := ⟨some 148, _, _, _, _, _⟩) (v := ?_) rfl (by kernel_rfl) (by kernel_rfl) (by kernel_rfl) (fun ch a w h => hP ch a _ _ w h) (Or.inl ⟨by rfl, ?_⟩) (by assumption) ?_
        rotate_left 1
        · (intro w hSw; (try dsimp only at hSw); go_split_ands; (try go_simp); (try with_reducible rfl))
        try simp only [Act.put, List.setIfInBounds_toArray, List.set_cons_zero, List.set_cons_succ]
        refine wpAnyH_done (by kernel_rfl) ?_ _
        have A7 := HA.out.setH j hj _ HO HD
        have hn2 : next ≤ next + 1 := by omega
        clear HO HD
        go_wp2_with fail
        exact HQ.out _ _ _ _ _ _ _ _ _ _ _ _ _ _ _ _ _ _ _ _ _ _ _ _ _ _ _ _ _ _ _ _ _ _ _ _ _ _ _ _ _ _ _ _ _ _ _ _ _ _ _ _ _ _ _ _ _ _ _ _ _ _ _ _ _ _ _ _ _ _ _ _ _ _ _ _ _ _ _ _ _ _ _ _ _ _ _ _ _ _ _ _ _ _ _ _ _ _ _ _ _ _ _ _ _ _ _ _ _ _ _ _ _ _ _ _ _ _ _ _ _ _ _ _ _ _ _ A7 hn2 zz
      · have hm1 : l[j].h = 1000 := by omega
        have HM := Lib.hid (fun n => I.obj_hold_most' (w := w5.drewN n) (A.o.ext0 ((Ext.refl _ _).drewN n)) j hj id HID.out hm1)
        have HD := Lib.hid (fun n => doc_hold_most' (w := w5.drewN n) (A.d.ext0 ((Ext.refl _ _).drewN n)) (by omega) A.o.ids hj HID.out hm1)
        clear hm1 hmo hheld
        go_upto_region 22 with (fail)
        go_quiet ((first | (go_at_call 10; first | exact quiet_left (HM.out _) | exact quiet_add_left (HM.out _)) | (go_at_call 22; first | exact quiet_left (HD.out _) | exact quiet_add_left (HD.out _))))
        have A7 := A.ext0 ((Ext.refl [] w5).drewN nq)
        have x7 := x5.drewN nq
        have hn2 : next ≤ next + 1 := by omega
        clear HM HD A
        go_wp2_with fail
        exact HQ.out _ _ _ _ _ _ _ _ _ _ _ _ _ _ _ _ _ _ _ _ _ _ _ _ _ _ _ _ _ _ _ _ _ _ _ _ _ _ _ _ _ _ _ _ _ _ _ _ _ _ _ _ _ _ _ _ _ _ _ _ _ _ _ _ _ _ _ _ _ _ _ _ _ _ _ _ _ _ _ _ _ _ _ _ _ _ _ _ _ _ _ _ _ _ _ _ _ _ _ _ _ _ _ _ _ _ _ _ _ _ _ _ _ _ _ _ _ _ _ _ _ _ _ _ _ _ _ A7 hn2 x7
    · have hno : ∀ x ∈ l, (x.id : Int) ≠ id := fun x hx e => hex ⟨x, hx, e⟩
      have HM := Lib.hid (fun n => I.obj_hold_no (.pointer (some ⟨bt, 0, none⟩)) id 2 (w5.drewN n) (by omega) (I.obj_find_no (A.o.ext0 ((Ext.refl _ _).drewN n)) id hno))
      have HD := Lib.hid (fun n => doc_hold_no bd v size next l id (w5.drewN n) (A.d.ext0 ((Ext.refl _ _).drewN n)) (by omega) hno)
      clear hno hex
      go_upto_region 22 with (fail)
      go_quiet ((first | (go_at_call 10; first | exact quiet_left (HM.out _) | exact quiet_add_left (HM.out _)) | (go_at_call 22; first | exact quiet_left (HD.out _) | exact quiet_add_left (HD.out _))))
      have A7 := A.ext0 ((Ext.refl [] w5).drewN nq)
      have x7 := x5.drewN nq
      have hn2 : next ≤ next + 1 := by omega
      clear HM HD A
      go_wp2_with fail
      exact HQ.out _ _ _ _ _ _ _ _ _ _ _ _ _ _ _ _ _ _ _ _ _ _ _ _ _ _ _ _ _ _ _ _ _ _ _ _ _ _ _ _ _ _ _ _ _ _ _ _ _ _ _ _ _ _ _ _ _ _ _ _ _ _ _ _ _ _ _ _ _ _ _ _ _ _ _ _ _ _ _ _ _ _ _ _ _ _ _ _ _ _ _ _ _ _ _ _ _ _ _ _ _ _ _ _ _ _ _ _ _ _ _ _ _ _ _ _ _ _ _ _ _ _ _ _ _ _ _ A7 hn2 x7
end Go.Proofs.Ytknghmogfbpclaa
