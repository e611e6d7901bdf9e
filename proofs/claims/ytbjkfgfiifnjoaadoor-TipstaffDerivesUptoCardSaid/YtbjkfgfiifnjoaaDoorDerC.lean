/- TipstaffDerives: the region in which rights become common ones. -/
import Derived.Test.YtbjkfgfiifnjoaaDoorMark
import Derived.Test.YtbjkfgfiifnjoaaDoorParH
import Derived.Test.YtbjkfgfiifnjoaaDoorDerB
namespace Go.Proofs.YtbjkfgfiifnjoaaDoor
open Go.RowKit
set_option maxRecDepth 100000

theorem rtAt_of {w : World} {b o : Nat} {T : TypeId} {cs : List Value} {r : Rt} (h : Blk w b T cs) (hc : ∀ j u, r.cells[j]? = some u → cs[o + j]? = some u) : RtAt w b o r :=
  ⟨(h.cell o).trans (hc 0 _ rfl), (h.cell (o + 1)).trans (hc 1 _ rfl), (h.cell (o + 2)).trans (hc 2 _ rfl), (h.cell (o + 3)).trans (hc 3 _ rfl), (h.cell (o + 4)).trans (hc 4 _ rfl), (h.cell (o + 5)).trans (hc 5 _ rfl), h.lt⟩
theorem rtAt_tok {w : World} {b : Nat} {x : Tk} {up : Value} (h : Blk w b 91 (tkCells x up)) : RtAt w b 1 x.2 := by
  obtain ⟨c0, c1, c2, c3, c4, c5, c6, c7, hl⟩ := tk_cells h
  exact ⟨c1, c2, c3, c4, c5, c6, hl⟩

set_option maxHeartbeats 16000000 in
theorem der22 (rb b0 : Nat) (p r0 : Rt) (w0 : World) (BR : Blk w0 rb 84 p.cells) (HB : Hid (∀ w', Ext [] w0 w' → RtAt w' b0 1 r0))
    (C : Code) (hC : C = (regAt 22 derBody).getD .skip) (Q : Exit → Act → World → Prop) (u0 u1 u2 u3 u4 u5 u6 u7 u8 u9 u10 u12 u13 u14 u16 u17 u18 u19 u20 u21 u22 u23 u24 u25 u26 u27 u28 u29 u30 u31 u32 u33 u34 u35 u36 u37 u38 u39 u40 u41 u42 u43 u44 u45 u46 u47 u48 u49 u50 u51 u52 u53 u54 u55 u56 u57 u58 u59 u60 u61 u62 u63 u64 u65 u66 u67 u68 u69 u70 u71 u72 u73 u74 u75 u76 u77 u78 u79 u80 u81 u82 u83 u84 u85 u86 u87 u88 u89 u90 u91 u92 u93 u94 u95 u96 u97 u98 u99 u100 u101 u102 u103 u104 u105 u106 u107 u108 u109 u110 u111 u112 u113 u114 u115 u116 u117 u118 u119 u120 u121 u122 u123 u124 u125 u126 u127 u128 u129 u130 u131 u132 u133 u134 u135 u136 u137 u138 u139 u140 u141 u142 u143 u144 u145 u146 u147 u148 u149 u150 u151 u152 u153 u154 u155 u156 u157 u158 u159 u160 u161 u162 u163 u164 u165 u166 u167 : Value) (hP : ∀ ch (a : Act) (d : Nat) v w, Q (.panic ch) (a.put (some d) v) w → Q (.panic ch) a w)
    (hQ : ∀ (s87 s88 s89 s90 s91 s92 : Value) (w' : World), Blk w' rb 84 (p.common r0).cells → Ext [rb] w0 w' → Q .normal ⟨#[u0, u1, u2, u3, u4, u5, u6, u7, u8, u9, u10, .pointer (some ⟨b0, 0, none⟩), u12, u13, u14, .pointer (some ⟨rb, 0, none⟩), u16, u17, u18, u19, u20, u21, u22, u23, u24, u25, u26, u27, u28, u29, u30, u31, u32, u33, u34, u35, u36, u37, u38, u39, u40, u41, u42, u43, u44, u45, u46, u47, u48, u49, u50, u51, u52, u53, u54, u55, u56, u57, u58, u59, u60, u61, u62, u63, u64, u65, u66, u67, u68, u69, u70, u71, u72, u73, u74, u75, u76, u77, u78, u79, u80, u81, u82, u83, u84, u85, u86, s87, s88, s89, s90, s91, s92, u93, u94, u95, u96, u97, u98, u99, u100, u101, u102, u103, u104, u105, u106, u107, u108, u109, u110, u111, u112, u113, u114, u115, u116, u117, u118, u119, u120, u121, u122, u123, u124, u125, u126, u127, u128, u129, u130, u131, u132, u133, u134, u135, u136, u137, u138, u139, u140, u141, u142, u143, u144, u145, u146, u147, u148, u149, u150, u151, u152, u153, u154, u155, u156, u157, u158, u159, u160, u161, u162, u163, u164, u165, u166, u167], []⟩ w') :
    Code.wp Tryd.prog C Q ⟨#[u0, u1, u2, u3, u4, u5, u6, u7, u8, u9, u10, .pointer (some ⟨b0, 0, none⟩), u12, u13, u14, .pointer (some ⟨rb, 0, none⟩), u16, u17, u18, u19, u20, u21, u22, u23, u24, u25, u26, u27, u28, u29, u30, u31, u32, u33, u34, u35, u36, u37, u38, u39, u40, u41, u42, u43, u44, u45, u46, u47, u48, u49, u50, u51, u52, u53, u54, u55, u56, u57, u58, u59, u60, u61, u62, u63, u64, u65, u66, u67, u68, u69, u70, u71, u72, u73, u74, u75, u76, u77, u78, u79, u80, u81, u82, u83, u84, u85, u86, u87, u88, u89, u90, u91, u92, u93, u94, u95, u96, u97, u98, u99, u100, u101, u102, u103, u104, u105, u106, u107, u108, u109, u110, u111, u112, u113, u114, u115, u116, u117, u118, u119, u120, u121, u122, u123, u124, u125, u126, u127, u128, u129, u130, u131, u132, u133, u134, u135, u136, u137, u138, u139, u140, u141, u142, u143, u144, u145, u146, u147, u148, u149, u150, u151, u152, u153, u154, u155, u156, u157, u158, u159, u160, u161, u162, u163, u164, u165, u166, u167], []⟩ w0 := by
  subst hC
  conv =>
    arg 2
    whnf
  have HQ := Lib.hid hQ
  clear hQ
  have x0 : Ext [] w0 w0.drew := (Ext.refl _ _).drew
  have HB := Lib.hid (fun w' (x : Ext [] w0.drew w') => HB.out w' (x0.trans x))
  have HR := Lib.hid (fun w' (x : Ext [] w0.drew w') => BR.ext (x0.trans x) (by simp))
  have HX := Lib.hid (fun w' (x : Ext [rb] w0.drew w') => (x0.sub (by simp)).trans x)
  have HC := Lib.hid (fun w' => common_any p r0 w')
  have hfit : 0 + (p.common r0).cells.length ≤ p.cells.length := Nat.le_refl _
  have h1c := rt_one (p.common r0)
  have hsz : (Tryd.prog.info? 84).map (·.size) = some (p.common r0).cells.length := by kernel_rfl
  unfold Rt.val at HC
  clear x0 BR
  refine wp_region_mark 6 (S := fun w' => Ext [] w0.drew w') (by kernel_rfl) (Ext.refl _ _) (fun hS => ?_)
  generalize w0.drew = w9 at *
  refine (?_ : ∀ wq, Ext [] w9 wq → wpAnyM _ _ _ _ _ _ _ _ _ wq) w9 hS
  clear hS
  intro wq hS
  refine wpAnyM_take (i := 0) (oi := ⟨some 87, _, _, _, _, _⟩) (v := ?_) rfl (by kernel_rfl) (by kernel_rfl) (by kernel_rfl) (fun ch a w h => hP ch a _ _ w h) (Or.inl ⟨by rfl, ?_⟩) (by assumption) (by kernel_rfl) (by kernel_rfl) (by kernel_rfl) ?_
  rotate_left 1
  · (intro w hSw; (try dsimp only at hSw); go_split_ands; obtain ⟨p0, p1, p2, p3, p4, p5, p6⟩ := rt_cells (HR.out _ hSw); (try go_simp); (try with_reducible rfl))
  try simp only [Act.put, List.setIfInBounds_toArray, List.set_cons_zero, List.set_cons_succ]
  refine wpAnyM_take0 (i := 1) (oi := ⟨some 88, _, _, _, _, _⟩) (v := ?_) rfl (by kernel_rfl) (by kernel_rfl) (by kernel_rfl) (fun ch a w h => hP ch a _ _ w h) (Or.inl ⟨by rfl, ?_⟩) (by assumption) (by kernel_rfl) ?_
  rotate_left 1
  · (intro w hSw; (try dsimp only at hSw); go_split_ands; (try go_simp); (try with_reducible rfl))
  try simp only [Act.put, List.setIfInBounds_toArray, List.set_cons_zero, List.set_cons_succ]
  refine wpAnyM_take (i := 2) (oi := ⟨some 89, _, _, _, _, _⟩) (v := ?_) rfl (by kernel_rfl) (by kernel_rfl) (by kernel_rfl) (fun ch a w h => hP ch a _ _ w h) (Or.inl ⟨by rfl, ?_⟩) (by assumption) (by kernel_rfl) (by kernel_rfl) (by kernel_rfl) ?_
  rotate_left 1
  · (intro w hSw; (try dsimp only at hSw); go_split_ands; obtain ⟨p0, p1, p2, p3, p4, p5, p6⟩ := HB.out _ hSw; (try go_simp); (try with_reducible rfl))
  try simp only [Act.put, List.setIfInBounds_toArray, List.set_cons_zero, List.set_cons_succ]
  refine wpAnyM_take (i := 3) (oi := ⟨some 90, _, _, _, _, _⟩) (v := ?_) rfl (by kernel_rfl) (by kernel_rfl) (by kernel_rfl) (fun ch a w h => hP ch a _ _ w h) (Or.inl ⟨by rfl, ?_⟩) (by assumption) (by kernel_rfl) (by kernel_rfl) (by kernel_rfl) ?_
  rotate_left 1
  · (intro w hSw; (try dsimp only at hSw); go_split_ands; obtain ⟨p0, p1, p2, p3, p4, p5, p6⟩ := HB.out _ hSw; (try go_simp); (try with_reducible rfl))
  try simp only [Act.put, List.setIfInBounds_toArray, List.set_cons_zero, List.set_cons_succ]
  refine wpAnyM_take (i := 4) (oi := ⟨some 91, _, _, _, _, _⟩) (v := ?_) rfl (by kernel_rfl) (by kernel_rfl) (by kernel_rfl) (fun ch a w h => hP ch a _ _ w h) (Or.inl ⟨by rfl, ?_⟩) (by assumption) (by kernel_rfl) (by kernel_rfl) (by kernel_rfl) ?_
  rotate_left 1
  · (intro w hSw; (try dsimp only at hSw); go_split_ands; obtain ⟨p0, p1, p2, p3, p4, p5, p6⟩ := HB.out _ hSw; (try go_simp); (try with_reducible rfl))
  try simp only [Act.put, List.setIfInBounds_toArray, List.set_cons_zero, List.set_cons_succ]
  refine wpAnyM_ready (rs := [5]) (by kernel_rfl) (by simp) ?_
  refine AllReadyM.cons (o := ⟨some 92, _, _, _, _, _⟩) rfl (fun K hK => ?_) AllReadyM.nil
  go_simp
  refine (HC.out wq).mono ?_
  rintro e W5 ⟨rfl, x5⟩
  go_simp
  have hk := hS.trans x5
  refine hK.out _ _ hk (fun hS => ?_)
  clear hK K
  try simp only [Act.put, List.setIfInBounds_toArray, List.set_cons_zero, List.set_cons_succ]
  refine wpAnyM_ready (rs := [6]) (by kernel_rfl) (by simp) ?_
  refine AllReadyM.mark (o := ⟨none, _, _, _, _, _⟩) rfl (by kernel_rfl) (fun K hK => ?_)
  refine step_strow rfl 84 (.tmp 15) (.tmp 92) rfl rb 0 rfl 84 p.cells (p.common r0).cells rfl (HR.out _ hS) hfit h1c hsz ?_
  intro w7 B7 x7 _
  have x8 := (hS.sub (by simp)).trans x7
  refine hK.out _ _ trivial (fun hS => ?_)
  clear hK K
  try simp only [Act.put]
  refine wpAnyH_done (by kernel_rfl) ?_ _
  exact HQ.out _ _ _ _ _ _ _ (rt_over (zc := p.cells) rfl B7) (HX.out _ x8)
end Go.Proofs.YtbjkfgfiifnjoaaDoor
