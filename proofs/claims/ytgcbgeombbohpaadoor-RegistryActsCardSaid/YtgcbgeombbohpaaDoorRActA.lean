/- The law RegistryActs: one act, in both registries: Add. -/
import Derived.Test.YtgcbgeombbohpaaDoorRActT
namespace Go.Proofs.YtgcbgeombbohpaaDoor
open Go.RowKit
set_option maxRecDepth 100000

def seqHead : Code → Code
  | .seq a _ => a
  | c => c

set_option maxHeartbeats 16000000 in
theorem ract_add (w0 w5 : World) (b bd bk bx : Nat) (v vk vs : Value) (es : List RE) (kb k0 sum : List UInt8) (wt sd ii : Int) (A : Both w0 w5 b v bd vk vs es es) (hn : es.length ≤ 31) (hk : kb.length = 32) (BK : Blk w5 bk 22 (bytesV kb)) (hbk : vk.ownBlock ≠ some bk) (BX : ActB w5 bx wt sd k0 sum ii)
    (hq : wrap64 ((IntKind.u64.wrap wt).tmod 6) = 0 ∨ wrap64 ((IntKind.u64.wrap wt).tmod 6) = 1 ∨ wrap64 ((IntKind.u64.wrap wt).tmod 6) = 2)
    (C : Code) (hC : C = seqHead ((tailAt 13 ractBody).getD .skip)) (Q : Exit → Act → World → Prop) (u0 u1 u2 u3 u4 u7 u9 u11 u12 u13 u14 u15 u16 u17 u18 u19 u20 u21 u22 u23 u24 u25 u26 u27 u28 u29 u30 u31 u32 u33 u34 u35 u36 u37 u38 u39 u40 u41 u42 u43 u44 u45 u46 u47 u48 u49 u50 u51 u52 u53 u54 u55 u56 u57 u58 u59 u60 u61 u62 u63 u64 u65 u66 u67 u68 u69 u70 u71 u72 u73 u74 u75 u76 u77 u78 u79 u80 u81 u82 u83 u84 u85 u86 u87 u88 u89 u90 u91 u92 u93 u94 u95 u96 u97 u98 u99 u100 u101 u102 u103 u104 u105 u106 u107 u108 u109 u110 u111 u112 u113 u114 u115 u116 u117 u118 u119 u120 u121 u122 u123 u124 u125 u126 u127 u128 u129 u130 u131 u132 u133 u134 u135 u136 u137 u138 u139 u140 u141 u142 u143 u144 u145 u146 u147 u148 u149 u150 u151 u152 u153 u154 u155 u156 u157 u158 u159 u160 : Value) (hP : ∀ ch (a : Act) (d : Nat) v w, Q (.panic ch) (a.put (some d) v) w → Q (.panic ch) a w)
    (hQ : ∀ (es2 : List RE) (v2 vk2 vs2 : Value) (s11 s12 s13 s14 s15 s80 s81 s82 s83 s84 s85 s86 s87 s88 s89 s90 s91 s92 s93 s94 s95 s96 s97 s98 s99 s100 s101 s102 s103 s104 s105 s106 s107 s108 s109 s110 s111 s112 s113 s114 s115 s116 s117 s118 s119 s120 s121 s122 s123 s124 s125 s126 s127 s128 s129 s130 s131 s132 s133 s134 s135 s136 s137 s138 s139 s140 s141 s142 s143 : Value) (w' : World), Both w0 w' b v2 bd vk2 vs2 es2 es2 → es2.length ≤ es.length + 1 → Blk w' bk 22 (bytesV kb) → Q .normal ⟨#[u0, u1, u2, u3, u4, .pointer (some ⟨b, 0, none⟩), .pointer (some ⟨bd, 0, none⟩), u7, .pointer (some ⟨bx, 0, none⟩), u9, .pointer (some ⟨bk, 0, none⟩), s11, s12, s13, s14, s15, u16, u17, u18, u19, u20, u21, u22, u23, u24, u25, u26, u27, u28, u29, u30, u31, u32, u33, u34, u35, u36, u37, u38, u39, u40, u41, u42, u43, u44, u45, u46, u47, u48, u49, u50, u51, u52, u53, u54, u55, u56, u57, u58, u59, u60, u61, u62, u63, u64, u65, u66, u67, u68, u69, u70, u71, u72, u73, u74, u75, u76, u77, u78, u79, s80, s81, s82, s83, s84, s85, s86, s87, s88, s89, s90, s91, s92, s93, s94, s95, s96, s97, s98, s99, s100, s101, s102, s103, s104, s105, s106, s107, s108, s109, s110, s111, s112, s113, s114, s115, s116, s117, s118, s119, s120, s121, s122, s123, s124, s125, s126, s127, s128, s129, s130, s131, s132, s133, s134, s135, s136, s137, s138, s139, s140, s141, s142, s143, u144, u145, u146, u147, u148, u149, u150, u151, u152, u153, u154, u155, u156, u157, u158, u159, u160], []⟩ w') :
    Code.wp Tryd.prog C Q ⟨#[u0, u1, u2, u3, u4, .pointer (some ⟨b, 0, none⟩), .pointer (some ⟨bd, 0, none⟩), u7, .pointer (some ⟨bx, 0, none⟩), u9, .pointer (some ⟨bk, 0, none⟩), u11, u12, u13, u14, u15, u16, u17, u18, u19, u20, u21, u22, u23, u24, u25, u26, u27, u28, u29, u30, u31, u32, u33, u34, u35, u36, u37, u38, u39, u40, u41, u42, u43, u44, u45, u46, u47, u48, u49, u50, u51, u52, u53, u54, u55, u56, u57, u58, u59, u60, u61, u62, u63, u64, u65, u66, u67, u68, u69, u70, u71, u72, u73, u74, u75, u76, u77, u78, u79, u80, u81, u82, u83, u84, u85, u86, u87, u88, u89, u90, u91, u92, u93, u94, u95, u96, u97, u98, u99, u100, u101, u102, u103, u104, u105, u106, u107, u108, u109, u110, u111, u112, u113, u114, u115, u116, u117, u118, u119, u120, u121, u122, u123, u124, u125, u126, u127, u128, u129, u130, u131, u132, u133, u134, u135, u136, u137, u138, u139, u140, u141, u142, u143, u144, u145, u146, u147, u148, u149, u150, u151, u152, u153, u154, u155, u156, u157, u158, u159, u160], []⟩ w5 := by
  subst hC
  conv =>
    arg 2
    whnf
  have HQ := Lib.hid hQ
  clear hQ
  obtain ⟨c0, -, -, hxl⟩ := BX.cells
  have HLE := addL_le es kb
  have HA := Lib.hid (fun w' (a : RegAt w' b v es) => radd_any b v es kb w' a (by omega) hk)
  have HD := Lib.hid (fun w' (d : DocR w' bd vk vs es) => doc_add bd vk vs es kb w' d (by omega) hk)
  generalize addE es kb = E at *
  generalize addL es kb = L at *
  have hkl : (bytesV kb).length = 32 := by rw [bytesV_length, hk]
  generalize bytesV kb = kv at *
  have hu := Tryd.underlying22
  have hsz : (Tryd.prog.info? 22).map (·.size) = some kv.length := by rw [hkl]; kernel_rfl
  clear BX
  rcases hq with hq | hq | hq
  all_goals
    go_upto_region 14 with (fail)
    rw [hq]
    clear c0 hxl
    go_upto_region 17 with (fail)
    have A := A.ext0 ((Ext.refl _ _).drew)
    have BK := BK.drew
    refine wp_region_held_drew (S := fun w' => w'.rangeAt bk 0 kv) (by kernel_rfl) (range_of_blk4 BK) (fun hS => ?_)
    generalize w5.drew = w6 at *
    refine wpAnyH_take (i := 0) (oi := ⟨some 89, _, _, _, _, _⟩) (v := ?_) rfl (by kernel_rfl) (by kernel_rfl) (by kernel_rfl) (fun ch a w h => hP ch a _ _ w h) (Or.inl ⟨by rfl, ?_⟩) (by assumption) ?_
    rotate_left 1
    · (intro w hSw; (try dsimp only at hSw); go_split_ands; (try go_simp); (try with_reducible rfl))
    try simp only [Act.put, List.setIfInBounds_toArray, List.set_cons_zero, List.set_cons_succ]
    refine wpAnyH_take (i := 1) (oi := ⟨some 90, _, _, _, _, _⟩) (v := .agg kv.toArray) rfl (by kernel_rfl) (by kernel_rfl) (by kernel_rfl) (fun ch a w h => hP ch a _ _ w h) (yieldsIf_load_mid (by rfl) _ _ rfl bk 0 rfl kv _ (fun w h => h) hu rfl hsz) (by assumption) ?_
    try simp only [Act.put, List.setIfInBounds_toArray, List.set_cons_zero, List.set_cons_succ]
    refine wpAnyH_take (i := 3) (oi := ⟨some 92, _, _, _, _, _⟩) (v := ?_) rfl (by kernel_rfl) (by kernel_rfl) (by kernel_rfl) (fun ch a w h => hP ch a _ _ w h) (Or.inl ⟨by rfl, ?_⟩) (by assumption) ?_
    rotate_left 1
    · (intro w hSw; (try dsimp only at hSw); go_split_ands; (try go_simp); (try with_reducible rfl))
    try simp only [Act.put, List.setIfInBounds_toArray, List.set_cons_zero, List.set_cons_succ]
    refine wpAnyH_take (i := 4) (oi := ⟨some 93, _, _, _, _, _⟩) (v := .agg kv.toArray) rfl (by kernel_rfl) (by kernel_rfl) (by kernel_rfl) (fun ch a w h => hP ch a _ _ w h) (yieldsIf_load_mid (by rfl) _ _ rfl bk 0 rfl kv _ (fun w h => h) hu rfl hsz) (by assumption) ?_
    try simp only [Act.put, List.setIfInBounds_toArray, List.set_cons_zero, List.set_cons_succ]
    refine wpAnyH_ready (rs := [2]) (by kernel_rfl) (by simp) ?_
    refine AllReadyH.cons (o := ⟨some 91, _, _, _, _, _⟩) rfl (fun K hK => ?_) AllReadyH.nil
    go_simp
    refine (HA.out _ A.l.at_).mono ?_
    intro e w7 hp
    obtain ⟨v2, rfl, A7, x7⟩ := A.prog hp
    have BK7 := BK.ext x7 (A.offP BK (by decide) (by decide))
    clear hp A BK x7 hS
    go_simp
    refine hK.out _ _ (range_of_blk4 BK7) (fun hS => ?_)
    clear hK K
    try simp only [Act.put, List.setIfInBounds_toArray, List.set_cons_zero, List.set_cons_succ]
    refine wpAnyH_ready (rs := [5]) (by kernel_rfl) (by simp) ?_
    refine AllReadyH.cons (o := ⟨some 94, _, _, _, _, _⟩) rfl (fun K hK => ?_) AllReadyH.nil
    go_simp
    refine (HD.out _ A7.d).mono ?_
    intro e w8 hp
    obtain ⟨vk2, vs2, rfl, A8, x8, -⟩ := A7.doc hp
    have BK8 := BK7.ext x8 (A7.offD BK7 (by decide) (by decide) hbk)
    clear hp A7 BK7 x8 hS
    go_simp
    refine hK.out _ _ (range_of_blk4 BK8) (fun hS => ?_)
    clear hK K
    try simp only [Act.put, List.setIfInBounds_toArray, List.set_cons_zero, List.set_cons_succ]
    refine wpAnyH_take (i := 6) (oi := ⟨some 95, _, _, _, _, _⟩) (v := ?_) rfl (by kernel_rfl) (by kernel_rfl) (by kernel_rfl) (fun ch a w h => hP ch a _ _ w h) (Or.inl ⟨by rfl, ?_⟩) (by assumption) ?_
    rotate_left 1
    · (intro w hSw; (try dsimp only at hSw); go_split_ands; (try simp only [bne_self_eq_false]); (try go_simp); (try with_reducible rfl))
    try simp only [Act.put, List.setIfInBounds_toArray, List.set_cons_zero, List.set_cons_succ]
    refine wpAnyH_done (by kernel_rfl) ?_ _
    go_wp2_with fail
    exact HQ.out _ _ _ _ _ _ _ _ _ _ _ _ _ _ _ _ _ _ _ _ _ _ _ _ _ _ _ _ _ _ _ _ _ _ _ _ _ _ _ _ _ _ _ _ _ _ _ _ _ _ _ _ _ _ _ _ _ _ _ _ _ _ _ _ _ _ _ _ _ _ _ _ _ _ A8 HLE BK8
end Go.Proofs.YtgcbgeombbohpaaDoor
