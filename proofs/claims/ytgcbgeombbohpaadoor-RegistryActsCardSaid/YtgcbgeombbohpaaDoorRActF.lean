/- The law RegistryActs: one act, in both registries: Find. -/
import Derived.Test.YtgcbgeombbohpaaDoorRActS
namespace Go.Proofs.YtgcbgeombbohpaaDoor
open Go.RowKit
set_option maxRecDepth 100000

set_option maxHeartbeats 16000000 in
theorem ract_find (w0 w5 : World) (b bd bk bx gs : Nat) (sb : UInt8) (v vk vs : Value) (es : List RE) (kb k0 sum : List UInt8) (wt sd ii : Int) (G : DigG w0) (A : Both w0 w5 b v bd vk vs es es) (hn : es.length ≤ 31) (BK : Blk w5 bk 22 (bytesV kb)) (BX : ActB w5 bx wt sd k0 sum ii)
    (hr : Reads w5 (.slice (some ⟨gs, 0, none⟩) 1 1) 1 1 (bytesV [sb]))
    (hq : wrap64 ((IntKind.u64.wrap wt).tmod 6) = 3 ∨ wrap64 ((IntKind.u64.wrap wt).tmod 6) = 4)
    (C : Code) (hC : C = seqHead ((tailAt 13 ractBody).getD .skip)) (Q : Exit → Act → World → Prop) (u0 u1 u2 u3 u4 u7 u11 u12 u13 u14 u15 u16 u17 u18 u19 u20 u21 u22 u23 u24 u25 u26 u27 u28 u29 u30 u31 u32 u33 u34 u35 u36 u37 u38 u39 u40 u41 u42 u43 u44 u45 u46 u47 u48 u49 u50 u51 u52 u53 u54 u55 u56 u57 u58 u59 u60 u61 u62 u63 u64 u65 u66 u67 u68 u69 u70 u71 u72 u73 u74 u75 u76 u77 u78 u79 u80 u81 u82 u83 u84 u85 u86 u87 u88 u89 u90 u91 u92 u93 u94 u95 u96 u97 u98 u99 u100 u101 u102 u103 u104 u105 u106 u107 u108 u109 u110 u111 u112 u113 u114 u115 u116 u117 u118 u119 u120 u121 u122 u123 u124 u125 u126 u127 u128 u129 u130 u131 u132 u133 u134 u135 u136 u137 u138 u139 u140 u141 u142 u143 u144 u145 u146 u147 u148 u149 u150 u151 u152 u153 u154 u155 u156 u157 u158 u159 u160 : Value)
    (hQ : ∀ (es2 : List RE) (v2 vk2 vs2 : Value) (s11 s12 s13 s14 s15 s80 s81 s82 s83 s84 s85 s86 s87 s88 s89 s90 s91 s92 s93 s94 s95 s96 s97 s98 s99 s100 s101 s102 s103 s104 s105 s106 s107 s108 s109 s110 s111 s112 s113 s114 s115 s116 s117 s118 s119 s120 s121 s122 s123 s124 s125 s126 s127 s128 s129 s130 s131 s132 s133 s134 s135 s136 s137 s138 s139 s140 s141 s142 s143 : Value) (w' : World), Both w0 w' b v2 bd vk2 vs2 es2 es2 → es2.length ≤ es.length + 1 → Blk w' bk 22 (bytesV kb) → Q .normal ⟨#[u0, u1, u2, u3, u4, .pointer (some ⟨b, 0, none⟩), .pointer (some ⟨bd, 0, none⟩), u7, .pointer (some ⟨bx, 0, none⟩), .slice (some ⟨gs, 0, none⟩) 1 1, .pointer (some ⟨bk, 0, none⟩), s11, s12, s13, s14, s15, u16, u17, u18, u19, u20, u21, u22, u23, u24, u25, u26, u27, u28, u29, u30, u31, u32, u33, u34, u35, u36, u37, u38, u39, u40, u41, u42, u43, u44, u45, u46, u47, u48, u49, u50, u51, u52, u53, u54, u55, u56, u57, u58, u59, u60, u61, u62, u63, u64, u65, u66, u67, u68, u69, u70, u71, u72, u73, u74, u75, u76, u77, u78, u79, s80, s81, s82, s83, s84, s85, s86, s87, s88, s89, s90, s91, s92, s93, s94, s95, s96, s97, s98, s99, s100, s101, s102, s103, s104, s105, s106, s107, s108, s109, s110, s111, s112, s113, s114, s115, s116, s117, s118, s119, s120, s121, s122, s123, s124, s125, s126, s127, s128, s129, s130, s131, s132, s133, s134, s135, s136, s137, s138, s139, s140, s141, s142, s143, u144, u145, u146, u147, u148, u149, u150, u151, u152, u153, u154, u155, u156, u157, u158, u159, u160], []⟩ w') :
    Code.wp Tryd.prog C Q ⟨#[u0, u1, u2, u3, u4, .pointer (some ⟨b, 0, none⟩), .pointer (some ⟨bd, 0, none⟩), u7, .pointer (some ⟨bx, 0, none⟩), .slice (some ⟨gs, 0, none⟩) 1 1, .pointer (some ⟨bk, 0, none⟩), u11, u12, u13, u14, u15, u16, u17, u18, u19, u20, u21, u22, u23, u24, u25, u26, u27, u28, u29, u30, u31, u32, u33, u34, u35, u36, u37, u38, u39, u40, u41, u42, u43, u44, u45, u46, u47, u48, u49, u50, u51, u52, u53, u54, u55, u56, u57, u58, u59, u60, u61, u62, u63, u64, u65, u66, u67, u68, u69, u70, u71, u72, u73, u74, u75, u76, u77, u78, u79, u80, u81, u82, u83, u84, u85, u86, u87, u88, u89, u90, u91, u92, u93, u94, u95, u96, u97, u98, u99, u100, u101, u102, u103, u104, u105, u106, u107, u108, u109, u110, u111, u112, u113, u114, u115, u116, u117, u118, u119, u120, u121, u122, u123, u124, u125, u126, u127, u128, u129, u130, u131, u132, u133, u134, u135, u136, u137, u138, u139, u140, u141, u142, u143, u144, u145, u146, u147, u148, u149, u150, u151, u152, u153, u154, u155, u156, u157, u158, u159, u160], []⟩ w5 := by
  subst hC
  conv =>
    arg 2
    whnf
  have HQ := Lib.hid hQ
  clear hQ
  have hG5 := G.ext A.l.x (by simp) (by simp)
  have HSG := Lib.hid (lsign_any _ [sb] sum w5 hG5 hr (by simp) BX.ls)
  have hSL : (signL [sb] sum 32).length = 2048 := signL_length [sb] sum 32
  generalize signL [sb] sum 32 = SG at *
  have HFI := Lib.hid (fun sv w' (x : Ext [] w5 w') (ho : w'.ownsRow 0 5 1 sv 2048 (bytesV SG)) => rfindS_any b v es sum SG sv w' (hG5.ext x (by simp) (by simp)) (A.l.at_.ext0 x) (by omega) BX.ls hSL ho)
  have HFD := Lib.hid (fun sv w' (x : Ext [] w5 w') (ho : w'.ownsRow 0 5 1 sv 2048 (bytesV SG)) => doc_find bd vk vs es sum SG sv w' (A.d.ext0 x) (by omega) BX.ls hSL ho)
  have HNI := Lib.hid (fun a c w' => rfindS_no b es sum (SG.drop 1) a 2047 c w' (by simp [hSL]) (by simp [hSL]))
  have HND := Lib.hid (fun a c w' => doc_find_no bd es sum (SG.drop 1) a 2047 c w' (by simp [hSL]) (by simp [hSL]))
  obtain ⟨f1, f2, hfs⟩ := fsV_tuple es sum SG
  obtain ⟨n1, n2, hns⟩ := fsV_tuple es sum (SG.drop 1)
  rw [hfs] at HFI HFD
  rw [hns] at HNI HND
  have HAE := Lib.hid (fun w' (x : Ext [] w5 w') => And.intro (A.ext0 x) (BK.ext x (by simp)))
  have HBX := Lib.hid (fun w' (x : Ext [] w5 w') => (show w'.cell? ⟨bx, 66, none⟩ = some (.int .i64 ii) ∧ bx < w'.heap.size ∧ PartAt w' bx 34 (bytesV sum) from by
    have BX' : ActB w' bx wt sd k0 sum ii := ⟨BX.h.ext x (by simp), BX.lk, BX.ls⟩
    exact ⟨BX'.cells.2.2.1, BX'.cells.2.2.2, BX'.part3⟩))
  obtain ⟨c0, -, c66, hxl⟩ := BX.cells
  have PS := BX.part3
  have hsl : (bytesV sum).length = 32 := by rw [bytesV_length, BX.ls]
  generalize bytesV sum = mv at *
  have hu := Tryd.underlying22
  have hsz : (Tryd.prog.info? 22).map (·.size) = some mv.length := by rw [hsl]; kernel_rfl
  clear BX hfs hns hr A BK G
  rcases hq with hq | hq
  all_goals
    go_upto_region 14 with (fail)
    rw [hq]
    clear c0
    go_upto_region 21 with (fail)
    go_wp2_with (with_reducible refine wpList_ldpart rfl 22 (.tmp 100) rfl bx 34 rfl mv _ PS hu rfl hsz ?_)
    refine HSG.out.mono ?_
    rintro e w6 ⟨sv, rfl, hown, x6, -⟩
    have hSL := hSL
    rw [hSL] at hown
    obtain ⟨g, c, cur, rfl, -, hc1, hc2, -, -⟩ := owns_some hown (by omega)
    clear c66 hxl PS HSG
    obtain ⟨c66, hxl, PS⟩ := HBX.out w6 x6
    unfold maxLen at hc2
    go_upto_if 106 with (fail)
    by_cases h67 : (ii.tmod 7 == 6) = true
    · rw [h67]
      go_wp2_with (with_reducible refine wpList_ldpart rfl 22 (.tmp 111) rfl bx 34 rfl mv _ PS hu rfl hsz ?_)
      refine (HNI.out _ _ w6).mono ?_
      rintro e w7 ⟨rfl, x7⟩
      clear c66 hxl PS
      obtain ⟨c66, hxl, PS⟩ := HBX.out w7 (x6.trans x7)
      go_wp2_with (with_reducible refine wpList_ldpart rfl 22 (.tmp 119) rfl bx 34 rfl mv _ PS hu rfl hsz ?_)
      refine (HND.out _ _ w7).mono ?_
      rintro e w8 ⟨rfl, x8⟩
      obtain ⟨A8, BK8⟩ := HAE.out w8 ((x6.trans x7).trans x8)
      clear c66 hxl PS
      go_wp2_with fail
      exact HQ.out _ _ _ _ _ _ _ _ _ _ _ _ _ _ _ _ _ _ _ _ _ _ _ _ _ _ _ _ _ _ _ _ _ _ _ _ _ _ _ _ _ _ _ _ _ _ _ _ _ _ _ _ _ _ _ _ _ _ _ _ _ _ _ _ _ _ _ _ _ _ _ _ _ _ A8 (Nat.le_succ _) BK8
    · rw [show (ii.tmod 7 == 6) = false by simpa using h67]
      go_wp2_with (with_reducible refine wpList_ldpart rfl 22 (.tmp 111) rfl bx 34 rfl mv _ PS hu rfl hsz ?_)
      refine (HFI.out _ w6 x6 hown).mono ?_
      rintro e w7 ⟨rfl, x7⟩
      clear c66 hxl PS
      obtain ⟨c66, hxl, PS⟩ := HBX.out w7 (x6.trans x7)
      have hown7 := owns_ext hown x7 (by simp)
      go_wp2_with (with_reducible refine wpList_ldpart rfl 22 (.tmp 119) rfl bx 34 rfl mv _ PS hu rfl hsz ?_)
      refine (HFD.out _ w7 (x6.trans x7) hown7).mono ?_
      rintro e w8 ⟨rfl, x8⟩
      obtain ⟨A8, BK8⟩ := HAE.out w8 ((x6.trans x7).trans x8)
      clear c66 hxl PS
      go_wp2_with fail
      exact HQ.out _ _ _ _ _ _ _ _ _ _ _ _ _ _ _ _ _ _ _ _ _ _ _ _ _ _ _ _ _ _ _ _ _ _ _ _ _ _ _ _ _ _ _ _ _ _ _ _ _ _ _ _ _ _ _ _ _ _ _ _ _ _ _ _ _ _ _ _ _ _ _ _ _ _ A8 (Nat.le_succ _) BK8
end Go.Proofs.YtgcbgeombbohpaaDoor
