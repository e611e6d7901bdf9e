/- TipstaffDerives: the walk. -/
import Derived.Deep.CutRange
import Derived.Deep.CutBlock
import Derived.Test.YtbjkfgfiifnjoaaDoorOpn
import Derived.Test.YtbjkfgfiifnjoaaDoorStands
import Derived.Test.YtbjkfgfiifnjoaaDoorStrs
import Derived.Test.YtbjkfgfiifnjoaaDoorDerE
namespace Go.Proofs.YtbjkfgfiifnjoaaDoor
open Go.RowKit
set_option maxRecDepth 100000

theorem root_all (d : Nat) : rootE (chainT d) 0 Rt.all = 0 := by
  unfold rootE
  rw [show (0 : Int) = ((0 : Nat) : Int) from rfl, chainT_inR d 0 (by omega), if_pos rfl, if_pos (by decide)]

set_option maxHeartbeats 16000000 in
theorem der_t11 (w0 w : World) (bt bl cap d : Nat) (ta : Option Addr) (ss : List ByteArray) (tc : Nat) (T : TreeAt w bt bl cap (chainT d)) (x : Ext [] w0 w) (h1 : 1 ≤ d) (h4 : d ≤ 4) (hlen : ss.length ≤ 9223372036854775807)
    (HG : Hid (∀ w', Ext [] w0 w' → DigG w')) (HP : Hid (∀ w', Ext [] w0 w' → ParG w')) (HAR : Hid (∀ w', Ext [] w0 w' → StrsAt w' ta ss)) (HSZ : Hid (∀ s ∈ ss, s.size ≤ 1048576))
    (C : Code) (hC : C = (tailAt 11 derBody).getD .skip) (u0 u2 u3 u4 u7 u8 u9 u10 u11 u12 u13 u14 u15 u16 u17 u18 u19 u20 u21 u22 u23 u24 u25 u26 u27 u28 u29 u30 u31 u32 u33 u34 u35 u36 u37 u38 u39 u40 u41 u42 u43 u44 u45 u46 u47 u48 u49 u50 u51 u52 u53 u54 u55 u56 u57 u58 u59 u60 u61 u62 u63 u64 u65 u66 u67 u68 u69 u70 u71 u72 u73 u74 u75 u76 u77 u78 u79 u80 u81 u82 u83 u84 u85 u86 u87 u88 u89 u90 u91 u92 u93 u94 u95 u96 u97 u98 u99 u100 u101 u102 u103 u104 u105 u106 u107 u108 u109 u110 u111 u112 u113 u114 u115 u116 u117 u118 u119 u120 u121 u122 u123 u124 u125 u126 u127 u128 u129 u130 u131 u132 u133 u134 u135 u136 u137 u138 u139 u140 u141 u142 u143 u144 u145 u146 u147 u148 u149 u150 u151 u152 u153 u154 u155 u156 u157 u158 u159 u160 u161 u162 u163 u164 u165 u166 u167 : Value) :
    Code.wp Tryd.prog C (bodyPost Tryd.prog Tryd.f6 fun e w' => e = .returned (.bool true) ∧ Ext [] w0 w') ⟨#[u0, .slice ta ss.length tc, u2, u3, u4, .pointer (some ⟨bt, 0, none⟩), .int .i64 (d : Int), u7, u8, u9, u10, u11, u12, u13, u14, u15, u16, u17, u18, u19, u20, u21, u22, u23, u24, u25, u26, u27, u28, u29, u30, u31, u32, u33, u34, u35, u36, u37, u38, u39, u40, u41, u42, u43, u44, u45, u46, u47, u48, u49, u50, u51, u52, u53, u54, u55, u56, u57, u58, u59, u60, u61, u62, u63, u64, u65, u66, u67, u68, u69, u70, u71, u72, u73, u74, u75, u76, u77, u78, u79, u80, u81, u82, u83, u84, u85, u86, u87, u88, u89, u90, u91, u92, u93, u94, u95, u96, u97, u98, u99, u100, u101, u102, u103, u104, u105, u106, u107, u108, u109, u110, u111, u112, u113, u114, u115, u116, u117, u118, u119, u120, u121, u122, u123, u124, u125, u126, u127, u128, u129, u130, u131, u132, u133, u134, u135, u136, u137, u138, u139, u140, u141, u142, u143, u144, u145, u146, u147, u148, u149, u150, u151, u152, u153, u154, u155, u156, u157, u158, u159, u160, u161, u162, u163, u164, u165, u166, u167], []⟩ w := by
  obtain ⟨i0, hi, hz0, hz1, hz2⟩ := info_parts info_rt
  subst hC
  conv =>
    arg 2
    whnf
  have HX := Lib.hid x
  have HT := Lib.hid T
  have hra := Lib.hid (fun w' (x' : Ext [] w w') => root_any bt bl cap (chainT d) 0 Rt.all w' (T.ext x' (by simp) (by simp)))
  rw [root_all] at hra
  have hv : Rt.all.val = .agg #[.int .u16 255, .int .u16 15, .int .u16 63, .int .u16 255, .bool true, .bool false] := rfl
  clear x T
  go_wp2_with fail
  refine (all_any w).mono ?_
  rintro e w1 ⟨rfl, x1⟩
  go_wp2_with fail
  refine (hra.out w1 x1).mono ?_
  rintro e w2 ⟨x2, h2⟩
  rcases h2 with ⟨-, b, rfl, B2, hb2⟩ | ⟨h2, -⟩
  · have HT2 := Lib.hid (HT.out.ext (x1.trans x2) (by simp) (by simp))
    have HX2 := Lib.hid (HX.out.trans (x1.trans x2))
    clear hra x1 hb2 HT HX
    go_wp2_with fail
    refine (stands_any w2 (HG.out _ HX2.out)).mono ?_
    rintro e w3 ⟨rfl, x3⟩
    go_wp2_with fail
    refine (opens_top w3).mono ?_
    rintro e w4 ⟨rfl, x4⟩
    go_wp2_with fail
    refine (all_any w4).mono ?_
    rintro e w5 ⟨rfl, x5⟩
    obtain ⟨wa, hwa⟩ : ∃ wa, wa = w5.alloc (.cells #[.int .u16 255, .int .u16 15, .int .u16 63, .int .u16 255, .bool true, .bool false] 84) := ⟨_, rfl⟩
    have x25 : Ext [] w2 wa := by rw [hwa]; exact (x3.trans (x4.trans x5)).alloc _
    have BS : Blk wa w5.heap.size 84 [.int .u16 255, .int .u16 15, .int .u16 63, .int .u16 255, .bool true, .bool false] := by rw [hwa]; exact Blk.new w5 _ _
    have TA := HT2.out.ext x25 (by simp) (by simp)
    have HXA := Lib.hid (HX2.out.trans x25)
    have BA := B2.ext x25 (by simp)
    have hal : ∀ u ∈ ([.int .u16 255, .int .u16 15, .int .u16 63, .int .u16 255, .bool true, .bool false] : List Value), u.oneCell' = true := rt_one Rt.all
    clear x3 x4 x5 x25 B2 HT2 HX2
    go_upto_block 2 with (rw [← hwa]; at_builtin; go_must (refine wpList_app _ rfl (.tmp 59) (.tmp 61) 86 rfl 84 i0 _ 6 10 Tryd.underlying86 hi hz0 hz1 hz2 rfl (by decide) (.slice none 0 0) 0 [] rfl (World.ownsRow_nil _ _ _ _) _ 1 [.int .u16 255, .int .u16 15, .int .u16 63, .int .u16 255, .bool true, .bool false] rfl (blk_reads BS 1 rfl) hal (by unfold maxLen; omega) (by omega) ?_); intro v6 w6 hown6 hgrow6 hfr6 _)
    have I6 : DSt wa w6 bt bl cap d [b] [(0, Rt.all)] v6 := by
      have x6 : Ext [] wa w6 := (Ext.refl _ _).grown hgrow6 (by intro g hg; cases hg)
      refine ⟨TA.ext x6 (by simp) (by simp), ⟨BA.ext x6 (by simp), trivial⟩, List.pairwise_singleton _ _, good_one d, hown6, ?_, ⟨TA.lt1, TA.lt2⟩, x6⟩
      intro g hg
      rcases hfr6 with e | ⟨g', e, hle⟩
      · rw [e] at hg; cases hg
      · rw [e] at hg
        have he : g' = g := Option.some.inj hg
        subst he
        refine ⟨hle, fun hm => ?_⟩
        have := BA.lt
        rw [List.mem_singleton] at hm
        omega
    have HPA := Lib.hid (fun s (hs : s.size ≤ 1048576) w' (x : Ext [] wa w') => parse_any s hs w' (HP.out _ (HXA.out.trans x)))
    have HSA := Lib.hid (fun w' (x : Ext [] wa w') => HAR.out _ (HXA.out.trans x))
    clear hwa BS TA BA hown6 hgrow6 hfr6 HG HP HAR hal hv
    go_cut [11, 13, 14, 15, 16, 17, 18, 19, 20] from 63 to 124 (fun p v _ _ _ _ _ _ _ wr => ∃ (bs : List Nat) (ch : List Tk), p = ptrV bs ∧ ch.length ≤ 4 ∧ DSt wa wr bt bl cap d bs ch v)
    case first =>
      go_wp2_with fail
      go_loopw [11, 13, 14] (fun p v i wr => ∃ (k b0 : Nat) (bs : List Nat) (y0 : Tk) (ch : List Tk), i = .int .i64 (k : Int) ∧ p = .pointer (some ⟨b0, 0, none⟩) ∧ ch.length = k ∧ k ≤ ss.length ∧ k ≤ 3 ∧ DSt wa wr bt bl cap d (b0 :: bs) (y0 :: ch) v) (fun _ _ i _ => 3 - (intOf i).toNat)
      case atStart => exact ⟨0, b, [], _, [], rfl, rfl, rfl, Nat.zero_le _, by omega, I6⟩
      case round =>
        clear I6
        obtain ⟨k, b0, bs, y0, ch, rfl, rfl, hcl, hks, hk3, I⟩ := hrel
        by_cases hlt : k < ss.length ∧ k < 3
        · obtain ⟨hlt, hlt3⟩ := hlt
          obtain ⟨-, -, tb, tof, ht0, htc⟩ := HSA.out wr I.x
          obtain ⟨rfl, htl⟩ := ht0 (by omega)
          have hcell := htc k hlt
          have hsz := HSZ.out _ (List.getElem_mem hlt)
          generalize ss[k] = s at hcell hsz
          have HPS := Lib.hid (HPA.out s hsz wr I.x)
          have HI := Lib.hid I
          clear ht0 htc hsz I
          go_wp2_with fail
          refine HPS.out.mono ?_
          rintro e w3 ⟨⟨r, z, rfl⟩, x3⟩
          have HI3 := Lib.hid (HI.out.ext0 x3)
          clear HI HPS x3 hcell htl
          unfold Rt.val
          obtain ⟨w4, hw4⟩ : ∃ w4, w4 = w3.alloc (.cells #[.int .u16 (r.c.toNat : Int), .int .u16 (r.p.toNat : Int), .int .u16 (r.m.toNat : Int), .int .u16 (r.h.toNat : Int), .bool r.v, .bool r.s] 84) := ⟨_, rfl⟩
          have BR4 : Blk w4 w3.heap.size 84 r.cells := by rw [hw4]; exact Blk.new w3 _ _
          have x34 : Ext [] w3 w4 := by rw [hw4]; exact (Ext.refl _ _).alloc _
          have r0 : wa.heap.size ≤ w3.heap.size := HI3.out.x.size
          have r1 : w3.heap.size ∉ b0 :: bs := fun hm => Nat.lt_irrefl _ (HI3.out.K.cons _ hm)
          have r2 : u13.ownBlock ≠ some w3.heap.size := fun he => Nat.lt_irrefl _ (owns_lt HI3.out.row he)
          have HI4 := Lib.hid (HI3.out.ext0 x34)
          have HRN := Lib.hid (And.intro r0 (And.intro r1 r2))
          clear HI3 x34 r0 r1 r2
          go_upto_if 82 with (fail)
          rw [← hw4]
          clear hw4
          generalize w3.heap.size = rb at *
          have hg3 : (⟨rb, 0, none⟩ : Addr).block < w4.heap.size := BR4.lt
          go_cut [15] from 82 to 86 (fun rp wx => rp = .pointer (some ⟨rb, 0, none⟩) ∧ ∃ p : Rt, Blk wx rb 84 p.cells ∧ Ext [rb] w4 wx)
          case first =>
            clear HSA HPA HI4 HRN
            by_cases hz : z = 0
            · subst hz
              go_wp2_with fail
              go_meet
              exact ⟨rfl, r, BR4, Ext.refl _ _⟩
            · have hzb : (z == 0) = false := by simpa using hz
              have hw1 : IntKind.i64.wrap (7 - (k : Int)) = 7 - (k : Int) := IntWalk.i64_in _ (by omega)
              have hw2 : IntKind.u16.wrap (7 - (k : Int)) = ((BitVec.ofNat 16 (7 - k)).toNat : Int) := by
                rw [BitVec.toNat_ofNat, Nat.mod_eq_of_lt (by omega)]
                simp [IntKind.wrap, IntKind.bits, IntKind.signed]
                omega
              have hfit : 0 + ([.int .u16 0, .int .u16 0, .int .u16 0, .int .u16 ((BitVec.ofNat 16 (7 - k)).toNat : Int), .bool false, .bool false] : List Value).length ≤ r.cells.length := Nat.le_refl _
              have h1c : ∀ u ∈ ([.int .u16 0, .int .u16 0, .int .u16 0, .int .u16 ((BitVec.ofNat 16 (7 - k)).toNat : Int), .bool false, .bool false] : List Value), u.oneCell' = true := rt_one ⟨0#16, 0#16, 0#16, BitVec.ofNat 16 (7 - k), false, false⟩
              have hsz : (Tryd.prog.info? 84).map (·.size) = some ([.int .u16 0, .int .u16 0, .int .u16 0, .int .u16 ((BitVec.ofNat 16 (7 - k)).toNat : Int), .bool false, .bool false] : List Value).length := by kernel_rfl
              generalize BitVec.ofNat 16 (7 - k) = n7 at *
              go_wp2_with (with_reducible refine wpList_strow rfl 84 (.tmp 15) (.tmp 86) rfl rb 0 rfl 84 r.cells [.int .u16 0, .int .u16 0, .int .u16 0, .int .u16 ((n7).toNat : Int), .bool false, .bool false] rfl BR4 hfit h1c hsz ?_; intro w7 B7 x7 _)
              go_meet
              exact ⟨rfl, ⟨0#16, 0#16, 0#16, n7, false, false⟩, rt_over (zc := r.cells) rfl B7, x7⟩
          case rest =>
            obtain ⟨rfl, p, BR, xr⟩ := hcut
            rename_i KK aK
            refine aK _ _ ?_
            have I5 := HI4.out.extR xr HRN.out.1 HRN.out.2.1 HRN.out.2.2
            refine der_t22 wa _ bt bl cap d b0 k rb bs y0 ch _ p I5 h1 h4 hcl (by omega) BR HRN.out.1 HRN.out.2.1 HRN.out.2.2 _ (by kernel_rfl) _ _ _ _ _ _ _ _ _ _ _ _ _ _ _ _ _ _ _ _ _ _ _ _ _ _ _ _ _ _ _ _ _ _ _ _ _ _ _ _ _ _ _ _ _ _ _ _ _ _ _ _ _ _ _ _ _ _ _ _ _ _ _ _ _ _ _ _ _ _ _ _ _ _ _ _ _ _ _ _ _ _ _ _ _ _ _ _ _ _ _ _ _ _ _ _ _ _ _ _ _ _ _ _ _ _ _ _ _ _ _ _ _ _ _ _ _ _ _ _ _ _ _ _ _ _ _ _ _ _ _ _ _ _ _ _ _ _ _ _ _ _ _ _ _ _ _ _ _ _ _ _ _ _ _ _ _ _ _ _ _ _ _ (fun _ _ _ _ _ h => h) ?_
            intro s17 s18 s19 s20 s87 s88 s89 s90 s91 s92 s93 s94 s95 s96 s97 s98 s99 s100 s101 s102 s103 s104 s105 s106 s107 s108 s109 s110 s111 s112 s113 s114 s115 s116 s117 s118 s119 s120 s121 s122 s123 s124 v' b' r' w' D
            have HREL := Lib.hid (show ∃ (k' b0' : Nat) (bs' : List Nat) (y0' : Tk) (ch' : List Tk), Value.int .i64 ((k : Int) + 1) = .int .i64 (k' : Int) ∧ Value.pointer (some ⟨b', 0, none⟩) = .pointer (some ⟨b0', 0, none⟩) ∧ ch'.length = k' ∧ k' ≤ ss.length ∧ k' ≤ 3 ∧ DSt wa w' bt bl cap d (b0' :: bs') (y0' :: ch') v' from
              ⟨k + 1, b', b0 :: bs, _, y0 :: ch, by go_num, rfl, by simp [hcl], hlt, by omega, D⟩)
            clear D I5 BR xr HI4 HRN HSA HPA
            go_wp2_with fail
            go_roundw
            case rel => exact HREL.out
            case measure => simp [intOf]; omega
        · have hge : (k < ss.length ∧ k = 3) ∨ ¬ k < ss.length := by omega
          have HI := Lib.hid (show ∃ (bs' : List Nat) (ch' : List Tk), Value.pointer (some ⟨b0, 0, none⟩) = ptrV bs' ∧ ch'.length ≤ 4 ∧ DSt wa wr bt bl cap d bs' ch' u13 from ⟨b0 :: bs, y0 :: ch, rfl, by simp; omega, I⟩)
          clear hlt I
          rcases hge with ⟨hlt', rfl⟩ | hlt'
          all_goals
            go_wp2_with fail
            go_meet
            exact HI.out
    case rest =>
      clear I6
      obtain ⟨bs, ch, rfl, hl, I⟩ := hcut
      rename_i KK aK
      refine aK _ _ ?_
      exact der_t31 w0 wa _ HXA.out bt bl cap d bs ch _ I h1 h4 hl _ (by kernel_rfl) _ _ _ _ _ _ _ _ _ _ _ _ _ _ _ _ _ _ _ _ _ _ _ _ _ _ _ _ _ _ _ _ _ _ _ _ _ _ _ _ _ _ _ _ _ _ _ _ _ _ _ _ _ _ _ _ _ _ _ _ _ _ _ _ _ _ _ _ _ _ _ _ _ _ _ _ _ _ _ _ _ _ _ _ _ _ _ _ _ _ _ _ _ _ _ _ _ _ _ _ _ _ _ _ _ _ _ _ _ _ _ _ _ _ _ _ _ _ _ _ _ _ _ _ _ _ _ _ _ _ _ _ _ _ _ _ _ _ _ _ _ _ _ _ _ _ _ _ _ _ _ _ _ _ _ _ _ _ _ _ _ _ _ _ _
  · exact absurd rfl h2

set_option maxHeartbeats 16000000 in
theorem derives_walk (z0 : Int) (ta : Option Addr) (ss : List ByteArray) (cap : Nat) (w : World) (G : DigG w) (P : ParG w) (hs : ∀ s ∈ ss, s.size ≤ 1048576) (HA : StrsAt w ta ss) :
    Calls Tryd.prog 6 #[.int .i64 z0, .slice ta ss.length cap] w fun e w' => e = .returned (.bool true) ∧ Ext [] w w' := by
  obtain ⟨q, hq, hq4⟩ := mod_nat z0 4 (by omega) (by omega)
  have HQ := Lib.hid hq
  have HG := Lib.hid (fun w' (x' : Ext [] w w') => G.ext x' (by simp) (by simp))
  have HP := Lib.hid (fun w' (x' : Ext [] w w') => P.ext x')
  have HAR := Lib.hid (fun w' (x' : Ext [] w w') => HA.ext x')
  have HSZ := Lib.hid hs
  have hlen : ss.length ≤ 9223372036854775807 := by have := HA.1; unfold maxLen at this; omega
  clear hq G P HA hs
  go_enter Tryd.func6, Tryd.ntmps6
  go_wp2_with fail
  refine (tree_new w).mono ?_
  rintro e w1 ⟨rfl, T1, x1, hz1⟩
  go_upto_block 0 with (fail)
  rw [show wrap64 ((IntKind.u64.wrap z0).tmod 4) = (q : Int) from HQ.out]
  obtain ⟨d, hd, h1, h4⟩ : ∃ d, wrap64 (1 + (q : Int)) = ((d : Nat) : Int) ∧ 1 ≤ d ∧ d ≤ 4 := ⟨q + 1, by rw [IntWalk.wrap64_in _ (by omega)]; omega, by omega, by omega⟩
  rw [hd]
  have HBT := Lib.hid (show w.heap.size ≤ w.heap.size + 1 by omega)
  have HBL := Lib.hid (Nat.le_refl w.heap.size)
  have TT1 : TreeAt w1 (w.heap.size + 1) w.heap.size 1 (chainT 0) := T1
  clear hd HQ hq4 hz1 T1
  generalize hbt : w.heap.size + 1 = bt at *
  go_cut [4, 7, 8, 9, 10] from 29 to 42 (fun _ _ _ _ _ wr => ∃ bl c, TreeAt wr bt bl c (chainT d) ∧ Ext [] w wr)
  case first =>
    go_wp2_with fail
    go_loopw [7, 8] (fun at_ i wr => ∃ (j bl c : Nat), at_ = .int .i64 (j : Int) ∧ i = .int .i64 (j : Int) ∧ j ≤ d ∧ TreeAt wr bt bl c (chainT j) ∧ w.heap.size ≤ bl ∧ Ext [] w wr) (fun _ i _ => d - (intOf i).toNat)
    case atStart => exact ⟨0, _, _, rfl, rfl, by omega, TT1, HBL.out, x1⟩
    case round =>
      clear TT1 x1
      obtain ⟨j, bl, c, rfl, rfl, hj, T, hbl, x⟩ := hrel
      by_cases hlt : j < d
      · have hmk := make_any bt bl c (j : Int) (chainT j) wr T
        rw [chainT_make j (by omega)] at hmk
        have HM := Lib.hid hmk
        clear hmk
        have i1 : (j : Int) < (d : Int) := by omega
        go_wp2_with fail
        refine HM.out.mono ?_
        rintro e w2 ⟨bl', c', rfl, T2, x2, hbl2⟩
        have hsz := x.size
        have HREL := Lib.hid (show ∃ (j' bl c : Nat), Value.int .i64 ((j + 1 : Nat) : Int) = .int .i64 (j' : Int) ∧ Value.int .i64 ((j : Int) + 1) = .int .i64 (j' : Int) ∧ j' ≤ d ∧ TreeAt w2 bt bl c (chainT j') ∧ w.heap.size ≤ bl ∧ Ext [] w w2 from
          ⟨j + 1, bl', c', rfl, by go_num, hlt, T2, by rcases hbl2 with e | e <;> omega, x.trans' x2 (by intro i hi; simp at hi; have := HBT.out; omega)⟩)
        clear HM T T2 x x2 hbl2 hsz hbl
        go_wp2_with fail
        go_roundw
        case rel => exact HREL.out
        case measure => simp [intOf]; omega
      · obtain rfl : j = d := by omega
        clear hj hlt
        go_wp2_with fail
        go_meet
        exact ⟨_, _, T, x⟩
  case rest =>
    clear TT1 x1
    obtain ⟨bl, c, T, x⟩ := hcut
    rename_i KK aK
    refine aK _ _ ?_
    exact der_t11 w _ bt bl c d ta ss cap T x h1 h4 hlen HG HP HAR HSZ _ (by kernel_rfl) _ _ _ _ _ _ _ _ _ _ _ _ _ _ _ _ _ _ _ _ _ _ _ _ _ _ _ _ _ _ _ _ _ _ _ _ _ _ _ _ _ _ _ _ _ _ _ _ _ _ _ _ _ _ _ _ _ _ _ _ _ _ _ _ _ _ _ _ _ _ _ _ _ _ _ _ _ _ _ _ _ _ _ _ _ _ _ _ _ _ _ _ _ _ _ _ _ _ _ _ _ _ _ _ _ _ _ _ _ _ _ _ _ _ _ _ _ _ _ _ _ _ _ _ _ _ _ _ _ _ _ _ _ _ _ _ _ _ _ _ _ _ _ _ _ _ _ _ _ _ _ _ _ _ _ _ _ _ _ _ _ _ _ _ _
end Go.Proofs.YtbjkfgfiifnjoaaDoor
