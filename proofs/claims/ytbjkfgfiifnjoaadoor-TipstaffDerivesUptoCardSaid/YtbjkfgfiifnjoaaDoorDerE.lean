/- TipstaffDerives: one round, from the common rights on. -/
import Derived.Test.YtbjkfgfiifnjoaaDoorDerD
namespace Go.Proofs.YtbjkfgfiifnjoaaDoor
open Go.RowKit
set_option maxRecDepth 100000

theorem info_rt : (Tryd.prog.info? 84).map (fun i => (i.zero, i.size, i.bytes)) = some (some Rt.none.val, 6, 10) := by kernel_rfl

/-- A store into a block of its own. -/
theorem DSt.extR {w0 w w' : World} {bt bl cap d rb : Nat} {bs : List Nat} {ch : List Tk} {v : Value} (h : DSt w0 w bt bl cap d bs ch v) (x : Ext [rb] w w') (h0 : w0.heap.size ≤ rb) (h1 : rb ∉ bs) (h2 : v.ownBlock ≠ some rb) : DSt w0 w' bt bl cap d bs ch v := by
  have l := h.lt
  refine ⟨h.T.ext x (by simp; omega) (by simp; omega), h.K.ext x (fun b hb => by simp; intro e; exact h1 (e ▸ hb)), h.desc, h.good, owns_ext h.row x (fun g hg => by simp; intro e; exact h2 (e ▸ hg)), h.fr, h.lt, h.x.trans' x (by intro i hi; rw [List.mem_singleton] at hi; exact Or.inr (hi ▸ h0))⟩

/-- One more token, one more of the rights. -/
theorem DSt.snoc {w0 w w' : World} {bt bl cap d b n : Nat} {bs : List Nat} {ch : List Tk} {tk : Tk} {v v' : Value} (h : DSt w0 w bt bl cap d bs ch v) (hn : ch.length = n) (B : Blk w b 91 (tkCells tk (ptrV bs))) (hb : ∀ c ∈ bs, c < b) (hv : ∀ g, v.ownBlock = some g → g < b) (hg : Good d (tk :: ch))
    (ho : w'.ownsRow 0 84 6 v' (n + 1) (rtsV ch ++ tk.2.cells)) (hw : w.grownBy w' v.ownBlock) (hf : v'.ownBlock = v.ownBlock ∨ ∃ g, v'.ownBlock = some g ∧ w.heap.size ≤ g) : DSt w0 w' bt bl cap d (b :: bs) (tk :: ch) v' := by
  have l := h.lt
  have x : Ext v.ownBlock.toList w w' := (Ext.refl _ _).grown hw (by intro g hg; left; simp [hg])
  have hbl := B.lt
  have hm : ∀ c ∈ b :: bs, c ∉ v.ownBlock.toList := by
    intro c hc hm
    have hm' : v.ownBlock = some c := by simpa using hm
    rcases List.mem_cons.1 hc with rfl | hc
    · exact Nat.lt_irrefl _ (hv _ hm')
    · exact (h.fr c hm').2 hc
  have ht : ∀ c, c < w0.heap.size → c ∉ v.ownBlock.toList := by
    intro c hc hm
    have hm' : v.ownBlock = some c := by simpa using hm
    have := (h.fr c hm').1
    omega
  have hK : TokAt w (b :: bs) (tk :: ch) := ⟨B, h.K⟩
  refine ⟨h.T.ext x (ht _ l.1) (ht _ l.2), hK.ext x hm, List.pairwise_cons.2 ⟨fun c hc => hb c hc, h.desc⟩, hg, ?_, ?_, h.lt, h.x.grown hw (fun g hg => .inr (h.fr g hg).1)⟩
  · rw [rtsV_cons, List.length_cons, hn]
    exact ho
  · intro g hg'
    rcases hf with e | ⟨g', e, hle⟩
    · rw [e] at hg'
      refine ⟨(h.fr g hg').1, fun hc => ?_⟩
      exact hm g hc (by simp [hg'])
    · rw [e] at hg'
      have he : g' = g := Option.some.inj hg'
      subst he
      have hs := h.x.size
      refine ⟨by omega, fun hc => ?_⟩
      have := hK.cons g' hc
      omega

set_option maxHeartbeats 16000000 in
theorem der_t22 (w0 w : World) (bt bl cap d b0 k rb : Nat) (bs0 : List Nat) (x0 : Tk) (ch0 : List Tk) (v : Value) (p : Rt) (I : DSt w0 w bt bl cap d (b0 :: bs0) (x0 :: ch0) v) (h1 : 1 ≤ d) (h4 : d ≤ 4) (hk : ch0.length = k) (hk2 : k ≤ 2)
    (BR : Blk w rb 84 p.cells) (r0 : w0.heap.size ≤ rb) (r1 : rb ∉ b0 :: bs0) (r2 : v.ownBlock ≠ some rb)
    (C : Code) (hC : C = (tailAt 22 derBody).getD .skip) (Q : Exit → Act → World → Prop) (u0 u1 u2 u3 u4 u7 u8 u9 u10 u12 u16 u17 u18 u19 u20 u21 u22 u23 u24 u25 u26 u27 u28 u29 u30 u31 u32 u33 u34 u35 u36 u37 u38 u39 u40 u41 u42 u43 u44 u45 u46 u47 u48 u49 u50 u51 u52 u53 u54 u55 u56 u57 u58 u59 u60 u61 u62 u63 u64 u65 u66 u67 u68 u69 u70 u71 u72 u73 u74 u75 u76 u77 u78 u79 u80 u81 u82 u83 u84 u85 u86 u87 u88 u89 u90 u91 u92 u93 u94 u95 u96 u97 u98 u99 u100 u101 u102 u103 u104 u105 u106 u107 u108 u109 u110 u111 u112 u113 u114 u115 u116 u117 u118 u119 u120 u121 u122 u123 u124 u125 u126 u127 u128 u129 u130 u131 u132 u133 u134 u135 u136 u137 u138 u139 u140 u141 u142 u143 u144 u145 u146 u147 u148 u149 u150 u151 u152 u153 u154 u155 u156 u157 u158 u159 u160 u161 u162 u163 u164 u165 u166 u167 : Value) (hP : ∀ ch (a : Act) (d : Nat) v w, Q (.panic ch) (a.put (some d) v) w → Q (.panic ch) a w)
    (hQ : ∀ (s17 s18 s19 s20 s87 s88 s89 s90 s91 s92 s93 s94 s95 s96 s97 s98 s99 s100 s101 s102 s103 s104 s105 s106 s107 s108 s109 s110 s111 s112 s113 s114 s115 s116 s117 s118 s119 s120 s121 s122 s123 s124 v' : Value) (b : Nat) (r : Rt) (w' : World), DSt w0 w' bt bl cap d (b :: b0 :: bs0) ((((min (k + 1) d : Nat) : Int), r) :: x0 :: ch0) v' → Q .normal ⟨#[u0, u1, u2, u3, u4, .pointer (some ⟨bt, 0, none⟩), .int .i64 (d : Int), u7, u8, u9, u10, .pointer (some ⟨b, 0, none⟩), u12, v', .int .i64 (k : Int), .pointer (some ⟨rb, 0, none⟩), u16, s17, s18, s19, s20, u21, u22, u23, u24, u25, u26, u27, u28, u29, u30, u31, u32, u33, u34, u35, u36, u37, u38, u39, u40, u41, u42, u43, u44, u45, u46, u47, u48, u49, u50, u51, u52, u53, u54, u55, u56, u57, u58, u59, u60, u61, u62, u63, u64, u65, u66, u67, u68, u69, u70, u71, u72, u73, u74, u75, u76, u77, u78, u79, u80, u81, u82, u83, u84, u85, u86, s87, s88, s89, s90, s91, s92, s93, s94, s95, s96, s97, s98, s99, s100, s101, s102, s103, s104, s105, s106, s107, s108, s109, s110, s111, s112, s113, s114, s115, s116, s117, s118, s119, s120, s121, s122, s123, s124, u125, u126, u127, u128, u129, u130, u131, u132, u133, u134, u135, u136, u137, u138, u139, u140, u141, u142, u143, u144, u145, u146, u147, u148, u149, u150, u151, u152, u153, u154, u155, u156, u157, u158, u159, u160, u161, u162, u163, u164, u165, u166, u167], []⟩ w') :
    Code.wp Tryd.prog C Q ⟨#[u0, u1, u2, u3, u4, .pointer (some ⟨bt, 0, none⟩), .int .i64 (d : Int), u7, u8, u9, u10, .pointer (some ⟨b0, 0, none⟩), u12, v, .int .i64 (k : Int), .pointer (some ⟨rb, 0, none⟩), u16, u17, u18, u19, u20, u21, u22, u23, u24, u25, u26, u27, u28, u29, u30, u31, u32, u33, u34, u35, u36, u37, u38, u39, u40, u41, u42, u43, u44, u45, u46, u47, u48, u49, u50, u51, u52, u53, u54, u55, u56, u57, u58, u59, u60, u61, u62, u63, u64, u65, u66, u67, u68, u69, u70, u71, u72, u73, u74, u75, u76, u77, u78, u79, u80, u81, u82, u83, u84, u85, u86, u87, u88, u89, u90, u91, u92, u93, u94, u95, u96, u97, u98, u99, u100, u101, u102, u103, u104, u105, u106, u107, u108, u109, u110, u111, u112, u113, u114, u115, u116, u117, u118, u119, u120, u121, u122, u123, u124, u125, u126, u127, u128, u129, u130, u131, u132, u133, u134, u135, u136, u137, u138, u139, u140, u141, u142, u143, u144, u145, u146, u147, u148, u149, u150, u151, u152, u153, u154, u155, u156, u157, u158, u159, u160, u161, u162, u163, u164, u165, u166, u167], []⟩ w := by
  obtain ⟨i0, hi, hz0, hz1, hz2⟩ := info_parts info_rt
  obtain ⟨va, vc, rfl⟩ := owns_slice I.row
  subst hC
  conv =>
    arg 2
    whnf
  have HQ := Lib.hid hQ
  have HK := Lib.hid hk
  have HB := Lib.hid (fun w' (x : Ext [] w w') => rtAt_tok (I.ext0 x).K.1)
  have HI := Lib.hid I
  have HR := Lib.hid (And.intro r0 (And.intro r1 r2))
  obtain ⟨tk, htk⟩ : ∃ tk : Tk, tk = (((min (k + 1) d : Nat) : Int), p.common x0.2) := ⟨_, rfl⟩
  clear hQ hk I r0 r1 r2
  refine wp_seq ?_
  refine der22 rb b0 p x0.2 w BR HB _ (by kernel_rfl) _ _ _ _ _ _ _ _ _ _ _ _ _ _ _ _ _ _ _ _ _ _ _ _ _ _ _ _ _ _ _ _ _ _ _ _ _ _ _ _ _ _ _ _ _ _ _ _ _ _ _ _ _ _ _ _ _ _ _ _ _ _ _ _ _ _ _ _ _ _ _ _ _ _ _ _ _ _ _ _ _ _ _ _ _ _ _ _ _ _ _ _ _ _ _ _ _ _ _ _ _ _ _ _ _ _ _ _ _ _ _ _ _ _ _ _ _ _ _ _ _ _ _ _ _ _ _ _ _ _ _ _ _ _ _ _ _ _ _ _ _ _ _ _ _ _ _ _ _ _ _ _ _ _ _ _ _ _ _ _ _ _ _ _ _ _ _ ?_ ?_
  · exact fun ch a d v w h => hP ch a d v w h
  intro s87 s88 s89 s90 s91 s92 w1 BR1 x1
  have HI1 := Lib.hid (HI.out.extR x1 HR.out.1 HR.out.2.1 HR.out.2.2)
  clear BR x1 HB
  obtain ⟨c0, c1, c2, c3, c4, c5, hrl⟩ := rt_cells BR1
  have hmin : min ((k : Int) + 1) (d : Int) = ((min (k + 1) d : Nat) : Int) := by omega
  have hE := good_derive h1 h4 HI1.out.good (by have := HK.out; omega) p (bs0.length + 1) (by have := HI1.out.K.len; simp at this; have := HK.out; omega)
  rw [HK.out] at hE
  have hde := derive_any bt bl cap b0 bs0 (chainT d) x0 ch0 ((min (k + 1) d : Nat) : Int) (p.common x0.2) w1 HI1.out.T HI1.out.K (by have := HI1.out.K.len; simp at this; have := HK.out; omega)
  rw [hE, ← htk] at hde
  have HDE := Lib.hid hde
  obtain ⟨m, hm⟩ : ∃ m, m = min (k + 1) d := ⟨_, rfl⟩
  rw [← hm] at hmin HDE htk
  have hm1 : 1 ≤ m ∧ m ≤ 4 := by omega
  have HM := Lib.hid hm
  have HTK := Lib.hid htk
  obtain ⟨r, hr⟩ : ∃ r, r = p.common x0.2 := ⟨_, rfl⟩
  rw [← hr] at BR1 c0 c1 c2 c3 c4 c5 HTK HDE
  unfold Rt.val at HDE
  have HRR := Lib.hid hr
  clear hE hde hm htk hr
  go_wp2_with fail
  refine HDE.out.mono ?_
  rintro e w2 ⟨x2, h2⟩
  rcases h2 with ⟨-, b, rfl, B2, hb2⟩ | ⟨h2, -⟩
  · have I2 := HI1.out.ext0 x2
    have K2 : TokAt w2 (b :: b0 :: bs0) (tk :: x0 :: ch0) := ⟨B2, I2.K⟩
    have hbe := good_back h1 h4 hk2 r r ((b0 :: bs0).length + 1)
    have hde := derive_any bt bl cap b (b0 :: bs0) (chainT d) tk (x0 :: ch0) ((min (k + 1) d - 1 : Nat) : Int) r w2 I2.T K2 (by have h5 := I2.K.len; simp at h5; have := HK.out; simp; omega)
    have hT : tk = (((min (k + 1) d : Nat) : Int), r) := by rw [HTK.out, ← HM.out]
    rw [hT, hbe, ← HM.out] at hde
    have HDE2 := Lib.hid hde
    have HB2 := Lib.hid B2
    have HI2 := Lib.hid I2
    have HBB := Lib.hid hb2
    have hw1 : IntKind.i64.wrap ((m : Int) - 1) = ((m - 1 : Nat) : Int) := by rw [IntWalk.i64_in _ (by omega)]; omega
    have BR2 := BR1.ext x2 (by simp)
    unfold Rt.val at HDE2
    clear hde hT hbe I2 K2 B2 hb2 x2 HDE c0 c1 c2 c3 c4 c5 hrl BR1
    obtain ⟨c0, c1, c2, c3, c4, c5, hrl⟩ := rt_cells BR2
    go_wp2_with fail
    refine HDE2.out.mono ?_
    rintro e w3 ⟨x3, h3⟩
    rcases h3 with ⟨h3, -⟩ | ⟨-, rfl⟩
    · exact absurd h3 (by decide)
    · obtain ⟨wa, hwa⟩ : ∃ wa, wa = w3.alloc (.cells #[.int .u16 (r.c.toNat : Int), .int .u16 (r.p.toNat : Int), .int .u16 (r.m.toNat : Int), .int .u16 (r.h.toNat : Int), .bool r.v, .bool r.s] 84) := ⟨_, rfl⟩
      have xa : Ext [] w3 wa := by rw [hwa]; exact (Ext.refl _ _).alloc _
      have IA := HI2.out.ext0 (x3.trans xa)
      have BA : Blk wa w3.heap.size 84 [.int .u16 (r.c.toNat : Int), .int .u16 (r.p.toNat : Int), .int .u16 (r.m.toNat : Int), .int .u16 (r.h.toNat : Int), .bool r.v, .bool r.s] := by rw [hwa]; exact Blk.new w3 _ _
      have hown : wa.ownsRow 0 84 6 (.slice va (ch0.length + 1) vc) (ch0.length + 1) (rtsV (x0 :: ch0)) := IA.row
      have HIA := Lib.hid IA
      have HBA := Lib.hid (HB2.out.ext (x3.trans xa) (by simp))
      have BR3 := BR2.ext x3 (by simp)
      have hcl : ch0.length + 1 ≤ 3 := by have := HK.out; omega
      have h1c : ∀ u ∈ ([.int .u16 (r.c.toNat : Int), .int .u16 (r.p.toNat : Int), .int .u16 (r.m.toNat : Int), .int .u16 (r.h.toNat : Int), .bool r.v, .bool r.s] : List Value), u.oneCell' = true := rt_one r
      have HVB := Lib.hid (fun g (hg : (Value.slice va (ch0.length + 1) vc).ownBlock = some g) => Nat.lt_of_lt_of_le (owns_lt HI1.out.row hg) HBB.out)
      have HDB := Lib.hid (fun c (hc : c ∈ b0 :: bs0) => Nat.lt_of_lt_of_le (HI1.out.K.cons c hc) HBB.out)
      clear c0 c1 c2 c3 c4 c5 hrl BR2 IA x3 xa HDE2 HI2 HB2
      obtain ⟨c0, c1, c2, c3, c4, c5, hrl⟩ := rt_cells BR3
      go_upto_region 30 with (fail)
      go_wp2_with (rw [← hwa]; at_builtin; go_must (refine wpList_app _ rfl (.tmp 121) (.tmp 123) 86 rfl 84 i0 _ 6 10 Tryd.underlying86 hi hz0 hz1 hz2 rfl (by decide) (.slice va (ch0.length + 1) vc) (ch0.length + 1) (rtsV (x0 :: ch0)) rfl hown _ 1 [.int .u16 (r.c.toNat : Int), .int .u16 (r.p.toNat : Int), .int .u16 (r.m.toNat : Int), .int .u16 (r.h.toNat : Int), .bool r.v, .bool r.s] rfl (blk_reads BA 1 rfl) h1c (by unfold maxLen; omega) (by omega) ?_); intro v4 w4 hown4 hgrow4 hfr4 _)
      have hT : tk = (((min (k + 1) d : Nat) : Int), r) := by rw [HTK.out, ← HM.out]
      have hgood : Good d ((((min (k + 1) d : Nat) : Int), r) :: x0 :: ch0) := by
        have h5 := HI1.out.good.snoc p
        rw [HK.out, ← HRR.out] at h5
        exact h5
      have hB := HBA.out
      rw [hT] at hB
      have D := HIA.out.snoc (tk := (((min (k + 1) d : Nat) : Int), r)) rfl hB HDB.out HVB.out hgood hown4 hgrow4 hfr4
      exact HQ.out _ _ _ _ _ _ _ _ _ _ _ _ _ _ _ _ _ _ _ _ _ _ _ _ _ _ _ _ _ _ _ _ _ _ _ _ _ _ _ _ _ _ v4 b r w4 D
  · exact absurd rfl h2
end Go.Proofs.YtbjkfgfiifnjoaaDoor
