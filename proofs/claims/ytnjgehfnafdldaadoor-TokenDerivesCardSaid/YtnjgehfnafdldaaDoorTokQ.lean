/- The statement TokenDerives: plain facts, and the walk behind its second loop. -/
import Derived.Deep.CutRange
import Derived.Deep.CutBlock
import Derived.Lib.Builder
import Derived.Test.YtnjgehfnafdldaaDoorTokR
namespace Go.Proofs.YtnjgehfnafdldaaDoor
open Go.RowKit
set_option maxRecDepth 100000

theorem nil_has : hasE (rOf []).c 0 = 1 ∧ hasE (rOf []).p 0 = 1 ∧ hasE (rOf []).m 0 = 1 ∧ helpE (rOf []) 1 = 1 := by decide +kernel

theorem info_token : (Tryd.prog.info? 59).map (fun i => (i.size)) = some 8 := by kernel_rfl
theorem tptr_neq (b : Nat) (w : World) : (binOp .neq 30 (.pointer (some ⟨b, 0, none⟩)) (.pointer (some ⟨b, 0, none⟩))).run Tryd.prog w = .ok (.bool false) w := by
  have h := info_token
  cases hj : Tryd.prog.info? 59 with
  | none => rw [hj] at h; cases h
  | some j => exact Lib.run_neq_ptr_same _ _ Tryd.underlying30 hj
theorem info_step : (Tryd.prog.info? 52).map (fun i => (i.zero, i.size, i.bytes)) = some (some (.agg #[.int .i64 0, .int .u16 0, .int .u16 0, .int .u16 0, .int .u16 0, .bool false, .bool false]), 7, 24) := by kernel_rfl

/-- What holds of the tokens made so far, and of the document's row of steps. -/
structure Inv2 (w5 wr : World) (T : Tree) (bs : List Nat) (cs : List Tk) (v : Value) : Prop where
  len : bs.length = cs.length
  desc : Desc bs
  own : wr.ownsRow 0 52 7 v cs.length (stV cs)
  tok : TokAt wr bs cs.reverse
  snd : cs = [] ∨ soundB T cs.reverse = true
  dis : ∀ b ∈ bs, v.ownBlock ≠ some b
  fr : ∀ g, v.ownBlock = some g → w5.heap.size ≤ g
theorem Inv2.ext {w5 wr w' : World} {T : Tree} {bs : List Nat} {cs : List Tk} {v : Value} (h : Inv2 w5 wr T bs cs v) (x : Ext [] wr w') : Inv2 w5 w' T bs cs v :=
  ⟨h.len, h.desc, owns_ext h.own x (by simp), TokAt.ext0 x h.tok, h.snd, h.dis, h.fr⟩

theorem more_sound (T : Tree) (l : List Tk) (s : Tk) (h : l = [] ∨ soundB T l = true) (hE : moreE T l s = 0) : soundB T (s :: l) = true := by
  cases l with
  | nil =>
    rw [snd_one]
    unfold moreE rootE at hE
    cases h1 : inR T s.1 <;> cases h2 : s.2.within Rt.all <;> simp [h1, h2] at hE ⊢
  | cons x xs =>
    have h' : soundB T (x :: xs) = true := h.resolve_left (by simp)
    unfold moreE derE at hE
    have hu : underB T x s.1 s.2 = true := by
      cases h1 : inR T s.1 <;> cases h2 : underB T x s.1 s.2 <;> simp [h1, h2] at hE ⊢
    conv => lhs; unfold soundB
    rw [hu, h']
    rfl

/-- One token more. -/
theorem Inv2.more {w5 wr wx wy : World} {T : Tree} {bs : List Nat} {cs : List Tk} {v v' : Value} {nb : Nat} {s : Tk} (h : Inv2 w5 wr T bs cs v) (x5 : Ext [] w5 wr) (x : Ext [] wr wx)
    (hb : Blk wx nb 59 (tkCells s (ptrV bs))) (hnb : wr.heap.size ≤ nb) (hE : moreE T cs.reverse s = 0)
    (hown : wy.ownsRow 0 52 7 v' (cs.length + 1) (stV cs ++ stCells s)) (hg : wx.grownBy wy v.ownBlock) (hf : v'.ownBlock = v.ownBlock ∨ ∃ g, v'.ownBlock = some g ∧ wx.heap.size ≤ g) :
    Inv2 w5 wy T (nb :: bs) (cs ++ [s]) v' := by
  have hlt : ∀ c ∈ nb :: bs, c < wx.heap.size := by
    intro c hc
    rcases List.mem_cons.1 hc with rfl | hc
    · exact hb.lt
    · exact Nat.lt_of_lt_of_le (TokAt.cons h.tok c hc) x.size
  have hdv : ∀ c ∈ nb :: bs, v.ownBlock ≠ some c := by
    intro c hc e
    rcases List.mem_cons.1 hc with rfl | hc
    · have := owns_lt h.own e
      omega
    · exact h.dis c hc e
  have hx : Ext v.ownBlock.toList wx wy := (Ext.refl _ _).grown hg (fun k hk => .inl (by simp [hk]))
  have hrev : (cs ++ [s]).reverse = s :: cs.reverse := by simp
  refine ⟨by simp [h.len], ?_, ?_, ?_, .inr ?_, ?_, ?_⟩
  · exact List.pairwise_cons.2 ⟨fun c hc => Nat.lt_of_lt_of_le (TokAt.cons h.tok c hc) hnb, h.desc⟩
  · rw [List.length_append, stV_append, stV_one]
    exact hown
  · rw [hrev]
    exact TokAt.ext hx (show TokAt wx (nb :: bs) (s :: cs.reverse) from ⟨hb, TokAt.ext0 x h.tok⟩) (fun c hc hm => hdv c hc (by simpa using hm))
  · rw [hrev]
    exact more_sound T _ s (by rcases h.snd with h | h; exact .inl (by simp [h]); exact .inr h) hE
  · intro c hc e
    rcases hf with h1 | ⟨g, h1, h2⟩
    · exact hdv c hc (h1 ▸ e)
    · rw [h1] at e
      obtain rfl := Option.some.inj e
      have := hlt _ hc
      omega
  · intro g e
    rcases hf with h1 | ⟨g', h1, h2⟩
    · exact h.fr g (h1 ▸ e)
    · rw [h1] at e
      obtain rfl := Option.some.inj e
      have := x.size
      have := x5.size
      omega
theorem Inv2.far {w5 wr wx wy : World} {T : Tree} {bs : List Nat} {cs : List Tk} {v : Value} (h : Inv2 w5 wr T bs cs v) (x5 : Ext [] w5 wr) (x : Ext [] wr wx) (hg : wx.grownBy wy v.ownBlock) : Ext [] w5 wy :=
  (x5.trans x).grown hg (fun k hk => .inr (h.fr k hk))
theorem stCells_one (s : Tk) : ∀ u ∈ stCells s, u.oneCell' = true := by
  intro u hu
  simp [stCells, Rt.cells] at hu
  rcases hu with rfl | rfl | rfl | rfl | rfl | rfl | rfl <;> rfl

theorem TokAt.drop {w : World} : ∀ {bs : List Nat} {ch : List Tk} (j : Nat), TokAt w bs ch → TokAt w (bs.drop j) (ch.drop j)
  | _, _, 0, h => h
  | [], [], _ + 1, _ => trivial
  | _ :: _, _ :: _, j + 1, h => by simpa using TokAt.drop j h.2
  | [], _ :: _, _ + 1, h => h.elim
  | _ :: _, [], _ + 1, h => h.elim
theorem TokAt.nth {w : World} {bs : List Nat} {cs : List Tk} (h : TokAt w bs cs.reverse) (hl : bs.length = cs.length) (k : Nat) (hk : k < cs.length) :
    ∃ b rest crest, (bs.reverse.map ptr1)[k]? = some (.pointer (some ⟨b, 0, none⟩)) ∧ TokAt w (b :: rest) (cs[k] :: crest) := by
  have hj : cs.length - 1 - k < bs.length := by omega
  have h1 := TokAt.drop (cs.length - 1 - k) h
  rw [List.drop_eq_getElem_cons hj, List.drop_eq_getElem_cons (l := cs.reverse) (by rw [List.length_reverse]; omega)] at h1
  have e : cs.reverse[cs.length - 1 - k]'(by rw [List.length_reverse]; omega) = cs[k] := by
    rw [List.getElem_reverse]
    congr 1
    omega
  rw [e] at h1
  refine ⟨_, _, _, ?_, h1⟩
  rw [List.getElem?_map, List.getElem?_reverse (by omega), hl, List.getElem?_eq_getElem hj]
  rfl

theorem snd_within (T : Tree) : ∀ (l : List Tk), soundB T l = true → ∀ j (hj : j + 1 < l.length), (l[j]).2.within (l[j + 1]).2 = true
  | [], _, j, hj => by simp at hj
  | [x], _, j, hj => by simp at hj
  | x :: y :: r, h, 0, _ => by
    unfold soundB underB at h
    simp only [Bool.and_eq_true] at h
    exact h.1.2
  | x :: y :: r, h, j + 1, hj => by
    unfold soundB at h
    simp only [Bool.and_eq_true] at h
    exact snd_within T (y :: r) h.2 j (by simpa using hj)
theorem snd_step (T : Tree) (cs : List Tk) (h : soundB T cs.reverse = true) (k : Nat) (hk : k + 1 < cs.length) : (cs[k + 1]).2.within (cs[k]).2 = true := by
  have := snd_within T cs.reverse h (cs.length - 1 - (k + 1)) (by rw [List.length_reverse]; omega)
  rw [List.getElem_reverse, List.getElem_reverse] at this
  have e1 : cs.length - 1 - (cs.length - 1 - (k + 1)) = k + 1 := by omega
  have e2 : cs.length - 1 - (cs.length - 1 - (k + 1) + 1) = k := by omega
  simp only [e1, e2] at this
  exact this

theorem has_mono (a b : BitVec 16) (n : Int) (h : a &&& b = a) (h0 : hasE a n = 0) : hasE b n = 0 := by
  unfold hasE at h0 ⊢
  by_cases hn : n < 0 ∨ 16 ≤ n
  · rw [if_pos hn] at h0; cases h0
  · rw [if_neg hn] at h0 ⊢
    have : (a &&& b).getLsbD n.toNat = a.getLsbD n.toNat := by rw [h]
    rw [BitVec.getLsbD_and] at this
    cases ha : a.getLsbD n.toNat <;> cases hb : b.getLsbD n.toNat <;> simp [ha, hb] at this h0 ⊢
theorem within_c {a b : Rt} (h : a.within b = true) : a.c &&& b.c = a.c ∧ a.h &&& b.h = a.h := by
  unfold Rt.within Rt.common at h
  have h' := of_decide_eq_true h
  exact ⟨congrArg Rt.c h', congrArg Rt.h h'⟩
theorem help_mono {a b : Rt} (h : a.within b = true) (x : Int) (h0 : helpE a x = 0) : helpE b x = 0 := by
  unfold helpE at h0 ⊢
  by_cases hx : bitB x = true
  · rw [if_pos hx] at h0 ⊢
    exact has_mono _ _ _ (within_c h).2 h0
  · rw [if_neg hx] at h0; cases h0


def codeTail (n : Nat) : Code → Code
  | .seq (.region k a d) b => if k = n then .seq (.region k a d) b else codeTail n b
  | .seq _ b => codeTail n b
  | c => c
noncomputable def derTail : Code := codeTail 29 (Tryd.f5.body.getD .skip)

set_option maxHeartbeats 32000000 in
theorem derives_rest (n helper : Int) (bt bl c : Nat) (T : Tree) (bs : List Nat) (cs : List Tk) (w w5 wc : World) (C : Code) (hC : C = derTail)
    (u0 u3 u4 u5 u6 u7 u8 u9 u10 u12 u13 u15 u16 u17 u18 u19 u20 u21 u22 u23 u24 u25 u26 u27 u28 u29 u30 u31 u32 u33 u34 u35 u36 u37 u38 u39 u40 u41 u42 u43 u44 u45 u46 u47 u48 u49 u50 u51 u52 u53 u54 u55 u56 u57 u58 u59 u60 u61 u62 u63 u64 u65 u66 u67 u68 u69 u70 u71 u72 u73 u74 u75 u76 u77 u78 u79 u80 u81 u82 u83 u84 u85 u86 u87 u88 u89 u90 u91 u92 u93 u94 u95 u96 u97 u98 u99 u100 u101 u102 u103 u104 u105 u106 u107 u108 u109 u110 u111 u112 u113 u114 u115 u116 u117 u118 u119 u120 u121 u122 u123 u124 u125 u126 u127 u128 u129 u130 u131 u132 u133 u134 u135 u136 u137 u138 u139 u140 u141 u142 u143 u144 u145 u146 u147 u148 u149 u150 u151 u152 u153 u154 u155 u156 u157 u158 u159 u160 u161 u162 u163 u164 u165 u166 u167 u168 u169 u170 u171 u172 u173 u174 u175 u176 u177 u178 u179 u180 u181 u182 u183 u184 u185 u186 u187 u188 u189 u190 u191 u192 u193 u194 u195 u196 u197 u198 u199 u200 u201 u202 u203 u204 u205 u206 u207 u208 u209 u210 u211 u212 u213 u214 u215 u216 u217 u218 u219 u220 u221 u222 u223 u224 u225 u226 u227 u228 u229 u230 u231 u232 u233 u234 u235 u236 u237 u238 u239 u240 u241 u242 u243 u244 u245 u246 u247 u248 u249 u250 u251 u252 u253 u254 u255 u256 u257 u258 u259 u260 u261 u262 u263 u264 u265 u266 u267 u268 u269 u270 u271 u272 u273 u274 u275 u276 u277 u278 u279 u280 u281 u282 u283 u284 u285 u286 u287 u288 u289 u290 u291 u292 u293 u294 u295 u296 u297 u298 u299 u300 u301 u302 u303 u304 u305 u306 u307 u308 u309 u310 u311 u312 u313 u314 u315 u316 u317 u318 u319 u320 u321 u322 u323 : Value)
    (hc9 : cs.length ≤ 9) (I : Inv2 w5 wc T bs cs u15) (x : Ext [] w5 wc) (HT : Hid (∀ w', Ext [] w5 w' → TreeAt w' bt bl c T)) (HGR : Hid (∀ w', Ext [] w5 w' → HelpG w')) (HXW : Hid (∀ w', Ext [] w5 w' → Ext [] w w')) :
    Code.wp Tryd.prog C (bodyPost Tryd.prog Tryd.f5 fun e w' => e = .returned (.bool true) ∧ Ext [] w w') ⟨#[u0, .int .i64 n, .int .i32 helper, u3, u4, u5, u6, u7, u8, u9, u10, .pointer (some ⟨bt, 0, none⟩), u12, u13, ptrV bs, u15, u16, u17, u18, u19, u20, u21, u22, u23, u24, u25, u26, u27, u28, u29, u30, u31, u32, u33, u34, u35, u36, u37, u38, u39, u40, u41, u42, u43, u44, u45, u46, u47, u48, u49, u50, u51, u52, u53, u54, u55, u56, u57, u58, u59, u60, u61, u62, u63, u64, u65, u66, u67, u68, u69, u70, u71, u72, u73, u74, u75, u76, u77, u78, u79, u80, u81, u82, u83, u84, u85, u86, u87, u88, u89, u90, u91, u92, u93, u94, u95, u96, u97, u98, u99, u100, u101, u102, u103, u104, u105, u106, u107, u108, u109, u110, u111, u112, u113, u114, u115, u116, u117, u118, u119, u120, u121, u122, u123, u124, u125, u126, u127, u128, u129, u130, u131, u132, u133, u134, u135, u136, u137, u138, u139, u140, u141, u142, u143, u144, u145, u146, u147, u148, u149, u150, u151, u152, u153, u154, u155, u156, u157, u158, u159, u160, u161, u162, u163, u164, u165, u166, u167, u168, u169, u170, u171, u172, u173, u174, u175, u176, u177, u178, u179, u180, u181, u182, u183, u184, u185, u186, u187, u188, u189, u190, u191, u192, u193, u194, u195, u196, u197, u198, u199, u200, u201, u202, u203, u204, u205, u206, u207, u208, u209, u210, u211, u212, u213, u214, u215, u216, u217, u218, u219, u220, u221, u222, u223, u224, u225, u226, u227, u228, u229, u230, u231, u232, u233, u234, u235, u236, u237, u238, u239, u240, u241, u242, u243, u244, u245, u246, u247, u248, u249, u250, u251, u252, u253, u254, u255, u256, u257, u258, u259, u260, u261, u262, u263, u264, u265, u266, u267, u268, u269, u270, u271, u272, u273, u274, u275, u276, u277, u278, u279, u280, u281, u282, u283, u284, u285, u286, u287, u288, u289, u290, u291, u292, u293, u294, u295, u296, u297, u298, u299, u300, u301, u302, u303, u304, u305, u306, u307, u308, u309, u310, u311, u312, u313, u314, u315, u316, u317, u318, u319, u320, u321, u322, u323], []⟩ wc := by
  subst hC
  conv =>
    arg 2
    whnf
  obtain ⟨va, vc, rfl⟩ := owns_slice I.own
  obtain ⟨o, ho⟩ := ptrV_ptr bs
  have hq : (!o.isNone) = soundB T cs.reverse := by
    have h1 := I.len
    cases bs with
    | nil =>
      obtain rfl : cs = [] := List.length_eq_zero_iff.1 h1.symm
      cases ho
      rfl
    | cons b0 bs0 =>
      cases ho
      rcases I.snd with h | h
      · subst h; cases h1
      · rw [h]; rfl
  have hcc := chain_any bs cs.reverse wc I.tok (by have h1 := I.len; omega)
  have HCC := Lib.hid hcc
  have hso := fun w' (x' : Ext [] wc w') => sound_any bt bl c bs T cs.reverse w' (HT.out _ (x.trans x')) (TokAt.ext0 x' I.tok) I.desc
  have hqk : ∀ k, k + 1 < cs.length → soundB T cs.reverse = true := by
    intro k hk
    rcases I.snd with h | h
    · subst h; cases hk
    · exact h
  have HQK := Lib.hid (fun k (hk : k + 1 < cs.length) => snd_step T cs (hqk k hk) k hk)
  rw [ho] at HCC hso
  generalize soundB T cs.reverse = q at *
  have HSO := Lib.hid hso
  have HTOK := Lib.hid (fun w' (x' : Ext [] wc w') k (hk : k < cs.length) => TokAt.nth (TokAt.ext0 x' I.tok) I.len k hk)
  have HOWN := Lib.hid (fun w' (x' : Ext [] wc w') => owns_ext I.own x' (by simp))
  have hln := I.len
  rw [ho]
  clear I hcc hso ho hqk
  go_wp2_with fail
  refine HCC.out.mono ?_
  rintro e w7 ⟨v20, rfl, hown, x7, -⟩
  obtain ⟨la, lc, rfl⟩ := owns_slice hown
  rw [hln] at hown
  have HLO := Lib.hid (fun w' (x' : Ext [] w7 w') => owns_ext hown x' (by simp))
  clear hown HCC
  rw [hln]
  clear hln
  go_wp2_with fail
  refine (HSO.out _ x7).mono ?_
  rintro e w8 ⟨rfl, x8⟩
  have X8 := x7.trans x8
  have HLO8 := Lib.hid (fun w' (x' : Ext [] w8 w') => HLO.out w' (x8.trans x'))
  have HTOK8 := Lib.hid (fun w' (x' : Ext [] w8 w') => HTOK.out w' (X8.trans x'))
  have HOWN8 := Lib.hid (fun w' (x' : Ext [] w8 w') => HOWN.out w' (X8.trans x'))
  have HGR8 := Lib.hid (fun w' (x' : Ext [] w8 w') => HGR.out w' (x.trans (X8.trans x')))
  have HXW8 := Lib.hid (fun w' (x' : Ext [] w8 w') => HXW.out w' (x.trans (X8.trans x')))
  clear HLO HTOK HOWN HSO x7 x8 X8 HGR HXW HT x
  go_wp2_with fail
  go_loopw [21] (fun i wr => ∃ (k : Nat), i = .int .i64 k ∧ k ≤ cs.length ∧ Ext [] w8 wr) (fun i _ => cs.length - (intOf i).toNat)
  case atStart => exact ⟨0, rfl, Nat.zero_le _, Ext.refl _ _⟩
  case round =>
    clear hq
    obtain ⟨k, rfl, hk, x⟩ := hrel
    by_cases hlt : k < cs.length
    · obtain ⟨g, cap', cur, hv, hgb, -, -, -, -⟩ := owns_some (HOWN8.out wr x) (by omega)
      simp only [Value.slice.injEq, true_and] at hv
      obtain ⟨rfl, rfl⟩ := hv
      obtain ⟨gl, lcap, lcur, hv, hglb, -, -, -, -⟩ := owns_some (HLO8.out wr x) (by omega)
      simp only [Value.slice.injEq, true_and] at hv
      obtain ⟨rfl, rfl⟩ := hv
      obtain ⟨b, rest, crest, hbk, htk⟩ := HTOK8.out wr x k hlt
      obtain ⟨⟨ta, tr⟩, hs⟩ : ∃ s, cs[k] = s := ⟨_, rfl⟩
      rw [hs] at htk
      have HCH := Lib.hid (fun w' (x' : Ext [] wr w') => st_here (w := w') (b := g) (o := 0) (k := k) (x := (ta, tr)) (fun j hj => by
        rw [Nat.zero_add, (HOWN8.out w' (x.trans x')).cellAt (k * 7 + j) (by omega), stV_at _ _ _ hlt hj, hs]))
      simp only [Nat.zero_add] at HCH
      have HLP := Lib.hid (fun w' (x' : Ext [] wr w') => (show w'.cell? ⟨gl, k, none⟩ = some (.pointer (some ⟨b, 0, none⟩)) from by
        rw [(HLO8.out w' (x.trans x')).cellAt k (by omega)]; exact hbk))
      have HTK := Lib.hid (fun w' (x' : Ext [] wr w') => TokAt.ext0 x' htk)
      have hgl1 := hgb.lt
      have hgl2 := hglb.lt
      obtain ⟨w6, hw6⟩ : ∃ w6, w6 = wr.alloc (.cells #[.int .u16 (tr.c.toNat : Int), .int .u16 (tr.p.toNat : Int), .int .u16 (tr.m.toNat : Int), .int .u16 (tr.h.toNat : Int), .bool tr.v, .bool tr.s] 50) := ⟨_, rfl⟩
      have BS : Blk w6 wr.heap.size 50 tr.cells := by rw [hw6]; exact Blk.new _ _ _
      have X6 : Ext [] wr w6 := by rw [hw6]; exact (Ext.refl _ _).alloc _
      have HBS := Lib.hid (fun w' (x' : Ext [] w6 w') => BS.ext x' (by simp))
      have HPW := Lib.hid (show ∀ k', k = k' + 1 → ∃ b' rest' crest' pa pr, (bs.reverse.map ptr1)[k']? = some (.pointer (some ⟨b', 0, none⟩)) ∧ TokAt wr (b' :: rest') ((pa, pr) :: crest') ∧ tr.within pr = true from by
        intro k' h
        subst h
        obtain ⟨b', r', cr', h1, h2⟩ := HTOK8.out wr x k' (by omega)
        have h3 := HQK.out k' (by omega)
        rw [hs] at h3
        exact ⟨b', r', cr', (cs[k']).1, (cs[k']).2, h1, h2, h3⟩)
      obtain ⟨c0, c1, c2, c3, c4, c5, c6⟩ := HCH.out wr (Ext.refl _ _)
      clear hs hbk htk hgb hglb
      go_upto_region 36 with (fail)
      rw [← hw6]
      clear hw6 c0 c1 c2 c3 c4 c5 c6 BS
      generalize wr.heap.size = nr at *
      have hlb := (HTK.out wr (Ext.refl _ _)).1.lt
      have HCM := Lib.hid (fun w' (x' : Ext [] w6 w') => command_any (b :: rest) ((ta, tr) :: crest) n w' (HTK.out w' (X6.trans x')))
      have HHE := Lib.hid (fun w' (x' : Ext [] w6 w') => helper_any (b :: rest) ((ta, tr) :: crest) helper w' (HTK.out w' (X6.trans x')) (HGR8.out w' (x.trans (X6.trans x'))))
      have HBI := Lib.hid (fun w' (x' : Ext [] w6 w') => bit_any helper w' (HGR8.out w' (x.trans (X6.trans x'))))
      rw [show rOf ((ta, tr) :: crest) = tr from rfl, show ptrV (b :: rest) = .pointer (some ⟨b, 0, none⟩) from rfl] at HCM HHE
      refine reg36 n gl g k cs.length lc vc nr b rest crest ta tr w6 _ (by kernel_rfl) _ _ _ _ _ _ _ _ _ _ _ _ _ _ _ _ _ _ _ _ _ _ _ _ _ _ _ _ _ _ _ _ _ _ _ _ _ _ _ _ _ _ _ _ _ _ _ _ _ _ _ _ _ _ _ _ _ _ _ _ _ _ _ _ _ _ _ _ _ _ _ _ _ _ _ _ _ _ _ _ _ _ _ _ _ _ _ _ _ _ _ _ _ _ _ _ _ _ _ _ _ _ _ _ _ _ _ _ _ _ _ _ _ _ _ _ _ _ _ _ _ _ _ _ _ _ _ _ _ _ _ _ _ _ _ _ _ _ _ _ _ _ _ _ _ _ _ _ _ _ _ _ _ _ _ _ _ _ _ _ _ _ _ _ _ _ _ _ _ _ _ _ _ _ _ _ _ _ _ _ _ _ _ _ _ _ _ _ _ _ _ _ _ _ _ _ _ _ _ _ _ _ _ _ _ _ _ _ _ _ _ _ _ _ _ _ _ _ _ _ _ _ _ _ _ _ _ _ _ _ _ _ _ _ _ _ _ _ _ _ _ _ _ _ _ _ _ _ _ _ _ _ _ _ _ _ _ _ _ _ _ _ _ _ _ _ _ _ _ _ _ _ _ _ _ _ _ _ _ _ _ _ _ _ _ _ _ _ _ _ _ _ _ _ _ _ _ _ _ _ _ _ _ _ _ _ _ _ _ _ _ _ _ _ _ _ _ _ _ _ hlt (fun _ _ _ _ _ h => h) (Lib.hid (fun w' x' => HLP.out w' (X6.trans x'))) (Lib.hid (fun w' x' => HTK.out w' (X6.trans x'))) (Lib.hid (fun w' x' => HCH.out w' (X6.trans x'))) HBS ?_
      intro s209 s210 s211 s212 s213 s214 s215 s216 s217 s218 s219 s220 s221 s222 s223 s224 s225 s226 s227 s228 s229 s230 s231 s232 s233 s234 s235 s236 s237 s238 s239 s240 s241 s242 s243 s244 s245 s246 s247 s248 s249 s250 s251 s252 s253 s254 s255 s256 s257 s258 s259 wf hS
      go_wp2_with fail
      refine (HBI.out _ hS).mono ?_
      rintro e wg ⟨rfl, xg⟩
      have Xg := hS.trans xg
      have hlp := HLP.out _ (X6.trans Xg)
      have hlg := World.block_lt_of_cell? _ _ hlp
      go_wp2_with fail
      refine (HHE.out _ Xg).mono ?_
      rintro e wh ⟨rfl, xh⟩
      have Xh := Xg.trans xh
      clear hlp hlg hS xg
      have hkc : k = 0 ∨ ∃ k', k = k' + 1 := by
        cases k with
        | zero => exact .inl rfl
        | succ k' => exact .inr ⟨k', rfl⟩
      cases hbb : bitB helper with
      | false =>
        rw [show helpE tr helper = 22 from by unfold helpE; rw [hbb]; rfl]
        rcases hkc with hk0 | ⟨k', rfl⟩
        · have hk0i : ¬ (0 : Int) < (k : Int) := by omega
          clear hk0
          go_wp2_with fail
          go_roundw
          case rel => exact ⟨k + 1, by go_num, by omega, x.trans (X6.trans Xh)⟩
          case measure => simp [intOf]; omega
        · have hk0i : (0 : Int) < (k' : Int) + 1 := by omega
          obtain ⟨b', rest', crest', pa, pr, hb', htk', hww⟩ := HPW.out k' rfl
          have HWW := Lib.hid hww
          have HLQ := Lib.hid (fun w' (x' : Ext [] w6 w') => (show w'.cell? ⟨gl, k', none⟩ = some (.pointer (some ⟨b', 0, none⟩)) from by
            rw [(HLO8.out w' (x.trans (X6.trans x'))).cellAt k' (by omega)]; exact hb'))
          have HCQ := Lib.hid (fun w' (x' : Ext [] w6 w') => command_any (b' :: rest') ((pa, pr) :: crest') n w' (TokAt.ext0 (X6.trans x') htk'))
          have HHQ := Lib.hid (fun w' (x' : Ext [] w6 w') => helper_any (b' :: rest') ((pa, pr) :: crest') helper w' (TokAt.ext0 (X6.trans x') htk') (HGR8.out w' (x.trans (X6.trans x'))))
          rw [show rOf ((pa, pr) :: crest') = pr from rfl, show ptrV (b' :: rest') = .pointer (some ⟨b', 0, none⟩) from rfl] at HCQ HHQ
          clear hww hb' htk'
          have hlp := HLP.out _ (X6.trans Xh)
          have hlg := World.block_lt_of_cell? _ _ hlp

          go_wp2_with fail
          refine (HCM.out _ Xh).mono ?_
          rintro e wj ⟨rfl, xj⟩
          have Xj := Xh.trans xj
          clear hlp hlg
          by_cases hc0 : hasE tr.c n = 0
          · rw [hc0]
            have hlq := HLQ.out _ Xj
            have hlg := World.block_lt_of_cell? _ _ hlq
            go_wp2_with fail
            refine (HCQ.out _ Xj).mono ?_
            rintro e wk ⟨rfl, xk⟩
            rw [has_mono _ _ n (within_c HWW.out).1 hc0]
            clear hlq hlg
            have Xk := Xj.trans xk
            clear hc0
            go_wp2_with fail
            go_roundw
            case rel => exact ⟨k' + 1 + 1, by go_num, by omega, x.trans (X6.trans Xk)⟩
            case measure => simp [intOf]; omega
          · have hcb : (hasE tr.c n == 0) = false := by simpa using hc0
            clear hc0
            go_wp2_with fail
            go_roundw
            case rel => exact ⟨k' + 1 + 1, by go_num, by omega, x.trans (X6.trans Xj)⟩
            case measure => simp [intOf]; omega
      | true =>
        obtain ⟨Eh, hEh⟩ : ∃ Eh, hasE tr.h (bitN helper) = Eh := ⟨_, rfl⟩
        have hEq : helpE tr helper = Eh := by rw [← hEh]; unfold helpE; rw [hbb]; rfl
        have HMH := Lib.hid (fun w' => may_any tr.h (bitN helper) w')
        have HEQ := Lib.hid hEq
        rw [hEq]
        rw [hEh] at HMH
        clear hEq hEh
        rcases hkc with hk0 | ⟨k', rfl⟩
        · have hk0i : ¬ (0 : Int) < (k : Int) := by omega
          clear hk0
          obtain ⟨p0, p1, p2, p3, p4⟩ := rt_cellsT (HBS.out _ Xh)
          go_wp2_with fail
          refine (HMH.out _).mono ?_
          rintro e wi ⟨rfl, rfl⟩
          clear p0 p1 p2 p3 p4
          go_wp2_with fail
          go_roundw
          case rel => exact ⟨k + 1, by go_num, by omega, x.trans (X6.trans Xh)⟩
          case measure => simp [intOf]; omega
        · have hk0i : (0 : Int) < (k' : Int) + 1 := by omega
          obtain ⟨b', rest', crest', pa, pr, hb', htk', hww⟩ := HPW.out k' rfl
          have HWW := Lib.hid hww
          have HLQ := Lib.hid (fun w' (x' : Ext [] w6 w') => (show w'.cell? ⟨gl, k', none⟩ = some (.pointer (some ⟨b', 0, none⟩)) from by
            rw [(HLO8.out w' (x.trans (X6.trans x'))).cellAt k' (by omega)]; exact hb'))
          have HCQ := Lib.hid (fun w' (x' : Ext [] w6 w') => command_any (b' :: rest') ((pa, pr) :: crest') n w' (TokAt.ext0 (X6.trans x') htk'))
          have HHQ := Lib.hid (fun w' (x' : Ext [] w6 w') => helper_any (b' :: rest') ((pa, pr) :: crest') helper w' (TokAt.ext0 (X6.trans x') htk') (HGR8.out w' (x.trans (X6.trans x'))))
          rw [show rOf ((pa, pr) :: crest') = pr from rfl, show ptrV (b' :: rest') = .pointer (some ⟨b', 0, none⟩) from rfl] at HCQ HHQ
          clear hww hb' htk'
          have hlp := HLP.out _ (X6.trans Xh)
          have hlg := World.block_lt_of_cell? _ _ hlp
          obtain ⟨p0, p1, p2, p3, p4⟩ := rt_cellsT (HBS.out _ Xh)
          go_wp2_with fail
          refine (HMH.out _).mono ?_
          rintro e wi ⟨rfl, rfl⟩
          clear p0 p1 p2 p3 p4
          go_wp2_with fail
          refine (HCM.out _ Xh).mono ?_
          rintro e wj ⟨rfl, xj⟩
          have Xj := Xh.trans xj
          clear hlp hlg
          by_cases hc0 : hasE tr.c n = 0
          · rw [hc0]
            have hlq := HLQ.out _ Xj
            have hlg := World.block_lt_of_cell? _ _ hlq
            go_wp2_with fail
            refine (HCQ.out _ Xj).mono ?_
            rintro e wk ⟨rfl, xk⟩
            rw [has_mono _ _ n (within_c HWW.out).1 hc0]
            clear hlq hlg
            have Xk := Xj.trans xk
            clear hc0
            by_cases he0 : Eh = 0
            · subst he0
              have hlq := HLQ.out _ Xk
              have hlg := World.block_lt_of_cell? _ _ hlq
              go_wp2_with fail
              refine (HHQ.out _ Xk).mono ?_
              rintro e wl ⟨rfl, xl⟩
              rw [help_mono HWW.out helper HEQ.out]
              clear hlq hlg
              have Xl := (Xk).trans xl
              go_wp2_with fail
              go_roundw
              case rel => exact ⟨k' + 1 + 1, by go_num, by omega, x.trans (X6.trans Xl)⟩
              case measure => simp [intOf]; omega
            · have heb : (Eh == 0) = false := by simpa using he0
              clear he0
              go_wp2_with fail
              go_roundw
              case rel => exact ⟨k' + 1 + 1, by go_num, by omega, x.trans (X6.trans Xk)⟩
              case measure => simp [intOf]; omega
          · have hcb : (hasE tr.c n == 0) = false := by simpa using hc0
            clear hc0
            by_cases he0 : Eh = 0
            · subst he0
              have hlq := HLQ.out _ Xj
              have hlg := World.block_lt_of_cell? _ _ hlq
              go_wp2_with fail
              refine (HHQ.out _ Xj).mono ?_
              rintro e wl ⟨rfl, xl⟩
              rw [help_mono HWW.out helper HEQ.out]
              clear hlq hlg
              have Xl := (Xj).trans xl
              go_wp2_with fail
              go_roundw
              case rel => exact ⟨k' + 1 + 1, by go_num, by omega, x.trans (X6.trans Xl)⟩
              case measure => simp [intOf]; omega
            · have heb : (Eh == 0) = false := by simpa using he0
              clear he0
              go_wp2_with fail
              go_roundw
              case rel => exact ⟨k' + 1 + 1, by go_num, by omega, x.trans (X6.trans Xj)⟩
              case measure => simp [intOf]; omega
    · go_wp2_with fail
      go_ret
      exact ⟨rfl, HXW8.out _ x⟩
end Go.Proofs.YtnjgehfnafdldaaDoor
