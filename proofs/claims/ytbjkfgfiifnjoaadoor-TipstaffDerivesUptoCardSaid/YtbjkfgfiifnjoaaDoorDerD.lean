/- TipstaffDerives: what is asked of the chain at the end. -/
import Derived.Deep.CutRange
import Derived.Deep.CutBlock
import Derived.Test.YtbjkfgfiifnjoaaDoorDerC
namespace Go.Proofs.YtbjkfgfiifnjoaaDoor
open Go.RowKit
set_option maxRecDepth 100000

/-- The rights of a chain, from the root on, as cells. -/
def rtsV (ch : List Tk) : List Value := ch.reverse.flatMap fun x => x.2.cells
theorem rtsV_cons (x : Tk) (ch : List Tk) : rtsV (x :: ch) = rtsV ch ++ x.2.cells := by simp [rtsV]
theorem flat_at {α : Type} (f : α → List Value) (m : Nat) (hf : ∀ x, (f x).length = m) : ∀ (l : List α) (k j : Nat) (x : α), l[k]? = some x → j < m → (l.flatMap f)[k * m + j]? = (f x)[j]?
  | [], k, j, x, h, _ => by simp at h
  | y :: l, 0, j, x, h, hj => by
    simp at h; subst h
    rw [List.flatMap_cons, Nat.zero_mul, Nat.zero_add, List.getElem?_append_left (by rw [hf]; exact hj)]
  | y :: l, k + 1, j, x, h, hj => by
    rw [List.getElem?_cons_succ] at h
    rw [List.flatMap_cons, List.getElem?_append_right (by rw [hf, Nat.succ_mul]; omega), hf, show (k + 1) * m + j - m = k * m + j by rw [Nat.succ_mul]; omega]
    exact flat_at f m hf l k j x h hj

/-- What lies in memory between the rounds: the tree, the chain's tokens, its rights' row. -/
structure DSt (w0 w : World) (bt bl cap d : Nat) (bs : List Nat) (ch : List Tk) (v : Value) : Prop where
  T : TreeAt w bt bl cap (chainT d)
  K : TokAt w bs ch
  desc : Desc bs
  good : Good d ch
  row : w.ownsRow 0 84 6 v ch.length (rtsV ch)
  fr : ∀ g, v.ownBlock = some g → w0.heap.size ≤ g ∧ g ∉ bs
  lt : bt < w0.heap.size ∧ bl < w0.heap.size
  x : Ext [] w0 w

theorem DSt.ext0 {w0 w w' : World} {bt bl cap d : Nat} {bs : List Nat} {ch : List Tk} {v : Value} (h : DSt w0 w bt bl cap d bs ch v) (x : Ext [] w w') : DSt w0 w' bt bl cap d bs ch v :=
  ⟨h.T.ext x (by simp) (by simp), h.K.ext0 x, h.desc, h.good, owns_ext h.row x (by simp), h.fr, h.lt, h.x.trans x⟩

/-- The token at place k of a chain: its block. -/
theorem tok_at {w : World} : ∀ {bs : List Nat} {ch : List Tk}, TokAt w bs ch → ∀ k, k < ch.length → ∃ b x up, bs[k]? = some b ∧ ch[k]? = some x ∧ Blk w b 91 (tkCells x up)
  | [], [], _, k, hk => by simp at hk
  | b :: bs, x :: ch, h, 0, _ => ⟨b, x, _, rfl, rfl, h.1⟩
  | b :: bs, x :: ch, h, k + 1, hk => by
    obtain ⟨b', x', up, h1, h2, h3⟩ := tok_at h.2 k (by simpa using hk)
    exact ⟨b', x', up, h1, h2, h3⟩
  | [], _ :: _, h, _, _ => h.elim
  | _ :: _, [], h, _, _ => h.elim

theorem rev_at {α : Type} {l : List α} {n k : Nat} {x : α} (hn : l.length = n) (hk : k < n) (h : l[n - 1 - k]? = some x) : l.reverse[k]? = some x := by
  rw [List.getElem?_reverse (by omega), hn]; exact h

theorem row_rtAt {w : World} {g n gc : Nat} {ch : List Tk} (h : w.ownsRow 0 84 6 (.slice (some ⟨g, 0, none⟩) n gc) n (rtsV ch)) (h0 : 0 < n) (k : Nat) (x : Tk) (hx : ch.reverse[k]? = some x) : RtAt w g (k * 6) x.2 := by
  obtain ⟨g', cap, cur, he, hB, -, -, -, hcur⟩ := owns_some h h0
  cases he
  have hc : ∀ j u, x.2.cells[j]? = some u → cur[k * 6 + j]? = some u := by
    intro j u hj
    have hj6 : j < 6 := (List.getElem?_eq_some_iff.1 hj).1
    have h1 := flat_at (fun x : Tk => x.2.cells) 6 (fun _ => rfl) _ k j x hx hj6
    rw [hj] at h1
    have h2 : (cur.take (n * 6))[k * 6 + j]? = some u := by rw [hcur]; exact h1
    rw [List.getElem?_take] at h2
    split at h2
    · exact h2
    · cases h2
  exact rtAt_of hB hc

set_option maxHeartbeats 16000000 in
theorem der_t31 (wz w0 w : World) (xz : Ext [] wz w0) (bt bl cap d : Nat) (bs : List Nat) (ch : List Tk) (v : Value) (I : DSt w0 w bt bl cap d bs ch v) (h1 : 1 ≤ d) (h4 : d ≤ 4) (hl : ch.length ≤ 4)
    (C : Code) (hC : C = (tailAt 31 derBody).getD .skip) (u0 u1 u2 u3 u4 u6 u7 u8 u9 u10 u12 u14 u15 u16 u17 u18 u19 u20 u21 u22 u23 u24 u25 u26 u27 u28 u29 u30 u31 u32 u33 u34 u35 u36 u37 u38 u39 u40 u41 u42 u43 u44 u45 u46 u47 u48 u49 u50 u51 u52 u53 u54 u55 u56 u57 u58 u59 u60 u61 u62 u63 u64 u65 u66 u67 u68 u69 u70 u71 u72 u73 u74 u75 u76 u77 u78 u79 u80 u81 u82 u83 u84 u85 u86 u87 u88 u89 u90 u91 u92 u93 u94 u95 u96 u97 u98 u99 u100 u101 u102 u103 u104 u105 u106 u107 u108 u109 u110 u111 u112 u113 u114 u115 u116 u117 u118 u119 u120 u121 u122 u123 u124 u125 u126 u127 u128 u129 u130 u131 u132 u133 u134 u135 u136 u137 u138 u139 u140 u141 u142 u143 u144 u145 u146 u147 u148 u149 u150 u151 u152 u153 u154 u155 u156 u157 u158 u159 u160 u161 u162 u163 u164 u165 u166 u167 : Value) :
    Code.wp Tryd.prog C (bodyPost Tryd.prog Tryd.f6 fun e w' => e = .returned (.bool true) ∧ Ext [] wz w') ⟨#[u0, u1, u2, u3, u4, .pointer (some ⟨bt, 0, none⟩), u6, u7, u8, u9, u10, ptrV bs, u12, v, u14, u15, u16, u17, u18, u19, u20, u21, u22, u23, u24, u25, u26, u27, u28, u29, u30, u31, u32, u33, u34, u35, u36, u37, u38, u39, u40, u41, u42, u43, u44, u45, u46, u47, u48, u49, u50, u51, u52, u53, u54, u55, u56, u57, u58, u59, u60, u61, u62, u63, u64, u65, u66, u67, u68, u69, u70, u71, u72, u73, u74, u75, u76, u77, u78, u79, u80, u81, u82, u83, u84, u85, u86, u87, u88, u89, u90, u91, u92, u93, u94, u95, u96, u97, u98, u99, u100, u101, u102, u103, u104, u105, u106, u107, u108, u109, u110, u111, u112, u113, u114, u115, u116, u117, u118, u119, u120, u121, u122, u123, u124, u125, u126, u127, u128, u129, u130, u131, u132, u133, u134, u135, u136, u137, u138, u139, u140, u141, u142, u143, u144, u145, u146, u147, u148, u149, u150, u151, u152, u153, u154, u155, u156, u157, u158, u159, u160, u161, u162, u163, u164, u165, u166, u167], []⟩ w := by
  subst hC
  conv =>
    arg 2
    whnf
  have HZ := Lib.hid xz
  clear xz
  have hbl : bs.length = ch.length := I.K.len
  have HCH := Lib.hid (chain_any bs ch w I.K (by omega))
  have HI := Lib.hid I
  have HSO := Lib.hid (fun w' (x : Ext [] w w') => sound_any bt bl cap bs (chainT d) ch w' (I.ext0 x).T (I.ext0 x).K (I.ext0 x).desc)
  have hso := I.good.sound h1 h4 hl
  rw [hso] at HSO
  obtain ⟨va, vc, rfl⟩ := owns_slice I.row
  obtain ⟨b0, bs0, x0, ch0, rfl, rfl⟩ : ∃ b0 bs0 x0 ch0, bs = b0 :: bs0 ∧ ch = x0 :: ch0 := by
    cases ch with
    | nil => exact I.good.elim
    | cons x0 ch0 =>
      cases bs with
      | nil => simp at hbl
      | cons b0 bs0 => exact ⟨_, _, _, _, rfl, rfl⟩
  obtain ⟨n, hn⟩ : ∃ n, n = (x0 :: ch0).length := ⟨_, rfl⟩
  unfold ChainPost at HCH
  rw [hbl, ← hn] at HCH
  rw [← hn] at hl ⊢
  have HNN := Lib.hid hn
  clear I hso hn hbl
  rw [show ptrV (b0 :: bs0) = .pointer (some ⟨b0, 0, none⟩) from rfl] at HCH HSO ⊢
  go_wp2_with fail
  refine HCH.out.mono ?_
  rintro e w1 ⟨v1, rfl, hown1, x1, -⟩
  obtain ⟨a1, c1, rfl⟩ := owns_slice hown1
  have HOW := Lib.hid hown1
  have HSO1 := Lib.hid (HSO.out w1 x1)
  have HX1 := Lib.hid x1
  clear hown1 x1 HCH HSO
  go_wp2_with fail
  refine HSO1.out.mono ?_
  rintro e w2 ⟨rfl, x2⟩
  have HX2 := Lib.hid (HX1.out.trans x2)
  have HOW2 := Lib.hid (fun w' (x : Ext [] w2 w') => owns_ext HOW.out (x2.trans x) (by simp))
  have HI2 := Lib.hid (fun w' (x : Ext [] w2 w') => HI.out.ext0 (HX2.out.trans x))
  clear x2 HSO1 HX1 HOW
  have hn0 : 1 ≤ n := by rw [HNN.out]; simp
  go_upto_region 35 with (fail)
  go_loopw [22] (fun i wr => ∃ k : Nat, i = .int .i64 (k : Int) ∧ k ≤ n ∧ Ext [] w2 wr) (fun i _ => n - (intOf i).toNat)
  case atStart => exact ⟨0, rfl, by omega, Ext.refl _ _⟩
  case round =>
    obtain ⟨k, rfl, hk, x⟩ := hrel
    by_cases hlt : k < n
    · obtain ⟨lb, rfl, -, -, -⟩ := own_get (HOW2.out wr x) k hlt
      have Ir := HI2.out wr x
      have hsome := owns_some (Ir.row) (by simp)
      obtain ⟨g, gc, cur, hve, -, -, -, -, -⟩ := hsome
      rw [← HNN.out] at hve
      cases hve
      obtain ⟨b, y, up, hb, hy, hB⟩ := tok_at Ir.K (n - 1 - k) (by rw [← HNN.out]; omega)
      have hrb : (b0 :: bs0).reverse[k]? = some b := rev_at (by rw [Ir.K.len]; exact HNN.out.symm) hlt hb
      have hry : (x0 :: ch0).reverse[k]? = some y := rev_at HNN.out.symm hlt hy
      have H1 := Lib.hid (fun w' (x' : Ext [] wr w') => by
        obtain ⟨lb', he, h1, h2, -⟩ := own_get (HOW2.out w' (x.trans x')) k hlt
        cases he
        exact (⟨h2.trans (by rw [List.getElem?_map, hrb]; rfl), h1⟩ : w'.cell? ⟨lb, k, none⟩ = some (.pointer (some ⟨b, 0, none⟩)) ∧ lb < w'.heap.size))
      have H2 := Lib.hid (fun w' (x' : Ext [] wr w') => rtAt_tok (hB.ext x' (by simp)))
      have H3 := Lib.hid (fun w' (x' : Ext [] wr w') => by
        have hr := (HI2.out w' (x.trans x')).row
        rw [← HNN.out] at hr
        exact row_rtAt hr hn0 k y hry)
      have H4 := Lib.hid (fun w' (x' : Ext [] wr w') => rtAt_tok (HI2.out w' (x.trans x')).K.1)
      have hw : x0.2.within y.2 = true := Ir.good.within y (List.mem_of_getElem? hy)
      clear Ir hB hb hy hrb hry
      go_upto_region 37 with (fail)
      refine der37 lb _ g _ n k b b0 y.2 x0.2 wr hlt H1 H2 H3 H4 hw _ (by kernel_rfl) _ _ _ _ _ _ _ _ _ _ _ _ _ _ _ _ _ _ _ _ _ _ _ _ _ _ _ _ _ _ _ _ _ _ _ _ _ _ _ _ _ _ _ _ _ _ _ _ _ _ _ _ _ _ _ _ _ _ _ _ _ _ _ _ _ _ _ _ _ _ _ _ _ _ _ _ _ _ _ _ _ _ _ _ _ _ _ _ _ _ _ _ _ _ _ _ _ _ _ _ _ _ _ _ _ _ _ _ _ _ _ _ _ _ _ _ _ _ _ _ _ _ _ _ _ _ _ _ _ _ _ _ _ _ _ _ _ _ _ _ _ _ _ _ _ _ _ _ _ _ _ _ _ _ _ _ _ _ _ _ _ _ _ _ _ (fun _ _ _ _ _ h => h) ?_
      intro s144 s145 s146 s147 s148 s149 s150 s151 s152 s153 s154 s155 s156 s157 s158 s159 s160 s161 s162 s163 s164 s165 s166 w3 x3
      have x := x.trans x3
      clear H1 H2 H3 H4 hw x3
      go_wp2_with fail
      go_roundw
      case rel => exact ⟨k + 1, by go_num, hlt, x⟩
      case measure => simp [intOf]; omega
    · have i1 : ¬ (k : Int) < (n : Int) := by omega
      go_wp2_with fail
      go_ret
      exact ⟨rfl, HZ.out.trans (HI.out.x.trans (HX2.out.trans x))⟩
end Go.Proofs.YtbjkfgfiifnjoaaDoor
