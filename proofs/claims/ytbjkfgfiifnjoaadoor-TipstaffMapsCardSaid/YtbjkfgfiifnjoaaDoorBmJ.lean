/- Package bmap: insertion, as slices.SortStableFunc does it with eight at most. -/
import Derived.Test.YtbjkfgfiifnjoaaDoorBmI
import Derived.Test.YtbjkfgfiifnjoaaDoorMark
import Derived.Test.YtbjkfgfiifnjoaaDoorSlc
namespace Go.Proofs.YtbjkfgfiifnjoaaDoor
open Go.RowKit
set_option maxRecDepth 100000

/-- The keys by place. -/
def kf (ds : List BE) (p : Nat) : Nat := (ds.map (·.k)).getD p 0
theorem kf_at {ds : List BE} {p : Nat} (h : p < ds.length) : kf ds p = ds[p].k := by simp [kf, List.getD, h]
/-- Two neighbours change places. -/
def swapE (ds : List BE) (c : Nat) (x y : BE) : List BE := (ds.set (c + 1) y).set c x
theorem swapE_len (ds : List BE) (c : Nat) (x y : BE) : (swapE ds c x y).length = ds.length := by simp [swapE]
theorem swapE_perm : ∀ (ds : List BE) (c : Nat) (h : c + 1 < ds.length), (swapE ds c ds[c + 1] ds[c]).Perm ds
  | [], _, h => by simp at h
  | [_], _, h => by simp at h
  | a :: b :: r, 0, _ => List.Perm.swap a b r
  | a :: b :: r, c + 1, h => by
    have ih := swapE_perm (b :: r) c (by simpa using h)
    exact List.Perm.cons a ih
theorem swapE_kf (ds : List BE) (c : Nat) (h : c + 1 < ds.length) : kf (swapE ds c ds[c + 1] ds[c]) c = kf ds (c + 1) ∧ kf (swapE ds c ds[c + 1] ds[c]) (c + 1) = kf ds c ∧ ∀ p, p ≠ c → p ≠ c + 1 → kf (swapE ds c ds[c + 1] ds[c]) p = kf ds p := by
  refine ⟨?_, ?_, fun p h1 h2 => ?_⟩
  · rw [kf_at (by rw [swapE_len]; omega), kf_at h]; simp [swapE]
  · rw [kf_at (by rw [swapE_len]; omega), kf_at (by omega)]; simp [swapE]
  · by_cases hp : p < ds.length
    · rw [kf_at (by rw [swapE_len]; omega), kf_at hp]
      simp only [swapE, List.getElem_set]
      rw [if_neg (by omega), if_neg (by omega)]
    · simp [kf, List.getD, swapE_len, hp]
theorem ptrE_swap (ds : List BE) (rest : List Value) (c : Nat) (x y : BE) (h : c + 1 < ds.length) : ((ptrE ds ++ rest).set (c + 1) (.pointer (some ⟨y.e, 0, none⟩))).set c (.pointer (some ⟨x.e, 0, none⟩)) = ptrE (swapE ds c x y) ++ rest := by
  have hl : (ptrE ds).length = ds.length := by simp [ptrE]
  rw [List.set_append_left _ _ (by omega), List.set_append_left _ _ (by simp [hl]; omega)]
  congr 1
  simp [ptrE, swapE, List.map_set]
theorem ord_pairwise {ds : List BE} (h : Ord (kf ds) ds.length) : ds.Pairwise fun a b => a.k < b.k := by
  refine List.pairwise_iff_getElem.2 fun p q hp hq hpq => ?_
  have := h p q hpq hq
  rwa [kf_at hp, kf_at hq] at this

noncomputable def insBody : Code := Tryd.f125.body.getD .skip

set_option maxHeartbeats 16000000 in
theorem bm_swap (g n cap c : Nat) (e0 e1 : Nat) (cs : List Value) (w2 : World) (hB : Blk w2 g 116 cs) (h1 : cs[c + 1]? = some (.pointer (some ⟨e1, 0, none⟩))) (h0 : cs[c]? = some (.pointer (some ⟨e0, 0, none⟩))) (hn : c + 1 < n) (hn8 : n ≤ 8)
    (C : Code) (hC : C = (regAt 6 insBody).getD .skip) (Q : Exit → Act → World → Prop) (u1 u2 u3 u4 u5 u6 u7 u8 u10 u11 u12 u13 u14 u15 u16 u17 u18 u19 u20 u21 u22 u23 u24 u25 u26 u27 u28 u29 u30 u31 u32 u33 u34 u35 u36 u37 u38 u39 u40 u41 u42 u43 u44 u45 u46 u47 u48 u49 u50 u51 u52 : Value) (hP : ∀ ch (a : Act) (d : Nat) v w, Q (.panic ch) (a.put (some d) v) w → Q (.panic ch) a w)
    (hQ : ∀ (s37 s38 s39 s40 s41 s42 s43 s44 s45 s46 s47 s48 s49 s50 s51 s52 : Value) (w' : World), Blk w' g 116 ((cs.set (c + 1) (.pointer (some ⟨e0, 0, none⟩))).set c (.pointer (some ⟨e1, 0, none⟩))) → Ext [g] w2 w' → Q .normal ⟨#[.slice (some ⟨g, 0, none⟩) n cap, u1, u2, u3, u4, u5, u6, u7, u8, .int .i64 ((c : Int) + 1), u10, u11, u12, u13, u14, u15, u16, u17, u18, u19, u20, u21, u22, u23, u24, u25, u26, u27, u28, u29, u30, u31, u32, u33, u34, u35, u36, s37, s38, s39, s40, s41, s42, s43, s44, s45, s46, s47, s48, s49, s50, s51, s52], []⟩ w') :
    Code.wp Tryd.prog C Q ⟨#[.slice (some ⟨g, 0, none⟩) n cap, u1, u2, u3, u4, u5, u6, u7, u8, .int .i64 ((c : Int) + 1), u10, u11, u12, u13, u14, u15, u16, u17, u18, u19, u20, u21, u22, u23, u24, u25, u26, u27, u28, u29, u30, u31, u32, u33, u34, u35, u36, u37, u38, u39, u40, u41, u42, u43, u44, u45, u46, u47, u48, u49, u50, u51, u52], []⟩ w2 := by
  subst hC
  conv =>
    arg 2
    whnf
  have HQ := Lib.hid hQ
  clear hQ
  have i1 : (c : Int) + 1 < (n : Int) := by omega
  have i2 : (c : Int) < (n : Int) := by omega
  have i3 : (0 : Int) ≤ (c : Int) := by omega
  have i4 : (0 : Int) ≤ (c : Int) + 1 := by omega
  have hw1 : IntKind.i64.wrap (c : Int) = (c : Int) := IntWalk.i64_in _ (by omega)
  have hw2 : IntKind.i64.wrap ((c : Int) + 1 - 1) = (c : Int) := by rw [show (c : Int) + 1 - 1 = (c : Int) by omega]; exact hw1
  have x := (Ext.refl [g] w2).drew
  have hB := hB.drew
  have q1 := (hB.cell (c + 1)).trans h1
  have q0 := (hB.cell c).trans h0
  have hgl := hB.lt
  refine wp_region_mark 15 (S := fun w' => w'.cell? ⟨g, c + 1, none⟩ = some (.pointer (some ⟨e1, 0, none⟩)) ∧ w'.cell? ⟨g, c, none⟩ = some (.pointer (some ⟨e0, 0, none⟩)) ∧ g < w'.heap.size) (by kernel_rfl) ⟨q1, q0, hgl⟩ (fun hS => ?_)
  clear q1 q0 hgl
  generalize w2.drew = w3 at *
  refine wpAnyM_take0 (i := 0) (oi := ⟨some 37, _, _, _, _, _⟩) (v := ?_) rfl (by kernel_rfl) (by kernel_rfl) (by kernel_rfl) (fun ch a w h => hP ch a _ _ w h) (Or.inl ⟨by rfl, ?_⟩) (by assumption) (by kernel_rfl) ?_
  rotate_left 1
  · (intro w hSw; (try dsimp only at hSw); go_split_ands; (try go_simp); (try with_reducible rfl))
  try simp only [Act.put, List.setIfInBounds_toArray, List.set_cons_zero, List.set_cons_succ]
  refine wpAnyM_take0 (i := 1) (oi := ⟨some 38, _, _, _, _, _⟩) (v := ?_) rfl (by kernel_rfl) (by kernel_rfl) (by kernel_rfl) (fun ch a w h => hP ch a _ _ w h) (Or.inl ⟨by rfl, ?_⟩) (by assumption) (by kernel_rfl) ?_
  rotate_left 1
  · (intro w hSw; (try dsimp only at hSw); go_split_ands; (try go_simp); (try with_reducible rfl))
  try simp only [Act.put, List.setIfInBounds_toArray, List.set_cons_zero, List.set_cons_succ]
  refine wpAnyM_take0 (i := 2) (oi := ⟨some 39, _, _, _, _, _⟩) (v := ?_) rfl (by kernel_rfl) (by kernel_rfl) (by kernel_rfl) (fun ch a w h => hP ch a _ _ w h) (Or.inl ⟨by rfl, ?_⟩) (by assumption) (by kernel_rfl) ?_
  rotate_left 1
  · (intro w hSw; (try dsimp only at hSw); go_split_ands; (try go_simp); (try with_reducible rfl))
  try simp only [Act.put, List.setIfInBounds_toArray, List.set_cons_zero, List.set_cons_succ]
  refine wpAnyM_take0 (i := 3) (oi := ⟨some 40, _, _, _, _, _⟩) (v := ?_) rfl (by kernel_rfl) (by kernel_rfl) (by kernel_rfl) (fun ch a w h => hP ch a _ _ w h) (Or.inl ⟨by rfl, ?_⟩) (by assumption) (by kernel_rfl) ?_
  rotate_left 1
  · (intro w hSw; (try dsimp only at hSw); go_split_ands; (try go_simp); (try with_reducible rfl))
  try simp only [Act.put, List.setIfInBounds_toArray, List.set_cons_zero, List.set_cons_succ]
  refine wpAnyM_take0 (i := 4) (oi := ⟨some 41, _, _, _, _, _⟩) (v := ?_) rfl (by kernel_rfl) (by kernel_rfl) (by kernel_rfl) (fun ch a w h => hP ch a _ _ w h) (Or.inl ⟨by rfl, ?_⟩) (by assumption) (by kernel_rfl) ?_
  rotate_left 1
  · (intro w hSw; (try dsimp only at hSw); go_split_ands; (try go_simp); (try with_reducible rfl))
  try simp only [Act.put, List.setIfInBounds_toArray, List.set_cons_zero, List.set_cons_succ]
  refine wpAnyM_take0 (i := 5) (oi := ⟨some 42, _, _, _, _, _⟩) (v := ?_) rfl (by kernel_rfl) (by kernel_rfl) (by kernel_rfl) (fun ch a w h => hP ch a _ _ w h) (Or.inl ⟨by rfl, ?_⟩) (by assumption) (by kernel_rfl) ?_
  rotate_left 1
  · (intro w hSw; (try dsimp only at hSw); go_split_ands; (try go_simp); (try with_reducible rfl))
  try simp only [Act.put, List.setIfInBounds_toArray, List.set_cons_zero, List.set_cons_succ]
  refine wpAnyM_take0 (i := 6) (oi := ⟨some 43, _, _, _, _, _⟩) (v := ?_) rfl (by kernel_rfl) (by kernel_rfl) (by kernel_rfl) (fun ch a w h => hP ch a _ _ w h) (Or.inl ⟨by rfl, ?_⟩) (by assumption) (by kernel_rfl) ?_
  rotate_left 1
  · (intro w hSw; (try dsimp only at hSw); go_split_ands; (try go_simp); (try with_reducible rfl))
  try simp only [Act.put, List.setIfInBounds_toArray, List.set_cons_zero, List.set_cons_succ]
  refine wpAnyM_take0 (i := 7) (oi := ⟨some 44, _, _, _, _, _⟩) (v := ?_) rfl (by kernel_rfl) (by kernel_rfl) (by kernel_rfl) (fun ch a w h => hP ch a _ _ w h) (Or.inl ⟨by rfl, ?_⟩) (by assumption) (by kernel_rfl) ?_
  rotate_left 1
  · (intro w hSw; (try dsimp only at hSw); go_split_ands; (try go_simp); (try with_reducible rfl))
  try simp only [Act.put, List.setIfInBounds_toArray, List.set_cons_zero, List.set_cons_succ]
  refine wpAnyM_take0 (i := 8) (oi := ⟨some 45, _, _, _, _, _⟩) (v := ?_) rfl (by kernel_rfl) (by kernel_rfl) (by kernel_rfl) (fun ch a w h => hP ch a _ _ w h) (Or.inl ⟨by rfl, ?_⟩) (by assumption) (by kernel_rfl) ?_
  rotate_left 1
  · (intro w hSw; (try dsimp only at hSw); go_split_ands; (try go_simp); (try with_reducible rfl))
  try simp only [Act.put, List.setIfInBounds_toArray, List.set_cons_zero, List.set_cons_succ]
  refine wpAnyM_take (i := 9) (oi := ⟨some 46, _, _, _, _, _⟩) (v := ?_) rfl (by kernel_rfl) (by kernel_rfl) (by kernel_rfl) (fun ch a w h => hP ch a _ _ w h) (Or.inl ⟨by rfl, ?_⟩) (by assumption) (by kernel_rfl) (by kernel_rfl) (by kernel_rfl) ?_
  rotate_left 1
  · (intro w hSw; (try dsimp only at hSw); go_split_ands; (try skip); (try go_simp); (try with_reducible rfl))
  try simp only [Act.put, List.setIfInBounds_toArray, List.set_cons_zero, List.set_cons_succ]
  refine wpAnyM_take0 (i := 10) (oi := ⟨some 47, _, _, _, _, _⟩) (v := ?_) rfl (by kernel_rfl) (by kernel_rfl) (by kernel_rfl) (fun ch a w h => hP ch a _ _ w h) (Or.inl ⟨by rfl, ?_⟩) (by assumption) (by kernel_rfl) ?_
  rotate_left 1
  · (intro w hSw; (try dsimp only at hSw); go_split_ands; (try go_simp); (try with_reducible rfl))
  try simp only [Act.put, List.setIfInBounds_toArray, List.set_cons_zero, List.set_cons_succ]
  refine wpAnyM_take0 (i := 11) (oi := ⟨some 48, _, _, _, _, _⟩) (v := ?_) rfl (by kernel_rfl) (by kernel_rfl) (by kernel_rfl) (fun ch a w h => hP ch a _ _ w h) (Or.inl ⟨by rfl, ?_⟩) (by assumption) (by kernel_rfl) ?_
  rotate_left 1
  · (intro w hSw; (try dsimp only at hSw); go_split_ands; (try go_simp); (try with_reducible rfl))
  try simp only [Act.put, List.setIfInBounds_toArray, List.set_cons_zero, List.set_cons_succ]
  refine wpAnyM_take0 (i := 12) (oi := ⟨some 49, _, _, _, _, _⟩) (v := ?_) rfl (by kernel_rfl) (by kernel_rfl) (by kernel_rfl) (fun ch a w h => hP ch a _ _ w h) (Or.inl ⟨by rfl, ?_⟩) (by assumption) (by kernel_rfl) ?_
  rotate_left 1
  · (intro w hSw; (try dsimp only at hSw); go_split_ands; (try go_simp); (try with_reducible rfl))
  try simp only [Act.put, List.setIfInBounds_toArray, List.set_cons_zero, List.set_cons_succ]
  refine wpAnyM_take (i := 13) (oi := ⟨some 50, _, _, _, _, _⟩) (v := ?_) rfl (by kernel_rfl) (by kernel_rfl) (by kernel_rfl) (fun ch a w h => hP ch a _ _ w h) (Or.inl ⟨by rfl, ?_⟩) (by assumption) (by kernel_rfl) (by kernel_rfl) (by kernel_rfl) ?_
  rotate_left 1
  · (intro w hSw; (try dsimp only at hSw); go_split_ands; (try skip); (try go_simp); (try with_reducible rfl))
  try simp only [Act.put, List.setIfInBounds_toArray, List.set_cons_zero, List.set_cons_succ]
  refine wpAnyM_take0 (i := 14) (oi := ⟨some 51, _, _, _, _, _⟩) (v := ?_) rfl (by kernel_rfl) (by kernel_rfl) (by kernel_rfl) (fun ch a w h => hP ch a _ _ w h) (Or.inl ⟨by rfl, ?_⟩) (by assumption) (by kernel_rfl) ?_
  rotate_left 1
  · (intro w hSw; (try dsimp only at hSw); go_split_ands; (try go_simp); (try with_reducible rfl))
  try simp only [Act.put, List.setIfInBounds_toArray, List.set_cons_zero, List.set_cons_succ]
  refine wpAnyM_ready (rs := [15]) (by kernel_rfl) (by simp) ?_
  refine AllReadyM.mark (o := ⟨none, _, _, _, _, _⟩) rfl (by kernel_rfl) (fun K hK => ?_)
  have hgl := hB.lt
  have q1 := (hB.cell (c + 1)).trans h1
  have fz := hB.frozen (c + 1)
  go_simp
  clear q1 hgl fz hS
  have x := x.setCell (p := ⟨g, c + 1, none⟩) (.inl (by simp)) (.pointer (some ⟨e0, 0, none⟩))
  have h0 : (cs.set (c + 1) (.pointer (some ⟨e0, 0, none⟩)))[c]? = some (.pointer (some ⟨e0, 0, none⟩)) := by rw [List.getElem?_set_ne (by omega)]; exact h0
  have hB := hB.set (c + 1) (.pointer (some ⟨e0, 0, none⟩))
  generalize w3.setCell ⟨g, c + 1, none⟩ (.pointer (some ⟨e0, 0, none⟩)) = w4 at *
  refine hK.out _ _ trivial (fun hS => ?_)
  clear hK K
  try simp only [Act.put]
  refine wpAnyH_take (i := 16) (oi := ⟨some 52, _, _, _, _, _⟩) (v := ?_) rfl (by kernel_rfl) (by kernel_rfl) (by kernel_rfl) (fun ch a w h => hP ch a _ _ w h) (Or.inl ⟨by rfl, ?_⟩) (by assumption) ?_
  rotate_left 1
  · (intro w hSw; (try dsimp only at hSw); go_split_ands; (try go_simp); (try with_reducible rfl))
  try simp only [Act.put, List.setIfInBounds_toArray, List.set_cons_zero, List.set_cons_succ]
  refine wpAnyH_ready (rs := [17]) (by kernel_rfl) (by simp) ?_
  refine AllReadyH.cons (o := ⟨none, _, _, _, _, _⟩) rfl (fun K hK => ?_) AllReadyH.nil
  have hgl := hB.lt
  have q0 := (hB.cell c).trans h0
  have fz := hB.frozen c
  go_simp
  clear q0 hgl fz
  have x := x.setCell (p := ⟨g, c, none⟩) (.inl (by simp)) (.pointer (some ⟨e1, 0, none⟩))
  have hB := hB.set c (.pointer (some ⟨e1, 0, none⟩))
  generalize w4.setCell ⟨g, c, none⟩ (.pointer (some ⟨e1, 0, none⟩)) = w5 at *
  refine hK.out _ _ trivial (fun hS => ?_)
  clear hK K
  try simp only [Act.put]
  refine wpAnyH_done (by kernel_rfl) ?_ _
  exact HQ.out _ _ _ _ _ _ _ _ _ _ _ _ _ _ _ _ _ hB x

set_option maxHeartbeats 16000000 in
theorem bm_insert (g cap : Nat) (es : List BE) (rest : List Value) (w : World) (hB : Blk w g 116 (ptrE es ++ rest)) (hl : es.length ≤ 8) (hk : ∀ x ∈ es, KeyAt w x) (hks : Apart1 es) :
    Calls Tryd.prog 125 #[.slice (some ⟨g, 0, none⟩) es.length cap, .int .i64 0, .int .i64 (es.length : Int), .func (.func 67) #[] #[]] w fun e w' =>
      e = .returned (.tuple #[]) ∧ ∃ ds, ds.Perm es ∧ (ds.Pairwise fun a b => a.k < b.k) ∧ Blk w' g 116 (ptrE ds ++ rest) ∧ Ext [g] w w' := by
  have HKE := Lib.hid (fun w' (x : Ext [g] w w') y (hy : y ∈ es) => (hk y hy).ext x (by simp; exact fun e => blk_ne (hk y hy).b hB (by decide) e))
  have HLE := Lib.hid hl
  have HKS := Lib.hid hks
  clear hk hks
  go_enter Tryd.func125, Tryd.ntmps125
  go_wp2_with fail
  go_loopw [8] (fun i wr => ∃ (a : Nat) (ds : List BE), i = .int .i64 (a : Int) ∧ 1 ≤ a ∧ (a ≤ es.length ∨ a = 1) ∧ ds.Perm es ∧ Ord (kf ds) a ∧ Blk wr g 116 (ptrE ds ++ rest) ∧ Ext [g] w wr) (fun i _ => es.length - (intOf i).toNat)
  case atStart => exact ⟨1, es, rfl, by omega, .inr rfl, List.Perm.refl _, fun p q h1 h2 => by omega, hB, Ext.refl _ _⟩
  case round =>
    clear hB
    obtain ⟨a, ds, rfl, ha1, ha2, hp, ho, hB, x⟩ := hrel
    by_cases hlt : a < es.length
    · have hlen := hp.length_eq
      have HO := Lib.hid ho.but
      have HP := Lib.hid hp
      have HL := Lib.hid hlen
      clear ho hp hlen
      go_upto_region 3 with (fail)
      go_wp2_with fail
      go_loopw [9] (fun j wi => ∃ (b : Nat) (d : List BE), j = .int .i64 (b : Int) ∧ b ≤ a ∧ d.Perm es ∧ OrdBut (kf d) b a ∧ Blk wi g 116 (ptrE d ++ rest) ∧ Ext [g] w wi) (fun j _ => (intOf j).toNat)
      case atStart => exact ⟨a, ds, rfl, Nat.le_refl _, HP.out, HO.out, hB, x⟩
      case round =>
        clear hB x
        obtain ⟨b, d, rfl, hb, hp, ho, hB, x⟩ := hrel
        have HL2 := Lib.hid hp.length_eq
        cases b with
        | zero =>
          have HDONE := Lib.hid (ho.done (.inl rfl))
          have HP2 := Lib.hid hp
          clear ho hp
          go_upto_region 4 with (fail)
          have hB := hB.drew
          have x := x.drew
          refine wp_region_held_drew (S := fun _ => True) (by kernel_rfl) trivial (fun hS => ?_)
          generalize wr.drew = w9 at *
          refine wpAnyH_take (i := 0) (oi := ⟨some 18, _, _, _, _, _⟩) (v := ?_) rfl (by kernel_rfl) (by kernel_rfl) (by kernel_rfl) (fun _ _ _ h => h) (Or.inl ⟨by rfl, ?_⟩) (by assumption) ?_
          rotate_left 1
          · (intro w hSw; (try dsimp only at hSw); go_split_ands; (try go_simp); (try with_reducible rfl))
          try simp only [Act.put, List.setIfInBounds_toArray, List.set_cons_zero, List.set_cons_succ]
          refine wpAnyH_take (i := 1) (oi := ⟨some 19, _, _, _, _, _⟩) (v := ?_) rfl (by kernel_rfl) (by kernel_rfl) (by kernel_rfl) (fun _ _ _ h => h) (Or.inl ⟨by rfl, ?_⟩) (by assumption) ?_
          rotate_left 1
          · (intro w hSw; (try dsimp only at hSw); go_split_ands; (try go_simp); (try with_reducible rfl))
          try simp only [Act.put, List.setIfInBounds_toArray, List.set_cons_zero, List.set_cons_succ]
          refine wpAnyH_take (i := 2) (oi := ⟨some 20, _, _, _, _, _⟩) (v := ?_) rfl (by kernel_rfl) (by kernel_rfl) (by kernel_rfl) (fun _ _ _ h => h) (Or.inl ⟨by rfl, ?_⟩) (by assumption) ?_
          rotate_left 1
          · (intro w hSw; (try dsimp only at hSw); go_split_ands; (try go_simp); (try with_reducible rfl))
          try simp only [Act.put, List.setIfInBounds_toArray, List.set_cons_zero, List.set_cons_succ]
          refine wpAnyH_take (i := 3) (oi := ⟨some 21, _, _, _, _, _⟩) (v := ?_) rfl (by kernel_rfl) (by kernel_rfl) (by kernel_rfl) (fun _ _ _ h => h) (Or.inl ⟨by rfl, ?_⟩) (by assumption) ?_
          rotate_left 1
          · (intro w hSw; (try dsimp only at hSw); go_split_ands; (try go_simp); (try with_reducible rfl))
          try simp only [Act.put, List.setIfInBounds_toArray, List.set_cons_zero, List.set_cons_succ]
          refine wpAnyH_take (i := 4) (oi := ⟨some 22, _, _, _, _, _⟩) (v := _) rfl (by kernel_rfl) (by kernel_rfl) (by kernel_rfl) (fun _ _ _ h => h) (Or.inr ⟨by rfl, rfl⟩) (by assumption) ?_
          try simp only [Act.put, List.setIfInBounds_toArray, List.set_cons_zero, List.set_cons_succ]
          refine wpAnyH_take (i := 5) (oi := ⟨some 23, _, _, _, _, _⟩) (v := _) rfl (by kernel_rfl) (by kernel_rfl) (by kernel_rfl) (fun _ _ _ h => h) (Or.inr ⟨by rfl, rfl⟩) (by assumption) ?_
          try simp only [Act.put, List.setIfInBounds_toArray, List.set_cons_zero, List.set_cons_succ]
          refine wpAnyH_take (i := 6) (oi := ⟨some 24, _, _, _, _, _⟩) (v := _) rfl (by kernel_rfl) (by kernel_rfl) (by kernel_rfl) (fun _ _ _ h => h) (Or.inr ⟨by rfl, rfl⟩) (by assumption) ?_
          try simp only [Act.put, List.setIfInBounds_toArray, List.set_cons_zero, List.set_cons_succ]
          refine wpAnyH_take (i := 7) (oi := ⟨some 25, _, _, _, _, _⟩) (v := _) rfl (by kernel_rfl) (by kernel_rfl) (by kernel_rfl) (fun _ _ _ h => h) (Or.inr ⟨by rfl, rfl⟩) (by assumption) ?_
          try simp only [Act.put, List.setIfInBounds_toArray, List.set_cons_zero, List.set_cons_succ]
          refine wpAnyH_take (i := 8) (oi := ⟨some 26, _, _, _, _, _⟩) (v := _) rfl (by kernel_rfl) (by kernel_rfl) (by kernel_rfl) (fun _ _ _ h => h) (Or.inr ⟨by rfl, rfl⟩) (by assumption) ?_
          try simp only [Act.put, List.setIfInBounds_toArray, List.set_cons_zero, List.set_cons_succ]
          refine wpAnyH_take (i := 9) (oi := ⟨some 27, _, _, _, _, _⟩) (v := _) rfl (by kernel_rfl) (by kernel_rfl) (by kernel_rfl) (fun _ _ _ h => h) (Or.inr ⟨by rfl, rfl⟩) (by assumption) ?_
          try simp only [Act.put, List.setIfInBounds_toArray, List.set_cons_zero, List.set_cons_succ]
          refine wpAnyH_take (i := 10) (oi := ⟨some 28, _, _, _, _, _⟩) (v := _) rfl (by kernel_rfl) (by kernel_rfl) (by kernel_rfl) (fun _ _ _ h => h) (Or.inr ⟨by rfl, rfl⟩) (by assumption) ?_
          try simp only [Act.put, List.setIfInBounds_toArray, List.set_cons_zero, List.set_cons_succ]
          refine wpAnyH_take (i := 11) (oi := ⟨some 29, _, _, _, _, _⟩) (v := _) rfl (by kernel_rfl) (by kernel_rfl) (by kernel_rfl) (fun _ _ _ h => h) (Or.inr ⟨by rfl, rfl⟩) (by assumption) ?_
          try simp only [Act.put, List.setIfInBounds_toArray, List.set_cons_zero, List.set_cons_succ]
          refine wpAnyH_take (i := 12) (oi := ⟨some 30, _, _, _, _, _⟩) (v := _) rfl (by kernel_rfl) (by kernel_rfl) (by kernel_rfl) (fun _ _ _ h => h) (Or.inr ⟨by rfl, rfl⟩) (by assumption) ?_
          try simp only [Act.put, List.setIfInBounds_toArray, List.set_cons_zero, List.set_cons_succ]
          refine wpAnyH_take (i := 13) (oi := ⟨some 31, _, _, _, _, _⟩) (v := _) rfl (by kernel_rfl) (by kernel_rfl) (by kernel_rfl) (fun _ _ _ h => h) (Or.inr ⟨by rfl, rfl⟩) (by assumption) ?_
          try simp only [Act.put, List.setIfInBounds_toArray, List.set_cons_zero, List.set_cons_succ]
          refine wpAnyH_take (i := 14) (oi := ⟨some 32, _, _, _, _, _⟩) (v := _) rfl (by kernel_rfl) (by kernel_rfl) (by kernel_rfl) (fun _ _ _ h => h) (Or.inr ⟨by rfl, rfl⟩) (by assumption) ?_
          try simp only [Act.put, List.setIfInBounds_toArray, List.set_cons_zero, List.set_cons_succ]
          refine wpAnyH_take (i := 15) (oi := ⟨some 33, _, _, _, _, _⟩) (v := _) rfl (by kernel_rfl) (by kernel_rfl) (by kernel_rfl) (fun _ _ _ h => h) (Or.inr ⟨by rfl, rfl⟩) (by assumption) ?_
          try simp only [Act.put, List.setIfInBounds_toArray, List.set_cons_zero, List.set_cons_succ]
          refine wpAnyH_take (i := 16) (oi := ⟨some 34, _, _, _, _, _⟩) (v := ?_) rfl (by kernel_rfl) (by kernel_rfl) (by kernel_rfl) (fun _ _ _ h => h) (Or.inl ⟨by rfl, ?_⟩) (by assumption) ?_
          rotate_left 1
          · (intro w hSw; (try dsimp only at hSw); go_split_ands; (try go_simp); (try with_reducible rfl))
          try simp only [Act.put, List.setIfInBounds_toArray, List.set_cons_zero, List.set_cons_succ]
          refine wpAnyH_done (by kernel_rfl) ?_ _
          go_wp2_with fail
          go_roundw
          case rel => exact ⟨a + 1, d, by go_num, by omega, .inl (by omega), HP2.out, HDONE.out, hB, x⟩
          case measure => simp [intOf]; omega
        | succ c =>
          have hc1 : c + 1 < d.length := by rw [HL2.out]; omega
          have HK1 := Lib.hid (fun w' (x : Ext [g] w w') => (HKE.out w' x d[c + 1] (hp.mem_iff.1 (List.getElem_mem hc1))))
          have HK0 := Lib.hid (fun w' (x : Ext [g] w w') => (HKE.out w' x d[c] (hp.mem_iff.1 (List.getElem_mem (by omega)))))
          have HC1 := Lib.hid (fun w' (hB : Blk w' g 116 (ptrE d ++ rest)) => (show w'.cell? ⟨g, c + 1, none⟩ = some (.pointer (some ⟨d[c + 1].e, 0, none⟩)) ∧ w'.cell? ⟨g, c, none⟩ = some (.pointer (some ⟨d[c].e, 0, none⟩)) ∧ g < w'.heap.size ∧ w'.frozen? ⟨g, c + 1, none⟩ = false ∧ w'.frozen? ⟨g, c, none⟩ = false from by
            have hl0 : (ptrE d).length = d.length := by simp [ptrE]
            refine ⟨?_, ?_, hB.lt, hB.frozen _, hB.frozen _⟩
            · rw [hB.cell, List.getElem?_append_left (by omega)]; simp [ptrE, hc1]
            · rw [hB.cell, List.getElem?_append_left (by omega)]; simp [ptrE, show c < d.length by omega]))
          have HSP := Lib.hid (swapE_perm d c hc1)
          have HSK := Lib.hid (swapE_kf d c hc1)
          have HPS := Lib.hid (fun rest => ptrE_swap d rest c d[c + 1] d[c] hc1)
          have HKF := Lib.hid (And.intro (kf_at hc1) (kf_at (show c < d.length by omega)))
          have HNE := Lib.hid (show d[c].k ≠ d[c + 1].k from List.pairwise_iff_getElem.1 (apart_perm HKS.out hp) c (c + 1) (by omega) hc1 (by omega))
          have HP2 := Lib.hid hp
          have HO2 := Lib.hid ho
          have i1 : (c : Int) + 1 < (es.length : Int) := by omega
          have i2 : (c : Int) < (es.length : Int) := by omega
          have i3 : (0 : Int) ≤ (c : Int) := by omega
          have i4 : (0 : Int) ≤ (c : Int) + 1 := by omega
          have i5 : (0 : Int) < (c : Int) + 1 := by omega
          have hw1 : IntKind.i64.wrap (c : Int) = (c : Int) := IntWalk.i64_in _ (by omega)
          have hw2 : IntKind.i64.wrap ((c : Int) + 1 - 1) = (c : Int) := by rw [show (c : Int) + 1 - 1 = (c : Int) by omega]; exact hw1
          have hcast : ((c + 1 : Nat) : Int) = (c : Int) + 1 := by omega
          rw [hcast]
          clear ho hp hcast
          generalize d[c + 1] = y1 at *
          generalize d[c] = y0 at *
          go_upto_region 4 with (fail)
          have hB := hB.drew
          have x := x.drew
          have hS0 : Ext [] wr.drew wr.drew := Ext.refl _ _
          refine wp_region_held_drew (S := fun w' => Ext [] wr.drew w') (by kernel_rfl) hS0 (fun hS => ?_)
          clear hS0
          generalize wr.drew = w9 at *
          refine wpAnyH_take (i := 0) (oi := ⟨some 18, _, _, _, _, _⟩) (v := ?_) rfl (by kernel_rfl) (by kernel_rfl) (by kernel_rfl) (fun _ _ _ h => h) (Or.inl ⟨by rfl, ?_⟩) (by assumption) ?_
          rotate_left 1
          · (intro w hSw; (try dsimp only at hSw); go_split_ands; (try go_simp); (try with_reducible rfl))
          try simp only [Act.put, List.setIfInBounds_toArray, List.set_cons_zero, List.set_cons_succ]
          refine wpAnyH_take (i := 1) (oi := ⟨some 19, _, _, _, _, _⟩) (v := ?_) rfl (by kernel_rfl) (by kernel_rfl) (by kernel_rfl) (fun _ _ _ h => h) (Or.inl ⟨by rfl, ?_⟩) (by assumption) ?_
          rotate_left 1
          · (intro w hSw; (try dsimp only at hSw); go_split_ands; (try go_simp); (try with_reducible rfl))
          try simp only [Act.put, List.setIfInBounds_toArray, List.set_cons_zero, List.set_cons_succ]
          refine wpAnyH_take (i := 2) (oi := ⟨some 20, _, _, _, _, _⟩) (v := ?_) rfl (by kernel_rfl) (by kernel_rfl) (by kernel_rfl) (fun _ _ _ h => h) (Or.inl ⟨by rfl, ?_⟩) (by assumption) ?_
          rotate_left 1
          · (intro w hSw; (try dsimp only at hSw); go_split_ands; (try go_simp); (try with_reducible rfl))
          try simp only [Act.put, List.setIfInBounds_toArray, List.set_cons_zero, List.set_cons_succ]
          refine wpAnyH_take (i := 3) (oi := ⟨some 21, _, _, _, _, _⟩) (v := ?_) rfl (by kernel_rfl) (by kernel_rfl) (by kernel_rfl) (fun _ _ _ h => h) (Or.inl ⟨by rfl, ?_⟩) (by assumption) ?_
          rotate_left 1
          · (intro w hSw; (try dsimp only at hSw); go_split_ands; (try go_simp); (try with_reducible rfl))
          try simp only [Act.put, List.setIfInBounds_toArray, List.set_cons_zero, List.set_cons_succ]
          refine wpAnyH_take (i := 4) (oi := ⟨some 22, _, _, _, _, _⟩) (v := ?_) rfl (by kernel_rfl) (by kernel_rfl) (by kernel_rfl) (fun _ _ _ h => h) (Or.inl ⟨by rfl, ?_⟩) (by assumption) ?_
          rotate_left 1
          · (intro w hSw; (try dsimp only at hSw); go_split_ands; (try go_simp); (try with_reducible rfl))
          try simp only [Act.put, List.setIfInBounds_toArray, List.set_cons_zero, List.set_cons_succ]
          refine wpAnyH_take (i := 5) (oi := ⟨some 23, _, _, _, _, _⟩) (v := ?_) rfl (by kernel_rfl) (by kernel_rfl) (by kernel_rfl) (fun _ _ _ h => h) (Or.inl ⟨by rfl, ?_⟩) (by assumption) ?_
          rotate_left 1
          · (intro w hSw; (try dsimp only at hSw); go_split_ands; (try go_simp); (try with_reducible rfl))
          try simp only [Act.put, List.setIfInBounds_toArray, List.set_cons_zero, List.set_cons_succ]
          refine wpAnyH_take (i := 6) (oi := ⟨some 24, _, _, _, _, _⟩) (v := ?_) rfl (by kernel_rfl) (by kernel_rfl) (by kernel_rfl) (fun _ _ _ h => h) (Or.inl ⟨by rfl, ?_⟩) (by assumption) ?_
          rotate_left 1
          · (intro w hSw; (try dsimp only at hSw); go_split_ands; (try go_simp); (try with_reducible rfl))
          try simp only [Act.put, List.setIfInBounds_toArray, List.set_cons_zero, List.set_cons_succ]
          refine wpAnyH_take (i := 7) (oi := ⟨some 25, _, _, _, _, _⟩) (v := ?_) rfl (by kernel_rfl) (by kernel_rfl) (by kernel_rfl) (fun _ _ _ h => h) (Or.inl ⟨by rfl, ?_⟩) (by assumption) ?_
          rotate_left 1
          · (intro w hSw; (try dsimp only at hSw); go_split_ands; (try go_simp); (try with_reducible rfl))
          try simp only [Act.put, List.setIfInBounds_toArray, List.set_cons_zero, List.set_cons_succ]
          refine wpAnyH_take (i := 8) (oi := ⟨some 26, _, _, _, _, _⟩) (v := ?_) rfl (by kernel_rfl) (by kernel_rfl) (by kernel_rfl) (fun _ _ _ h => h) (Or.inl ⟨by rfl, ?_⟩) (by assumption) ?_
          rotate_left 1
          · (intro w hSw; (try dsimp only at hSw); go_split_ands; obtain ⟨q1, q0, hgl, -, -⟩ := HC1.out w (hB.ext (by assumption : Ext [] w9 w) (by simp)); (try go_simp); (try with_reducible rfl))
          try simp only [Act.put, List.setIfInBounds_toArray, List.set_cons_zero, List.set_cons_succ]
          refine wpAnyH_take (i := 9) (oi := ⟨some 27, _, _, _, _, _⟩) (v := ?_) rfl (by kernel_rfl) (by kernel_rfl) (by kernel_rfl) (fun _ _ _ h => h) (Or.inl ⟨by rfl, ?_⟩) (by assumption) ?_
          rotate_left 1
          · (intro w hSw; (try dsimp only at hSw); go_split_ands; (try go_simp); (try with_reducible rfl))
          try simp only [Act.put, List.setIfInBounds_toArray, List.set_cons_zero, List.set_cons_succ]
          refine wpAnyH_take (i := 10) (oi := ⟨some 28, _, _, _, _, _⟩) (v := ?_) rfl (by kernel_rfl) (by kernel_rfl) (by kernel_rfl) (fun _ _ _ h => h) (Or.inl ⟨by rfl, ?_⟩) (by assumption) ?_
          rotate_left 1
          · (intro w hSw; (try dsimp only at hSw); go_split_ands; (try go_simp); (try with_reducible rfl))
          try simp only [Act.put, List.setIfInBounds_toArray, List.set_cons_zero, List.set_cons_succ]
          refine wpAnyH_take (i := 11) (oi := ⟨some 29, _, _, _, _, _⟩) (v := ?_) rfl (by kernel_rfl) (by kernel_rfl) (by kernel_rfl) (fun _ _ _ h => h) (Or.inl ⟨by rfl, ?_⟩) (by assumption) ?_
          rotate_left 1
          · (intro w hSw; (try dsimp only at hSw); go_split_ands; (try go_simp); (try with_reducible rfl))
          try simp only [Act.put, List.setIfInBounds_toArray, List.set_cons_zero, List.set_cons_succ]
          refine wpAnyH_take (i := 12) (oi := ⟨some 30, _, _, _, _, _⟩) (v := ?_) rfl (by kernel_rfl) (by kernel_rfl) (by kernel_rfl) (fun _ _ _ h => h) (Or.inl ⟨by rfl, ?_⟩) (by assumption) ?_
          rotate_left 1
          · (intro w hSw; (try dsimp only at hSw); go_split_ands; (try go_simp); (try with_reducible rfl))
          try simp only [Act.put, List.setIfInBounds_toArray, List.set_cons_zero, List.set_cons_succ]
          refine wpAnyH_take (i := 13) (oi := ⟨some 31, _, _, _, _, _⟩) (v := ?_) rfl (by kernel_rfl) (by kernel_rfl) (by kernel_rfl) (fun _ _ _ h => h) (Or.inl ⟨by rfl, ?_⟩) (by assumption) ?_
          rotate_left 1
          · (intro w hSw; (try dsimp only at hSw); go_split_ands; obtain ⟨q1, q0, hgl, -, -⟩ := HC1.out w (hB.ext (by assumption : Ext [] w9 w) (by simp)); (try go_simp); (try with_reducible rfl))
          try simp only [Act.put, List.setIfInBounds_toArray, List.set_cons_zero, List.set_cons_succ]
          refine wpAnyH_ready (rs := [14]) (by kernel_rfl) (by simp) ?_
          refine AllReadyH.cons (o := ⟨some 32, _, _, _, _, _⟩) rfl (fun K hK => ?_) AllReadyH.nil
          go_simp
          refine (bm_sclos y1 y0 _ (HK1.out _ (x.trans (hS.sub (by simp)))) (HK0.out _ (x.trans (hS.sub (by simp))))).mono ?_
          rintro e w2 ⟨rfl, x2⟩
          go_simp
          have hS2 := hS.trans x2
          refine hK.out _ _ hS2 (fun hS => ?_)
          clear hS2
          clear hK K
          try simp only [Act.put, List.setIfInBounds_toArray, List.set_cons_zero, List.set_cons_succ]
          refine wpAnyH_take (i := 15) (oi := ⟨some 33, _, _, _, _, _⟩) (v := ?_) rfl (by kernel_rfl) (by kernel_rfl) (by kernel_rfl) (fun _ _ _ h => h) (Or.inl ⟨by rfl, ?_⟩) (by assumption) ?_
          rotate_left 1
          · (intro w hSw; (try dsimp only at hSw); go_split_ands; (try go_simp); (try with_reducible rfl))
          try simp only [Act.put, List.setIfInBounds_toArray, List.set_cons_zero, List.set_cons_succ]
          refine wpAnyH_take (i := 16) (oi := ⟨some 34, _, _, _, _, _⟩) (v := ?_) rfl (by kernel_rfl) (by kernel_rfl) (by kernel_rfl) (fun _ _ _ h => h) (Or.inl ⟨by rfl, ?_⟩) (by assumption) ?_
          rotate_left 1
          · (intro w hSw; (try dsimp only at hSw); go_split_ands; (try go_simp); (try with_reducible rfl))
          try simp only [Act.put, List.setIfInBounds_toArray, List.set_cons_zero, List.set_cons_succ]
          refine wpAnyH_done (by kernel_rfl) ?_ _
          by_cases hcm : y1.k < y0.k
          · rw [show decide (cmpK y1.k y0.k < 0) = true from by rw [show cmpK y1.k y0.k = -1 from if_pos hcm]; rfl]
            have x := x.trans (hS.sub (by simp))
            have hB := hB.ext hS (by simp)
            clear hS x2
            go_upto_region 6 with (fail)
            have hl0 : (ptrE d).length = d.length := by simp [ptrE]
            have hcc := HC1.out _ hB
            rw [hB.cell, hB.cell] at hcc
            refine bm_swap g es.length cap c _ _ _ w2 hB hcc.1 hcc.2.1 (by omega) HLE.out _ (by kernel_rfl) _ _ _ _ _ _ _ _ _ _ _ _ _ _ _ _ _ _ _ _ _ _ _ _ _ _ _ _ _ _ _ _ _ _ _ _ _ _ _ _ _ _ _ _ _ _ _ _ _ _ _ _ ?_ ?_
            · exact fun _ _ _ _ _ h => h
            intro s37 s38 s39 s40 s41 s42 s43 s44 s45 s46 s47 s48 s49 s50 s51 s52 w5 hB5 x5
            rw [HPS.out rest] at hB5
            have x := x.trans x5
            clear hB x5 hcc
            go_wp2_with fail
            go_roundw
            case rel => exact ⟨c, swapE d c y1 y0, rfl, by omega, HSP.out.trans HP2.out, HO2.out.swap (by omega) (by rw [HKF.out.1, HKF.out.2]; exact hcm) HSK.out.1 HSK.out.2.1 HSK.out.2.2, hB5, x⟩
            case measure => simp [intOf]
          · have hgt : y0.k < y1.k := by have := HNE.out; omega
            rw [show decide (cmpK y1.k y0.k < 0) = false from by rw [show cmpK y1.k y0.k = 1 from by unfold cmpK; rw [if_neg hcm, if_pos hgt]]; rfl]
            have x := x.trans (hS.sub (by simp))
            have hB := hB.ext hS (by simp)
            clear hS x2
            go_wp2_with fail
            go_roundw
            case rel => exact ⟨a + 1, d, by go_num, by omega, .inl (by omega), HP2.out, HO2.out.done (.inr (by
              show kf d (c + 1 - 1) < kf d (c + 1)
              rw [Nat.add_sub_cancel, HKF.out.1, HKF.out.2]; exact hgt)), hB, x⟩
            case measure => simp [intOf]; omega
    · have hlen := hp.length_eq
      have HD := Lib.hid (ord_pairwise (ds := ds) (fun p q h1 h2 => ho p q h1 (by omega)))
      have HP := Lib.hid hp
      clear ho hp
      go_wp2_with fail
      go_end0
      exact ⟨rfl, ds, HP.out, HD.out, hB, x⟩
end Go.Proofs.YtbjkfgfiifnjoaaDoor
