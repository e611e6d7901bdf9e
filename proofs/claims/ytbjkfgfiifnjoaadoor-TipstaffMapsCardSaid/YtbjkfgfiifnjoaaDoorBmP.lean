/- Package bmap: Sum: the walk. -/
import Derived.Test.YtbjkfgfiifnjoaaDoorBmQ
namespace Go.Proofs.YtbjkfgfiifnjoaaDoor
open Go.RowKit
set_option maxRecDepth 100000

set_option maxHeartbeats 32000000 in
theorem bm_sum (b : Nat) (t : Int) (F : List Nat) (c : Nat → Option (UInt8 × UInt8)) (q : Nat) (w : World) (G : DigG w) (H : MapC w b t F c q) (ht : t = 0 ∨ t = 1 ∨ t = 2) :
    Calls Tryd.prog 20 #[.pointer (some ⟨b, 0, none⟩)] w fun e w' => e = .returned (.agg (bytesV (sumC t c)).toArray) ∧ Ext [] w w' := by
  obtain ⟨i0, hi, hz0, hz1, hz2⟩ := info_parts info_sl
  obtain ⟨l, ck, es, h, -, rfl, -⟩ := H
  have hwt : IntKind.u8.wrap t = t := by rcases ht with rfl | rfl | rfl <;> rfl
  have hu4 : IntKind.u8.wrap 4 = 4 := rfl
  have hu2 : IntKind.u8.wrap 2 = 2 := rfl
  have hu8 : IntKind.u8.wrap 8 = 8 := rfl
  have HHD := Lib.hid (show bytesV (hdrB t) = [.int .u8 t, .int .u8 4, .int .u8 2, .int .u8 8] from by rcases ht with rfl | rfl | rfl <;> rfl)
  have HG := Lib.hid (fun w' (x' : Ext [] w w') => G.ext x' (by simp) (by simp))
  have HCL := Lib.hid (fun w' (x : Ext [] w w') => bm_clone l es w' (h.ext0 x).own h.le8)
  have HSO := Lib.hid (fun v w' (x : Ext [] w w') ho => bm_sortR v es w' ho h.le8 (fun y hy => ⟨(h.ext0 x).en y hy, h.k8 y hy⟩) h.ks)
  have HH := Lib.hid (fun w' (x : Ext [] w w') => h.ext0 x)
  have HL8 := Lib.hid h.le8
  have HSU := Lib.hid (fun (ds : List BE) (hp : ds.Perm es) (ho : ds.Pairwise fun a b => a.k < b.k) => (show sumOf (joinB (hdrB t :: ds.flatMap beT)) = sumC t (cont es) from by
    unfold sumC
    rw [sorted_texts (cont es) 8 0 ds ho (fun x hx => ⟨Nat.zero_le _, by have := h.k8 x (hp.mem_iff.1 hx); omega⟩) (fun k _ => by rw [cont_perm h.ks (apart_perm h.ks hp) hp])]))
  have HDB := Lib.hid (fun w' (x : Ext [] w w') (ds : List BE) (hp : ds.Perm es) j (hj : j < ds.length) => (show w'.cell? ⟨ds[j].e, 0, none⟩ = some (.string (keyS ds[j].k)) ∧ w'.cell? ⟨ds[j].e, 1, none⟩ = some (.pointer (some ⟨ds[j].c, 0, none⟩)) ∧ w'.cell? ⟨ds[j].c, 0, none⟩ = some (.slice (some ⟨ds[j].p, 0, none⟩) 2 2) ∧ ds[j].e < w'.heap.size ∧ ds[j].c < w'.heap.size ∧ PartB w' (.slice (some ⟨ds[j].p, 0, none⟩) 2 2) [ds[j].v0, ds[j].v1] from by
    have hm := hp.mem_iff.1 (List.getElem_mem hj)
    have h' := h.ext0 x
    exact ⟨(h'.en _ hm).cell 0, (h'.en _ hm).cell 1, (h'.ce _ hm).cell 0, (h'.en _ hm).lt, (h'.ce _ hm).lt, PartB.blk (h'.vb _ hm)⟩))
  have HNB := Lib.hid (fun (ds : List BE) (hp : ds.Perm es) j (hj : j < ds.length) (v : Value) (m : Nat) (xs : List Value) (w' : World) (x : Ext [] w w') (ho : w'.ownsRow 0 39 1 v m xs) => (show ds[j].e ∉ v.ownBlock.toList ∧ ds[j].c ∉ v.ownBlock.toList from by
    have hm := hp.mem_iff.1 (List.getElem_mem hj)
    have h' := h.ext0 x
    exact ⟨fun hh => blk_off_row (h'.en _ hm) (by decide) ho (by simpa using hh : v.ownBlock = some ds[j].e).symm, fun hh => blk_off_row (h'.ce _ hm) (by decide) ho (by simpa using hh : v.ownBlock = some ds[j].c).symm⟩))
  clear h G ht
  go_enter Tryd.func20, Tryd.ntmps20
  go_upto_region 1 with (fail)
  show Code.wp _ _ _ _ (w.alloc (.cells (bytesV (List.replicate 32 0)).toArray 36))
  have B1 := Blk.new w 36 (bytesV (List.replicate 32 0)).toArray
  have x1 : Ext [] w (w.alloc (.cells (bytesV (List.replicate 32 0)).toArray 36)) := (Ext.refl _ _).alloc _
  generalize w.alloc (.cells (bytesV (List.replicate 32 0)).toArray 36) = w1 at *
  obtain ⟨rb, hrb⟩ : ∃ n, n = w.heap.size := ⟨_, rfl⟩
  rw [← hrb] at B1 ⊢
  have HRB := Lib.hid hrb
  clear hrb
  obtain ⟨c0, c1, c2, c3, c4, c5, c6, hlt⟩ := (HH.out w1 x1).cs
  go_wp2_with fail
  refine (HCL.out w1 x1).mono ?_
  rintro e w2 ⟨v2, rfl, ho2, x2, fr2⟩
  have y2 := x1.trans x2
  have HS2 := Lib.hid (HSO.out v2 w2 y2 ho2)
  clear c0 c1 c2 c3 c4 c5 c6 hlt ho2
  go_wp2_with fail
  refine HS2.out.mono ?_
  rintro e w3 ⟨rfl, ds, hp, hord, ho3, x3⟩
  have y3 : Ext [] w w3 := y2.trans' x3 (fun i hi => .inr (Nat.le_trans x1.size (fr2 i (by simpa using hi))))
  have B3 := (B1.ext x2 (by simp)).ext x3 (fun hm => by
    have h1 := fr2 rb (by simpa using hm)
    have h2 := B1.lt
    omega)
  have HPE := Lib.hid hp
  have HOR := Lib.hid hord
  have HLD := Lib.hid hp.length_eq
  clear HS2 x3 x2 fr2 y2 B1 hp hord
  go_upto_region 5 with (fail)
  have y4 := y3.drew
  refine wp_region_held_drew (S := fun w' => Ext [] w3.drew w') (by kernel_rfl) (Ext.refl _ _) (fun hS => ?_)
  have B4 := B3.drew
  have ho4 := owns_ext ho3 ((Ext.refl [] w3).drew) (by simp)
  have HY4 := Lib.hid y4
  clear y3 B3 ho3
  generalize w3.drew = w4 at *
  refine (?_ : ∀ wq, Ext [] w4 wq → wpAnyH _ _ _ _ _ _ _ _ wq) w4 hS
  clear hS
  intro wq hS
  refine wpAnyH_take (i := 0) (oi := ⟨some 17, _, _, _, _, _⟩) (v := ?_) rfl (by kernel_rfl) (by kernel_rfl) (by kernel_rfl) (fun _ _ _ h => h) (Or.inl ⟨by rfl, ?_⟩) (by assumption) ?_
  rotate_left 1
  · (intro w hSw; (try dsimp only at hSw); go_split_ands; (try go_simp); (try with_reducible rfl))
  try simp only [Act.put, List.setIfInBounds_toArray, List.set_cons_zero, List.set_cons_succ]
  refine wpAnyH_take (i := 1) (oi := ⟨some 18, _, _, _, _, _⟩) (v := ?_) rfl (by kernel_rfl) (by kernel_rfl) (by kernel_rfl) (fun _ _ _ h => h) (Or.inl ⟨by rfl, ?_⟩) (by assumption) ?_
  rotate_left 1
  · (intro w hSw; (try dsimp only at hSw); go_split_ands; (try go_simp); (try with_reducible rfl))
  try simp only [Act.put, List.setIfInBounds_toArray, List.set_cons_zero, List.set_cons_succ]
  refine wpAnyH_take (i := 2) (oi := ⟨some 19, _, _, _, _, _⟩) (v := ?_) rfl (by kernel_rfl) (by kernel_rfl) (by kernel_rfl) (fun _ _ _ h => h) (Or.inl ⟨by rfl, ?_⟩) (by assumption) ?_
  rotate_left 1
  · (intro w hSw; (try dsimp only at hSw); go_split_ands; (try go_simp); (try with_reducible rfl))
  try simp only [Act.put, List.setIfInBounds_toArray, List.set_cons_zero, List.set_cons_succ]
  refine wpAnyH_take (i := 3) (oi := ⟨some 20, _, _, _, _, _⟩) (v := ?_) rfl (by kernel_rfl) (by kernel_rfl) (by kernel_rfl) (fun _ _ _ h => h) (Or.inl ⟨by rfl, ?_⟩) (by assumption) ?_
  rotate_left 1
  · (intro w hSw; (try dsimp only at hSw); go_split_ands; (try go_simp); (try with_reducible rfl))
  try simp only [Act.put, List.setIfInBounds_toArray, List.set_cons_zero, List.set_cons_succ]
  refine wpAnyH_take (i := 4) (oi := ⟨some 21, _, _, _, _, _⟩) (v := ?_) rfl (by kernel_rfl) (by kernel_rfl) (by kernel_rfl) (fun _ _ _ h => h) (Or.inl ⟨by rfl, ?_⟩) (by assumption) ?_
  rotate_left 1
  · (intro w hSw; (try dsimp only at hSw); go_split_ands; obtain ⟨c0, c1, c2, c3, c4, c5, c6, hlt⟩ := (HH.out w (y4.trans (by assumption : Ext [] w4 w))).cs; (try go_simp); (try with_reducible rfl))
  try simp only [Act.put, List.setIfInBounds_toArray, List.set_cons_zero, List.set_cons_succ]
  refine wpAnyH_take (i := 5) (oi := ⟨some 22, _, _, _, _, _⟩) (v := ?_) rfl (by kernel_rfl) (by kernel_rfl) (by kernel_rfl) (fun _ _ _ h => h) (Or.inl ⟨by rfl, ?_⟩) (by assumption) ?_
  rotate_left 1
  · (intro w hSw; (try dsimp only at hSw); go_split_ands; (try go_simp); (try with_reducible rfl))
  try simp only [Act.put, List.setIfInBounds_toArray, List.set_cons_zero, List.set_cons_succ]
  refine wpAnyH_take (i := 6) (oi := ⟨some 23, _, _, _, _, _⟩) (v := ?_) rfl (by kernel_rfl) (by kernel_rfl) (by kernel_rfl) (fun _ _ _ h => h) (Or.inl ⟨by rfl, ?_⟩) (by assumption) ?_
  rotate_left 1
  · (intro w hSw; (try dsimp only at hSw); go_split_ands; (try go_simp); (try with_reducible rfl))
  try simp only [Act.put, List.setIfInBounds_toArray, List.set_cons_zero, List.set_cons_succ]
  refine wpAnyH_take (i := 7) (oi := ⟨some 24, _, _, _, _, _⟩) (v := ?_) rfl (by kernel_rfl) (by kernel_rfl) (by kernel_rfl) (fun _ _ _ h => h) (Or.inl ⟨by rfl, ?_⟩) (by assumption) ?_
  rotate_left 1
  · (intro w hSw; (try dsimp only at hSw); go_split_ands; (try go_simp); (try with_reducible rfl))
  try simp only [Act.put, List.setIfInBounds_toArray, List.set_cons_zero, List.set_cons_succ]
  refine wpAnyH_take (i := 8) (oi := ⟨some 25, _, _, _, _, _⟩) (v := ?_) rfl (by kernel_rfl) (by kernel_rfl) (by kernel_rfl) (fun _ _ _ h => h) (Or.inl ⟨by rfl, ?_⟩) (by assumption) ?_
  rotate_left 1
  · (intro w hSw; (try dsimp only at hSw); go_split_ands; (try go_simp); (try with_reducible rfl))
  try simp only [Act.put, List.setIfInBounds_toArray, List.set_cons_zero, List.set_cons_succ]
  refine wpAnyH_take (i := 9) (oi := ⟨some 26, _, _, _, _, _⟩) (v := ?_) rfl (by kernel_rfl) (by kernel_rfl) (by kernel_rfl) (fun _ _ _ h => h) (Or.inl ⟨by rfl, ?_⟩) (by assumption) ?_
  rotate_left 1
  · (intro w hSw; (try dsimp only at hSw); go_split_ands; (try go_simp); (try with_reducible rfl))
  try simp only [Act.put, List.setIfInBounds_toArray, List.set_cons_zero, List.set_cons_succ]
  refine wpAnyH_take (i := 10) (oi := ⟨some 27, _, _, _, _, _⟩) (v := ?_) rfl (by kernel_rfl) (by kernel_rfl) (by kernel_rfl) (fun _ _ _ h => h) (Or.inl ⟨by rfl, ?_⟩) (by assumption) ?_
  rotate_left 1
  · (intro w hSw; (try dsimp only at hSw); go_split_ands; obtain ⟨c0, c1, c2, c3, c4, c5, c6, hlt⟩ := (HH.out w (y4.trans (by assumption : Ext [] w4 w))).cs; (try go_simp); (try with_reducible rfl))
  try simp only [Act.put, List.setIfInBounds_toArray, List.set_cons_zero, List.set_cons_succ]
  refine wpAnyH_take (i := 11) (oi := ⟨some 28, _, _, _, _, _⟩) (v := ?_) rfl (by kernel_rfl) (by kernel_rfl) (by kernel_rfl) (fun _ _ _ h => h) (Or.inl ⟨by rfl, ?_⟩) (by assumption) ?_
  rotate_left 1
  · (intro w hSw; (try dsimp only at hSw); go_split_ands; (try go_simp); (try with_reducible rfl))
  try simp only [Act.put, List.setIfInBounds_toArray, List.set_cons_zero, List.set_cons_succ]
  refine wpAnyH_take (i := 12) (oi := ⟨some 29, _, _, _, _, _⟩) (v := ?_) rfl (by kernel_rfl) (by kernel_rfl) (by kernel_rfl) (fun _ _ _ h => h) (Or.inl ⟨by rfl, ?_⟩) (by assumption) ?_
  rotate_left 1
  · (intro w hSw; (try dsimp only at hSw); go_split_ands; (try go_simp); (try with_reducible rfl))
  try simp only [Act.put, List.setIfInBounds_toArray, List.set_cons_zero, List.set_cons_succ]
  refine wpAnyH_take (i := 13) (oi := ⟨some 30, _, _, _, _, _⟩) (v := ?_) rfl (by kernel_rfl) (by kernel_rfl) (by kernel_rfl) (fun _ _ _ h => h) (Or.inl ⟨by rfl, ?_⟩) (by assumption) ?_
  rotate_left 1
  · (intro w hSw; (try dsimp only at hSw); go_split_ands; (try go_simp); (try with_reducible rfl))
  try simp only [Act.put, List.setIfInBounds_toArray, List.set_cons_zero, List.set_cons_succ]
  refine wpAnyH_take (i := 14) (oi := ⟨some 31, _, _, _, _, _⟩) (v := ?_) rfl (by kernel_rfl) (by kernel_rfl) (by kernel_rfl) (fun _ _ _ h => h) (Or.inl ⟨by rfl, ?_⟩) (by assumption) ?_
  rotate_left 1
  · (intro w hSw; (try dsimp only at hSw); go_split_ands; (try go_simp); (try with_reducible rfl))
  try simp only [Act.put, List.setIfInBounds_toArray, List.set_cons_zero, List.set_cons_succ]
  refine wpAnyH_take (i := 15) (oi := ⟨some 32, _, _, _, _, _⟩) (v := ?_) rfl (by kernel_rfl) (by kernel_rfl) (by kernel_rfl) (fun _ _ _ h => h) (Or.inl ⟨by rfl, ?_⟩) (by assumption) ?_
  rotate_left 1
  · (intro w hSw; (try dsimp only at hSw); go_split_ands; (try go_simp); (try with_reducible rfl))
  try simp only [Act.put, List.setIfInBounds_toArray, List.set_cons_zero, List.set_cons_succ]
  refine wpAnyH_take (i := 16) (oi := ⟨some 33, _, _, _, _, _⟩) (v := ?_) rfl (by kernel_rfl) (by kernel_rfl) (by kernel_rfl) (fun _ _ _ h => h) (Or.inl ⟨by rfl, ?_⟩) (by assumption) ?_
  rotate_left 1
  · (intro w hSw; (try dsimp only at hSw); go_split_ands; obtain ⟨c0, c1, c2, c3, c4, c5, c6, hlt⟩ := (HH.out w (y4.trans (by assumption : Ext [] w4 w))).cs; (try go_simp); (try with_reducible rfl))
  try simp only [Act.put, List.setIfInBounds_toArray, List.set_cons_zero, List.set_cons_succ]
  refine wpAnyH_take (i := 17) (oi := ⟨some 34, _, _, _, _, _⟩) (v := ?_) rfl (by kernel_rfl) (by kernel_rfl) (by kernel_rfl) (fun _ _ _ h => h) (Or.inl ⟨by rfl, ?_⟩) (by assumption) ?_
  rotate_left 1
  · (intro w hSw; (try dsimp only at hSw); go_split_ands; (try go_simp); (try with_reducible rfl))
  try simp only [Act.put, List.setIfInBounds_toArray, List.set_cons_zero, List.set_cons_succ]
  refine wpAnyH_take (i := 18) (oi := ⟨some 35, _, _, _, _, _⟩) (v := ?_) rfl (by kernel_rfl) (by kernel_rfl) (by kernel_rfl) (fun _ _ _ h => h) (Or.inl ⟨by rfl, ?_⟩) (by assumption) ?_
  rotate_left 1
  · (intro w hSw; (try dsimp only at hSw); go_split_ands; (try go_simp); (try with_reducible rfl))
  try simp only [Act.put, List.setIfInBounds_toArray, List.set_cons_zero, List.set_cons_succ]
  refine wpAnyH_take (i := 19) (oi := ⟨some 36, _, _, _, _, _⟩) (v := ?_) rfl (by kernel_rfl) (by kernel_rfl) (by kernel_rfl) (fun _ _ _ h => h) (Or.inl ⟨by rfl, ?_⟩) (by assumption) ?_
  rotate_left 1
  · (intro w hSw; (try dsimp only at hSw); go_split_ands; (try go_simp); (try with_reducible rfl))
  try simp only [Act.put, List.setIfInBounds_toArray, List.set_cons_zero, List.set_cons_succ]
  refine wpAnyH_take (i := 20) (oi := ⟨some 37, _, _, _, _, _⟩) (v := ?_) rfl (by kernel_rfl) (by kernel_rfl) (by kernel_rfl) (fun _ _ _ h => h) (Or.inl ⟨by rfl, ?_⟩) (by assumption) ?_
  rotate_left 1
  · (intro w hSw; (try dsimp only at hSw); go_split_ands; (try go_simp); (try with_reducible rfl))
  try simp only [Act.put, List.setIfInBounds_toArray, List.set_cons_zero, List.set_cons_succ]
  refine wpAnyH_take (i := 21) (oi := ⟨some 38, _, _, _, _, _⟩) (v := ?_) rfl (by kernel_rfl) (by kernel_rfl) (by kernel_rfl) (fun _ _ _ h => h) (Or.inl ⟨by rfl, ?_⟩) (by assumption) ?_
  rotate_left 1
  · (intro w hSw; (try dsimp only at hSw); go_split_ands; (try go_simp); (try with_reducible rfl))
  try simp only [Act.put, List.setIfInBounds_toArray, List.set_cons_zero, List.set_cons_succ]
  refine wpAnyH_take (i := 22) (oi := ⟨some 39, _, _, _, _, _⟩) (v := ?_) rfl (by kernel_rfl) (by kernel_rfl) (by kernel_rfl) (fun _ _ _ h => h) (Or.inl ⟨by rfl, ?_⟩) (by assumption) ?_
  rotate_left 1
  · (intro w hSw; (try dsimp only at hSw); go_split_ands; obtain ⟨c0, c1, c2, c3, c4, c5, c6, hlt⟩ := (HH.out w (y4.trans (by assumption : Ext [] w4 w))).cs; (try go_simp); (try with_reducible rfl))
  try simp only [Act.put, List.setIfInBounds_toArray, List.set_cons_zero, List.set_cons_succ]
  refine wpAnyH_take (i := 23) (oi := ⟨some 40, _, _, _, _, _⟩) (v := ?_) rfl (by kernel_rfl) (by kernel_rfl) (by kernel_rfl) (fun _ _ _ h => h) (Or.inl ⟨by rfl, ?_⟩) (by assumption) ?_
  rotate_left 1
  · (intro w hSw; (try dsimp only at hSw); go_split_ands; (try go_simp); (try with_reducible rfl))
  try simp only [Act.put, List.setIfInBounds_toArray, List.set_cons_zero, List.set_cons_succ]
  refine wpAnyH_ready (rs := [24]) (by kernel_rfl) (by simp) ?_
  refine AllReadyH.cons (o := ⟨some 41, _, _, _, _, _⟩) rfl (fun K hK => ?_) AllReadyH.nil
  go_simp
  have BH := Blk.new wq 5 #[.int .u8 t, .int .u8 4, .int .u8 2, .int .u8 8]
  have xq : Ext [] wq (wq.alloc (.cells #[.int .u8 t, .int .u8 4, .int .u8 2, .int .u8 8] 5)) := (Ext.refl _ _).alloc _
  have hSn := hS.trans xq
  clear hS xq
  generalize wq.alloc (.cells #[.int .u8 t, .int .u8 4, .int .u8 2, .int .u8 8] 5) = wq2 at *
  generalize wq.heap.size = hb at *
  obtain ⟨wq, hwq⟩ : ∃ w, w = wq2 := ⟨_, rfl⟩
  subst hwq
  refine hK.out _ _ hSn (fun hS => ?_)
  clear hSn
  clear hK K
  try simp only [Act.put, List.setIfInBounds_toArray, List.set_cons_zero, List.set_cons_succ]
  refine wpAnyH_ready (rs := [25]) (by kernel_rfl) (by simp) ?_
  refine AllReadyH.cons (o := ⟨some 42, _, _, _, _, _⟩) rfl (fun K hK => ?_) AllReadyH.nil
  go_simp
  have BR := Blk.new wq 39 #[.slice (some ⟨hb, 0, none⟩) 4 4]
  have xq : Ext [] wq (wq.alloc (.cells #[.slice (some ⟨hb, 0, none⟩) 4 4] 39)) := (Ext.refl _ _).alloc _
  have BH := BH.ext xq (by simp)
  have HSZ := Lib.hid (hS.size)
  have hSn := hS.trans xq
  clear hS xq
  generalize wq.alloc (.cells #[.slice (some ⟨hb, 0, none⟩) 4 4] 39) = wq2 at *
  generalize wq.heap.size = pr at *
  obtain ⟨wq, hwq⟩ : ∃ w, w = wq2 := ⟨_, rfl⟩
  subst hwq
  refine hK.out _ _ hSn (fun hS => ?_)
  clear hSn
  clear hK K
  try simp only [Act.put, List.setIfInBounds_toArray, List.set_cons_zero, List.set_cons_succ]
  refine wpAnyH_take (i := 26) (oi := ⟨some 4, _, _, _, _, _⟩) (v := ?_) rfl (by kernel_rfl) (by kernel_rfl) (by kernel_rfl) (fun _ _ _ h => h) (Or.inl ⟨by rfl, ?_⟩) (by assumption) ?_
  rotate_left 1
  · (intro w hSw; (try dsimp only at hSw); go_split_ands; (try go_simp); (try with_reducible rfl))
  try simp only [Act.put, List.setIfInBounds_toArray, List.set_cons_zero, List.set_cons_succ]
  refine wpAnyH_done (by kernel_rfl) ?_ _
  have P5 : Parts wq (.slice (some ⟨pr, 0, none⟩) 1 1) [.slice (some ⟨hb, 0, none⟩) 4 4] [hdrB t] := by
    refine ⟨BR.owns rfl (by unfold maxLen; omega), rfl, fun i u hu => ?_⟩
    match i, hu with
    | 0, hu =>
      simp at hu; subst hu
      exact PartB.blk (b := hdrB t) (by rw [HHD.out]; exact BH)
    | i + 1, hu => simp at hu
  have y5 := y4.trans hS
  have B5 := B4.ext hS (by simp)
  have ho5 := owns_ext ho4 hS (by simp)
  have BR0 := BR
  clear hS BR BH y4 B4 ho4
  have HP5 := Lib.hid P5
  have HO5 := Lib.hid ho5
  have HB5 := Lib.hid B5
  have HBR := Lib.hid BR0
  have HSZ2 := Lib.hid (show w.heap.size ≤ pr from by
    have h1 := HSZ.out
    have h2 := HY4.out.size
    omega)
  have HY5 := Lib.hid y5
  clear P5 ho5 B5 BR0 y5
  obtain ⟨la2, lc2, rfl⟩ := owns_slice HO5.out
  go_wp2_with fail
  go_loopw [4, 45] (fun v i wr => ∃ (j : Nat) (vs : List Value), i = .int .i64 (j : Int) ∧ j ≤ es.length ∧ Parts wr v vs (hdrB t :: (ds.take j).flatMap beT) ∧ vs.length = 1 + 2 * j ∧ Ext [pr] wq wr ∧ ∀ g, v.ownBlock = some g → g = pr ∨ wq.heap.size ≤ g) (fun _ i _ => es.length - (intOf i).toNat)
  case atStart => exact ⟨0, _, rfl, Nat.zero_le _, HP5.out, rfl, Ext.refl _ _, fun g hg => by cases hg; exact .inl rfl⟩
  case round =>
    obtain ⟨j, vs, rfl, hj, P, hvl, x, fr⟩ := hrel
    have hl8 := HL8.out
    have y : Ext [] w wr := HY5.out.trans' x (fun i hi => .inr (by simp at hi; rw [hi]; exact HSZ2.out))
    by_cases hlt : j < es.length
    · have hjd : j < ds.length := by rw [HLD.out]; exact hlt
      have ho := owns_ext HO5.out x (fun g hg hm => blk_off_row HBR.out (by decide) HO5.out (by simp at hm; rw [hg, hm]))
      obtain ⟨g, c', cur, he, -, -, -, -, -⟩ := owns_some ho (by omega)
      cases he
      have hc := ho.cellAt j (by omega)
      rw [show (ptrE ds)[j]? = some (.pointer (some ⟨ds[j].e, 0, none⟩)) by simp [ptrE, hjd]] at hc
      obtain ⟨d0, d1, d2, hel, hcl, PB⟩ := HDB.out wr y ds HPE.out j hjd
      obtain ⟨ne, nc⟩ := HNB.out ds HPE.out j hjd _ _ _ wr y P.own
      have HT := Lib.hid (show hdrB t :: (ds.take (j + 1)).flatMap beT = (hdrB t :: (ds.take j).flatMap beT) ++ [keyB4 ds[j].k, [ds[j].v0, ds[j].v1]] from by
        rw [List.take_succ_eq_append_getElem hjd, List.flatMap_append]
        simp [beT, keyB4])
      generalize ds[j] = dj at *
      have HX := Lib.hid (And.intro x fr)
      have HVL := Lib.hid hvl
      have hv100 : vs.length ≤ 100 := by omega
      clear x fr hvl ho y
      go_upto_region 9 with (fail)
      refine bm_sum9 dj.e dj.c dj.p dj.k dj.v0 dj.v1 _ vs _ wr P hv100 d0 d1 d2 hel hcl PB ne nc _ (by kernel_rfl) _ _ _ _ _ _ _ _ _ _ _ _ _ _ _ _ _ _ _ _ _ _ _ _ _ _ _ _ _ _ _ _ _ _ _ _ _ _ _ _ _ _ _ _ _ _ _ _ _ _ _ _ _ _ _ _ _ _ _ _ _ _ _ _ _ _ ?_ ?_
      · exact fun _ _ _ _ _ h => h
      intro s4 s49 s50 s51 s52 s53 s54 s55 s56 s57 s58 s59 s60 s61 s62 s63 u w' P' x' fr'
      clear P PB d0 d1 d2 hel hcl ne nc hc
      have HREL := Lib.hid (show ∃ (j' : Nat) (vs : List Value), Value.int .i64 ((j : Int) + 1) = .int .i64 (j' : Int) ∧ j' ≤ es.length ∧ Parts w' s4 vs (hdrB t :: (ds.take j').flatMap beT) ∧ vs.length = 1 + 2 * j' ∧ Ext [pr] wq w' ∧ ∀ g, s4.ownBlock = some g → g = pr ∨ wq.heap.size ≤ g from by
        obtain ⟨x, fr⟩ := HX.out
        have hs := x.size
        refine ⟨j + 1, _, by go_num, by omega, by rw [HT.out]; exact P', by simp [HVL.out]; omega, x.trans' x' (fun i hi => ?_), fun g hg => ?_⟩
        · rcases fr i (by simpa using hi) with h | h
          · exact .inl (by simp [h])
          · exact .inr h
        · rcases fr' g hg with h | h
          · exact fr g h
          · exact .inr (by omega))
      clear P' x' fr'
      go_wp2_with fail
      go_roundw
      case rel => exact HREL.out
      case measure => simp [intOf]; omega
    · obtain rfl : j = es.length := by omega
      have htk : ds.take es.length = ds := List.take_of_length_le (by rw [HLD.out]; exact Nat.le_refl _)
      rw [htk] at P
      have hbl : (hdrB t :: ds.flatMap beT).length = 1 + 2 * es.length := by rw [← P.same]; exact hvl
      have hj1 := joinB_bound (hdrB t :: ds.flatMap beT) (fun b hb => by
        rcases List.mem_cons.1 hb with rfl | hb
        · exact Nat.le_refl _
        · obtain ⟨y, -, hy⟩ := List.mem_flatMap.1 hb
          simp [beT] at hy
          rcases hy with rfl | rfl <;> simp)
      have HJ := Lib.hid (joined_any _ vs _ wr (HG.out wr y) P.inn (by omega) (by omega))
      rw [HSU.out ds HPE.out HOR.out] at HJ
      have hov : (bytesV (sumC t (cont es))).length = 32 := by rw [bytesV_length]; exact sumOf_length _
      have hoo : ∀ u ∈ bytesV (sumC t (cont es)), u.oneCell' = true := bytesV_one _
      have B6 := HB5.out.ext x (by
        intro hm
        simp at hm
        exact blk_ne HB5.out HBR.out (by decide) hm)
      clear htk hbl hj1 P hvl fr
      generalize hov9 : bytesV (sumC t (cont es)) = ov at *
      have HOV := Lib.hid hov9
      clear hov9
      go_wp2_with fail
      refine HJ.out.mono ?_
      rintro e w9 ⟨rfl, x9⟩
      have B7 := B6.ext x9 (by simp)
      go_wp2_with fail
      refine upon_strow rb 0 36 _ ov B7 (by rw [hov]; simp [bytesV]) hoo ?_
      intro w10 H10 x10 _
      have e9 : (bytesV (List.replicate 32 0)).take 0 ++ ov ++ (bytesV (List.replicate 32 0)).drop (0 + ov.length) = ov := by
        rw [hov, List.take_zero, List.nil_append, List.drop_of_length_le (by simp [bytesV]), List.append_nil]
      rw [e9] at H10
      go_wp2_with fail
      refine bodyPost_ret (results_blk Tryd.results20 _ _ rb 36 ov _ rfl H10 Tryd.underlying36 rfl (by rw [hov]; kernel_rfl)) rfl ?_
      exact ⟨by rw [HOV.out], (y.trans x9).trans' x10 (fun i hi => .inr (by simp at hi; rw [hi, HRB.out]; exact Nat.le_refl _))⟩
end Go.Proofs.YtbjkfgfiifnjoaaDoor
