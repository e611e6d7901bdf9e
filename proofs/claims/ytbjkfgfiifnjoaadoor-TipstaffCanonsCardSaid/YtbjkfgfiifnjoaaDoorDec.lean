/- Package insn: Decode. -/
import Derived.Maps.AppendAt
import Derived.Test.YtbjkfgfiifnjoaaDoorChunk
import Derived.Test.YtbjkfgfiifnjoaaDoorOne
import Derived.Test.YtbjkfgfiifnjoaaDoorRng
namespace Go.Proofs.YtbjkfgfiifnjoaaDoor
open Go.RowKit Go.Shelf
set_option maxRecDepth 100000

attribute [local go_sem] Oper.semAt_some

theorem ins_oneCell (y : Ins) : ∀ u ∈ y.cells, u.oneCell' = true := by
  intro u hu
  simp [Ins.cells] at hu
  rcases hu with rfl | rfl | rfl | rfl | rfl <;> rfl

set_option maxRecDepth 100000 in
set_option maxHeartbeats 4000000 in
theorem decode_ok (a : Option Addr) (n m cap bb o : Nat) (bs : List UInt8) (w : World) (hn : n = 8 * m) (hm : m ≤ 256) (hcap : n ≤ cap) (ha : 0 < m → a = some ⟨bb, o, none⟩) (hbb : 0 < m → bb < w.heap.size)
    (hc : ∀ j, j < n → w.cell? ⟨bb, o + j, none⟩ = some (.int .u8 ((bs.getD j 0).toNat : Int))) :
    Calls Tryd.prog 15 #[.slice a n cap] w fun e w' => ∃ v5, e = .returned (.tuple #[v5, .int .i64 0]) ∧ w'.ownsRow w.heap.size 25 5 v5 m (insV (decN bs m)) ∧ Ext [] w w' := by
  obtain ⟨i0, hi, hz0, hz1, hz2⟩ := info_parts info_insn
  refine (callsIn_wide (n := 6)).1 ?_
  refine callsIn_of_wp_marks Tryd.func15 rfl trivial ?_ rfl
  simp only [Tryd.ntmps15, List.size_toArray, List.length_cons, List.length_nil, Nat.reduceAdd, Nat.reduceSub, Array.replicate_succ, Array.replicate_zero, List.push_toArray, List.append_toArray, List.nil_append, List.cons_append]
  have q1 : ((n : Int) % 8) = 0 := by omega
  have q2 : ¬ (2048 : Int) < (n : Int) := by omega
  have q3 : n ≤ 2048 := by omega
  have HN := Lib.hid hn
  have HH := Lib.hid (And.intro ha (And.intro hbb hc))
  clear hn ha hbb hc
  gi_wp2
  refine ⟨trivial, ?_⟩
  refine (chunk_in Fence.wide 5 trivial rfl a n cap 8 (by omega) (by omega) (w.alloc (.cells #[.slice none 0 0] 28))).mono ?_
  rintro e w' ⟨rfl, rfl⟩
  have bO := Boxed.new w 28 (.slice none 0 0)
  have bS := Boxed.new (w.alloc (.cells #[.slice none 0 0] 28)) 39 (.slice a n cap)
  have bN := Boxed.new ((w.alloc (.cells #[.slice none 0 0] 28)).alloc (.cells #[.slice a n cap] 39)) 3 (.int .i64 8)
  rw [World.size_alloc] at bS
  rw [World.size_alloc, World.size_alloc] at bN
  rw [World.size_alloc]
  have hB0 : Below w.heap.size w (((w.alloc (.cells #[.slice none 0 0] 28)).alloc (.cells #[.slice a n cap] 39)).alloc (.cells #[.int .i64 8] 3)) := (((Below.refl _ w).alloc (Nat.le_refl _) _).alloc (by simp) _).alloc (by simp; omega) _
  have bO' := (bO.alloc (.cells #[.slice a n cap] 39)).alloc (.cells #[.int .i64 8] 3)
  have bS' := bS.alloc (.cells #[.int .i64 8] 3)
  have hsz : (((w.alloc (.cells #[.slice none 0 0] 28)).alloc (.cells #[.slice a n cap] 39)).alloc (.cells #[.int .i64 8] 3)).heap.size = w.heap.size + 3 := by simp
  clear bO bS
  generalize ((w.alloc (.cells #[.slice none 0 0] 28)).alloc (.cells #[.slice a n cap] 39)).alloc (.cells #[.int .i64 8] 3) = w1 at *
  have hsz1 : w.heap.size + 2 < w1.heap.size := by omega
  gi_wp2
  refine wpIn_rangeFunc_ownG rfl (by omega) (gf := 91) (lb := #[.pointer (some ⟨w.heap.size + 1, 0, none⟩), .pointer (some ⟨w.heap.size + 1 + 1, 0, none⟩)]) rfl trivial (enters_of Tryd.func91 (by kernel_rfl) rfl)
    (chunk_stops Fence.wide 5 trivial rfl (by omega) (w.heap.size + 1) (w.heap.size + 1 + 1) bb o m cap 8 a (by omega) (by omega) (by omega) (by rw [← HN.out]; exact hcap) HH.out.1 w1 (by omega) (by omega) (by rw [← HN.out]; exact bS'.cell) bN.cell)
    keepC_t (fun W l o o' h1 h2 h3 h4 => keepC_b W l o o' h1 h2 h3 h4) (Below.refl _ _) (fun _ => rfl)
    (fun (pre : List (Fin m)) W => (∃ v, Boxed W w.heap.size 28 v ∧ W.ownsRow w.heap.size 25 5 v pre.length (insV (pre.map fun x : Fin m => decAt bs x.val)) ∧ True) ∧ Below w.heap.size w W ∧ (Boxed W (w.heap.size + 1) 39 (.slice a n cap) ∧ Boxed W (w.heap.size + 1 + 1) 3 (.int .i64 8)))
    (fun _ (_ : List (Fin m)) _ => False)
    (OwnFrom.and (Own.from (holdsRow_own w.heap.size w.heap.size 28 25 5 (fun pre : List (Fin m) => pre.length) (fun pre : List (Fin m) => insV (pre.map fun x : Fin m => decAt bs x.val)) (fun _ _ => True)) _) (OwnFrom.and (ownFrom_below (Nat.le_refl _) (by omega)) (OwnFrom.and (Own.from (boxed_own (w.heap.size + 1) 39 (fun _ => .slice a n cap)) _) (Own.from (boxed_own (w.heap.size + 1 + 1) 3 (fun _ => .int .i64 8)) _))))
    (fun _ _ _ _ _ hs _ _ => hs)
    ⟨⟨_, bO', by simpa [insV] using World.ownsRow_nil _ _ _ _, trivial⟩, hB0, bS', bN⟩
    (fun x : Fin m => { tmps := #[.slice a n cap, undef, .slice none 0 0, .int .i64 0, .pointer (some ⟨w.heap.size, 0, none⟩), .slice (some ⟨bb, o + 8 * x.val, none⟩) 8 8, .bool false, .slice a n cap, .int .i64 n, .int .i64 0, .bool false, .bool false, .slice a n cap, .int .i64 n, .bool false, .slice a n cap,
        .func (.func 91) #[] #[.pointer (some ⟨w.heap.size + 1, 0, none⟩), .pointer (some ⟨w.heap.size + 1 + 1, 0, none⟩)], .slice (some ⟨bb, o + 8 * x.val, none⟩) 8 8, undef, undef, undef, undef, undef, undef], defers := [] }) ?assign ?body ?done ?stop
  case assign =>
    intro l x W K hK
    gi_wp2
    exact hK
  case body =>
    rintro l pre x W ⟨⟨v, hv, hrow, -⟩, hB, hbS, hbN⟩ hlen
    have hxl := x.isLt
    have hHH := HH.out
    have hcW : ∀ j, j < 8 → W.cell? ⟨bb, o + 8 * x.val + j, none⟩ = some (.int .u8 (([bs.getD (8 * x.val) 0, bs.getD (8 * x.val + 1) 0, bs.getD (8 * x.val + 2) 0, bs.getD (8 * x.val + 3) 0, bs.getD (8 * x.val + 4) 0, bs.getD (8 * x.val + 5) 0, bs.getD (8 * x.val + 6) 0, bs.getD (8 * x.val + 7) 0].getD j 0).toNat : Int)) := by
      intro j hj
      have h1 := (hB.cell (p := ⟨bb, o + (8 * x.val + j), none⟩) (hHH.2.1 (by omega))).trans (hHH.2.2 (8 * x.val + j) (by rw [HN.out]; omega))
      rw [Nat.add_assoc, h1]
      match j, hj with
      | 0, _ => rfl
      | 1, _ => rfl
      | 2, _ => rfl
      | 3, _ => rfl
      | 4, _ => rfl
      | 5, _ => rfl
      | 6, _ => rfl
      | 7, _ => rfl
    clear hHH
    have HOWN := Lib.hid (show insV ((pre ++ [x]).map fun x : Fin m => decAt bs x.val) = insV (pre.map fun x : Fin m => decAt bs x.val) ++ (decAt bs x.val).cells by rw [List.map_append, insV_append, List.map_cons, List.map_nil, insV_one])
    have HONE := Lib.hid (show ∀ w0 : World, w0 = W.drew → Calls Tryd.prog 52 #[.slice (some ⟨bb, o + 8 * x.val, none⟩) 8 8] w0 fun e w' => e = .returned (.agg (decAt bs x.val).cells.toArray) ∧ Ext [] w0 w' from fun w0 h0 => by
      rw [h0]
      exact one_any bb (o + 8 * x.val) _ _ _ _ _ _ _ _ W.drew hcW)
    clear hcW
    generalize decAt bs x.val = y at *
    have hplen : pre.length + 1 ≤ 256 := by omega
    have hrow0 : W.drew.ownsRow w.heap.size 25 5 v pre.length (insV (pre.map fun x : Fin m => decAt bs x.val)) := ownsB_ext hrow ((Ext.refl [] W).drew)
    have hsz2 : ∀ w2, Ext [] W.drew w2 → w.heap.size ≤ w2.heap.size := fun w2 h => Nat.le_trans hB.size h.size
    have HBX := Lib.hid (show ∀ w2, Ext [] W.drew w2 → Boxed w2 w.heap.size 28 v from fun w2 h => boxed_ext hv ((Ext.refl [] W).drew.trans h))
    have HSN := Lib.hid (show ∀ w2, Ext [] W.drew w2 → ∀ (o1 : Obj) (w4 : World), (w2.alloc o1).grownBy w4 v.ownBlock → w2.ownsRow w.heap.size 25 5 v pre.length (insV (pre.map fun x : Fin m => decAt bs x.val)) →
        ∀ u, Boxed (w4.setCell ⟨w.heap.size, 0, none⟩ u) (w.heap.size + 1) 39 (.slice a n cap) ∧ Boxed (w4.setCell ⟨w.heap.size, 0, none⟩ u) (w.heap.size + 1 + 1) 3 (.int .i64 8) from fun w2 h o1 w4 hg hr u => by
      have h1 := boxed_ext hbS ((Ext.refl [] W).drew.trans h)
      have h2 := boxed_ext hbN ((Ext.refl [] W).drew.trans h)
      exact ⟨(Below.heap_setCell w4 ⟨w.heap.size, 0, none⟩ u (w.heap.size + 1) (by simp)).trans ((h1.alloc o1).kept hg (h1.not_row (by decide) hr)), (Below.heap_setCell w4 ⟨w.heap.size, 0, none⟩ u (w.heap.size + 1 + 1) (by simp; omega)).trans ((h2.alloc o1).kept hg (h2.not_row (by decide) hr))⟩)
    have HFIN := Lib.hid (show ∀ (w2 : World) (v4 : Value) (w5 : World), Ext [] W.drew w2 → Boxed w5 w.heap.size 28 v4 → w5.ownsRow w.heap.size 25 5 v4 (pre.length + 1) (insV (pre.map fun x : Fin m => decAt bs x.val) ++ y.cells) → KeepsOthers w2 w5 → Below w.heap.size w2 w5 →
        (Boxed w5 (w.heap.size + 1) 39 (.slice a n cap) ∧ Boxed w5 (w.heap.size + 1 + 1) 3 (.int .i64 8)) → _ from fun w2 v4 w5 x2 hv5 hr5 hk5 hb5 hsn =>
      (show KeepsFrom w1.heap.size W w5 ∧ KeepC (fun k => k = w.heap.size + 1 ∨ k = w.heap.size + 1 + 1) W w5 ∧ ((∃ v, Boxed w5 w.heap.size 28 v ∧ w5.ownsRow w.heap.size 25 5 v (pre ++ [x]).length (insV ((pre ++ [x]).map fun x : Fin m => decAt bs x.val)) ∧ True) ∧ Below w.heap.size w w5 ∧ (Boxed w5 (w.heap.size + 1) 39 (.slice a n cap) ∧ Boxed w5 (w.heap.size + 1 + 1) 3 (.int .i64 8))) from by
        have xw := (Ext.refl [] W).drew.trans x2
        refine ⟨((keeps_ext xw).trans hk5).from _, ?_, ⟨v4, hv5, ?_, trivial⟩, (Below.ext hB xw (Nat.le_refl _) (by simp)).trans hb5, hsn⟩
        · rintro k i u (rfl | rfl) hc
          · exact boxed_cells hbS hsn.1 hc
          · exact boxed_cells hbN hsn.2 hc
        · rw [HOWN.out, List.length_append]; exact hr5))
    clear HOWN hrow hv hbS hbN
    have b0 := HBX.out _ (Ext.refl [] W.drew)
    have c0 := b0.cell
    clear b0
    gi_wp2
    have HONE := Lib.hid (fun w0 (h0 : w0 = W.drew) => (show Calls Tryd.prog 52 #[.slice (some ⟨bb, o + 8 * x.val, none⟩) 8 8] w0 fun e w' => e = .returned (.agg #[.int .u8 (y.op.toNat : Int), .int .u8 (y.dst.toNat : Int), .int .u8 (y.src.toNat : Int), .int .i16 y.off.toInt, .int .i32 y.imm.toInt]) ∧ Ext [] w0 w' from HONE.out w0 h0))
    refine wpIn_region_any (by kernel_rfl) ?_
    change wpAnyIn _ _ _ _ _ _ _ _ _ (World.drew _)
    obtain ⟨w0, hw0⟩ : ∃ w0, w0 = W.drew := ⟨_, rfl⟩
    have HONE := Lib.hid (HONE.out w0 hw0)
    rw [← hw0] at HBX HSN HFIN c0 hrow0 hsz2 ⊢
    clear hw0
    refine wpAnyIn_ready (rs := [0, 1]) (by kernel_rfl) (by simp) ?_
    refine AllReadyIn.cons rfl (fun K hK => ?_) (AllReadyIn.cons rfl (fun K hK => ?_) AllReadyIn.nil)
    · skip
      go_simp
      refine hK _ _ ?_
      clear hK K
      try simp only [Act.put, List.setIfInBounds_toArray, List.set_cons_zero, List.set_cons_succ]
      refine wpAnyIn_ready (rs := [1]) (by kernel_rfl) (by simp) ?_
      refine AllReadyIn.cons rfl (fun K hK => ?_) AllReadyIn.nil
      go_simp
      refine hK _ _ ?_
      clear hK K
      try simp only [Act.put, List.setIfInBounds_toArray, List.set_cons_zero, List.set_cons_succ]
      refine wpAnyIn_ready (rs := [2]) (by kernel_rfl) (by simp) ?_
      refine AllReadyIn.cons rfl (fun K hK => ?_) AllReadyIn.nil
      go_simp
      refine ⟨trivial, ?_⟩
      refine (CallsIn.inRound l (callsIn_wide.2 (HONE.out))).mono ?_
      rintro e w2 ⟨rfl, x2⟩
      have b2 := HBX.out w2 x2
      have c2 := b2.cell
      have c3 : (w2.alloc (.cells #[.int .u8 (y.op.toNat : Int), .int .u8 (y.dst.toNat : Int), .int .u8 (y.src.toNat : Int), .int .i16 y.off.toInt, .int .i32 y.imm.toInt] 25)).cell? ⟨w.heap.size, 0, none⟩ = some v := (b2.alloc _).cell
      go_simp
      refine hK _ _ ?_
      clear hK K
      try simp only [Act.put, List.setIfInBounds_toArray, List.set_cons_zero, List.set_cons_succ]
      refine wpAnyIn_ready (rs := [3]) (by kernel_rfl) (by simp) ?_
      refine AllReadyIn.cons rfl (fun K hK => ?_) AllReadyIn.nil
      go_simp
      refine hK _ _ ?_
      clear hK K
      try simp only [Act.put, List.setIfInBounds_toArray, List.set_cons_zero, List.set_cons_succ]
      refine wpAnyIn_ready (rs := [4]) (by kernel_rfl) (by simp) ?_
      refine AllReadyIn.cons rfl (fun K hK => ?_) AllReadyIn.nil
      have hr2 := ownsB_ext hrow0 x2
      refine stepIn_app _ rfl (.tmp 18) (.tmp 21) 28 rfl w.heap.size 25 i0 _ 5 12 Tryd.underlying28 hi hz0 hz1 hz2 rfl (by decide) v pre.length _ rfl (hr2.alloc _) ⟨w2.heap.size, 0, none⟩ 1 1 y.cells rfl rfl (blk_cells (cs := y.cells) (Blk.new w2 25 #[.int .u8 (y.op.toNat : Int), .int .u8 (y.dst.toNat : Int), .int .u8 (y.src.toNat : Int), .int .i16 y.off.toInt, .int .i32 y.imm.toInt])) (ins_oneCell y) (by unfold maxLen; omega) (by omega) (by have := hsz2 w2 x2; simp; omega) ?_
      intro v4 w4 hown4 hgrow4 _
      obtain ⟨g4, cap4, rfl⟩ := ownsRow_succ hown4
      obtain ⟨hv1, hv2, hr5, hk5, hb5⟩ := b2.appended (by decide) hr2 (hsz2 w2 x2) (Nat.le_refl _) hown4 hgrow4
      have hs5 := HSN.out w2 x2 _ w4 hgrow4 hr2
      have c4 := hv1.cell
      have f4 := hv1.frozen
      refine hK _ _ ?_
      clear hK K
      try simp only [Act.put, List.setIfInBounds_toArray]
      refine wpAnyIn_ready (rs := [5]) (by kernel_rfl) (by simp) ?_
      refine AllReadyIn.cons rfl (fun K hK => ?_) AllReadyIn.nil
      go_simp
      refine hK _ _ ?_
      clear hK K
      try simp only [Act.put, List.setIfInBounds_toArray, List.set_cons_zero, List.set_cons_succ]
      refine wpAnyIn_done (by kernel_rfl) ?_ _
      gi_wp2
      exact HFIN.out w2 _ _ x2 hv2 hr5 hk5 hb5 (hs5 _)
    · skip
      go_simp
      refine hK _ _ ?_
      clear hK K
      try simp only [Act.put, List.setIfInBounds_toArray, List.set_cons_zero, List.set_cons_succ]
      refine wpAnyIn_ready (rs := [0, 2]) (by kernel_rfl) (by simp) ?_
      refine AllReadyIn.cons rfl (fun K hK => ?_) (AllReadyIn.cons rfl (fun K hK => ?_) AllReadyIn.nil)
      · skip
        go_simp
        refine hK _ _ ?_
        clear hK K
        try simp only [Act.put, List.setIfInBounds_toArray, List.set_cons_zero, List.set_cons_succ]
        refine wpAnyIn_ready (rs := [2]) (by kernel_rfl) (by simp) ?_
        refine AllReadyIn.cons rfl (fun K hK => ?_) AllReadyIn.nil
        go_simp
        refine ⟨trivial, ?_⟩
        refine (CallsIn.inRound l (callsIn_wide.2 (HONE.out))).mono ?_
        rintro e w2 ⟨rfl, x2⟩
        have b2 := HBX.out w2 x2
        have c2 := b2.cell
        have c3 : (w2.alloc (.cells #[.int .u8 (y.op.toNat : Int), .int .u8 (y.dst.toNat : Int), .int .u8 (y.src.toNat : Int), .int .i16 y.off.toInt, .int .i32 y.imm.toInt] 25)).cell? ⟨w.heap.size, 0, none⟩ = some v := (b2.alloc _).cell
        go_simp
        refine hK _ _ ?_
        clear hK K
        try simp only [Act.put, List.setIfInBounds_toArray, List.set_cons_zero, List.set_cons_succ]
        refine wpAnyIn_ready (rs := [3]) (by kernel_rfl) (by simp) ?_
        refine AllReadyIn.cons rfl (fun K hK => ?_) AllReadyIn.nil
        go_simp
        refine hK _ _ ?_
        clear hK K
        try simp only [Act.put, List.setIfInBounds_toArray, List.set_cons_zero, List.set_cons_succ]
        refine wpAnyIn_ready (rs := [4]) (by kernel_rfl) (by simp) ?_
        refine AllReadyIn.cons rfl (fun K hK => ?_) AllReadyIn.nil
        have hr2 := ownsB_ext hrow0 x2
        refine stepIn_app _ rfl (.tmp 18) (.tmp 21) 28 rfl w.heap.size 25 i0 _ 5 12 Tryd.underlying28 hi hz0 hz1 hz2 rfl (by decide) v pre.length _ rfl (hr2.alloc _) ⟨w2.heap.size, 0, none⟩ 1 1 y.cells rfl rfl (blk_cells (cs := y.cells) (Blk.new w2 25 #[.int .u8 (y.op.toNat : Int), .int .u8 (y.dst.toNat : Int), .int .u8 (y.src.toNat : Int), .int .i16 y.off.toInt, .int .i32 y.imm.toInt])) (ins_oneCell y) (by unfold maxLen; omega) (by omega) (by have := hsz2 w2 x2; simp; omega) ?_
        intro v4 w4 hown4 hgrow4 _
        obtain ⟨g4, cap4, rfl⟩ := ownsRow_succ hown4
        obtain ⟨hv1, hv2, hr5, hk5, hb5⟩ := b2.appended (by decide) hr2 (hsz2 w2 x2) (Nat.le_refl _) hown4 hgrow4
        have hs5 := HSN.out w2 x2 _ w4 hgrow4 hr2
        have c4 := hv1.cell
        have f4 := hv1.frozen
        refine hK _ _ ?_
        clear hK K
        try simp only [Act.put, List.setIfInBounds_toArray]
        refine wpAnyIn_ready (rs := [5]) (by kernel_rfl) (by simp) ?_
        refine AllReadyIn.cons rfl (fun K hK => ?_) AllReadyIn.nil
        go_simp
        refine hK _ _ ?_
        clear hK K
        try simp only [Act.put, List.setIfInBounds_toArray, List.set_cons_zero, List.set_cons_succ]
        refine wpAnyIn_done (by kernel_rfl) ?_ _
        gi_wp2
        exact HFIN.out w2 _ _ x2 hv2 hr5 hk5 hb5 (hs5 _)
      · skip
        go_simp
        refine ⟨trivial, ?_⟩
        refine (CallsIn.inRound l (callsIn_wide.2 (HONE.out))).mono ?_
        rintro e w2 ⟨rfl, x2⟩
        have b2 := HBX.out w2 x2
        have c2 := b2.cell
        have c3 : (w2.alloc (.cells #[.int .u8 (y.op.toNat : Int), .int .u8 (y.dst.toNat : Int), .int .u8 (y.src.toNat : Int), .int .i16 y.off.toInt, .int .i32 y.imm.toInt] 25)).cell? ⟨w.heap.size, 0, none⟩ = some v := (b2.alloc _).cell
        go_simp
        refine hK _ _ ?_
        clear hK K
        try simp only [Act.put, List.setIfInBounds_toArray, List.set_cons_zero, List.set_cons_succ]
        refine wpAnyIn_ready (rs := [0, 3]) (by kernel_rfl) (by simp) ?_
        refine AllReadyIn.cons rfl (fun K hK => ?_) (AllReadyIn.cons rfl (fun K hK => ?_) AllReadyIn.nil)
        · skip
          go_simp
          refine hK _ _ ?_
          clear hK K
          try simp only [Act.put, List.setIfInBounds_toArray, List.set_cons_zero, List.set_cons_succ]
          refine wpAnyIn_ready (rs := [3]) (by kernel_rfl) (by simp) ?_
          refine AllReadyIn.cons rfl (fun K hK => ?_) AllReadyIn.nil
          go_simp
          refine hK _ _ ?_
          clear hK K
          try simp only [Act.put, List.setIfInBounds_toArray, List.set_cons_zero, List.set_cons_succ]
          refine wpAnyIn_ready (rs := [4]) (by kernel_rfl) (by simp) ?_
          refine AllReadyIn.cons rfl (fun K hK => ?_) AllReadyIn.nil
          have hr2 := ownsB_ext hrow0 x2
          refine stepIn_app _ rfl (.tmp 18) (.tmp 21) 28 rfl w.heap.size 25 i0 _ 5 12 Tryd.underlying28 hi hz0 hz1 hz2 rfl (by decide) v pre.length _ rfl (hr2.alloc _) ⟨w2.heap.size, 0, none⟩ 1 1 y.cells rfl rfl (blk_cells (cs := y.cells) (Blk.new w2 25 #[.int .u8 (y.op.toNat : Int), .int .u8 (y.dst.toNat : Int), .int .u8 (y.src.toNat : Int), .int .i16 y.off.toInt, .int .i32 y.imm.toInt])) (ins_oneCell y) (by unfold maxLen; omega) (by omega) (by have := hsz2 w2 x2; simp; omega) ?_
          intro v4 w4 hown4 hgrow4 _
          obtain ⟨g4, cap4, rfl⟩ := ownsRow_succ hown4
          obtain ⟨hv1, hv2, hr5, hk5, hb5⟩ := b2.appended (by decide) hr2 (hsz2 w2 x2) (Nat.le_refl _) hown4 hgrow4
          have hs5 := HSN.out w2 x2 _ w4 hgrow4 hr2
          have c4 := hv1.cell
          have f4 := hv1.frozen
          refine hK _ _ ?_
          clear hK K
          try simp only [Act.put, List.setIfInBounds_toArray]
          refine wpAnyIn_ready (rs := [5]) (by kernel_rfl) (by simp) ?_
          refine AllReadyIn.cons rfl (fun K hK => ?_) AllReadyIn.nil
          go_simp
          refine hK _ _ ?_
          clear hK K
          try simp only [Act.put, List.setIfInBounds_toArray, List.set_cons_zero, List.set_cons_succ]
          refine wpAnyIn_done (by kernel_rfl) ?_ _
          gi_wp2
          exact HFIN.out w2 _ _ x2 hv2 hr5 hk5 hb5 (hs5 _)
        · skip
          go_simp
          refine hK _ _ ?_
          clear hK K
          try simp only [Act.put, List.setIfInBounds_toArray, List.set_cons_zero, List.set_cons_succ]
          refine wpAnyIn_ready (rs := [0]) (by kernel_rfl) (by simp) ?_
          refine AllReadyIn.cons rfl (fun K hK => ?_) AllReadyIn.nil
          go_simp
          refine hK _ _ ?_
          clear hK K
          try simp only [Act.put, List.setIfInBounds_toArray, List.set_cons_zero, List.set_cons_succ]
          refine wpAnyIn_ready (rs := [4]) (by kernel_rfl) (by simp) ?_
          refine AllReadyIn.cons rfl (fun K hK => ?_) AllReadyIn.nil
          have hr2 := ownsB_ext hrow0 x2
          refine stepIn_app _ rfl (.tmp 18) (.tmp 21) 28 rfl w.heap.size 25 i0 _ 5 12 Tryd.underlying28 hi hz0 hz1 hz2 rfl (by decide) v pre.length _ rfl (hr2.alloc _) ⟨w2.heap.size, 0, none⟩ 1 1 y.cells rfl rfl (blk_cells (cs := y.cells) (Blk.new w2 25 #[.int .u8 (y.op.toNat : Int), .int .u8 (y.dst.toNat : Int), .int .u8 (y.src.toNat : Int), .int .i16 y.off.toInt, .int .i32 y.imm.toInt])) (ins_oneCell y) (by unfold maxLen; omega) (by omega) (by have := hsz2 w2 x2; simp; omega) ?_
          intro v4 w4 hown4 hgrow4 _
          obtain ⟨g4, cap4, rfl⟩ := ownsRow_succ hown4
          obtain ⟨hv1, hv2, hr5, hk5, hb5⟩ := b2.appended (by decide) hr2 (hsz2 w2 x2) (Nat.le_refl _) hown4 hgrow4
          have hs5 := HSN.out w2 x2 _ w4 hgrow4 hr2
          have c4 := hv1.cell
          have f4 := hv1.frozen
          refine hK _ _ ?_
          clear hK K
          try simp only [Act.put, List.setIfInBounds_toArray]
          refine wpAnyIn_ready (rs := [5]) (by kernel_rfl) (by simp) ?_
          refine AllReadyIn.cons rfl (fun K hK => ?_) AllReadyIn.nil
          go_simp
          refine hK _ _ ?_
          clear hK K
          try simp only [Act.put, List.setIfInBounds_toArray, List.set_cons_zero, List.set_cons_succ]
          refine wpAnyIn_done (by kernel_rfl) ?_ _
          gi_wp2
          exact HFIN.out w2 _ _ x2 hv2 hr5 hk5 hb5 (hs5 _)
  case done =>
    rintro D ys W hD rfl ⟨⟨v, hv, hrow, -⟩, hB, -, -⟩ hK
    have c4 := hv.cell
    gi_wp2
    refine ⟨by simp, .inl ⟨_, _, rfl, run_takeDeferred hK, ?_⟩⟩
    have hl : (List.finRange m).length = m := by simp
    have hmap : ((List.finRange m).map fun x : Fin m => decAt bs x.val) = decN bs m := by
      apply List.ext_getElem
      · simp [decN]
      · intro i h1 h2
        simp [decN]
    rw [hl, hmap] at hrow
    refine ⟨.tuple #[v, .int .i64 0], ?_, v, rfl, ownsRow_putObj hrow _ hK rfl, ext_of_below (hB.trans (belowK_b (w := w) (Nat.le_refl _) W D _ _ (by omega) hK rfl rfl))⟩
    simp [results, Tryd.results15, go_sem]
  case stop =>
    rintro D c pre W _ _ h _
    exact h.elim
end Go.Proofs.YtbjkfgfiifnjoaaDoor
