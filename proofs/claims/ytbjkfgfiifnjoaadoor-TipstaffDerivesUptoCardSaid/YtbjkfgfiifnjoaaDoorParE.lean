/- rights.Text: whatever the rights are, it returns some text. -/
import Derived.Deep.RegionHeld3
import Derived.Test.YtbjkfgfiifnjoaaDoorSlc
import Derived.Test.YtbjkfgfiifnjoaaDoorParD
import Derived.Test.YtbjkfgfiifnjoaaDoorTkD
namespace Go.Proofs.YtbjkfgfiifnjoaaDoor
open Go.RowKit
set_option maxRecDepth 100000

theorem info_str : (Tryd.prog.info? 9).map (fun i => (i.zero, i.size, i.bytes)) = some (some (.string ⟨#[]⟩), 1, 16) := by kernel_rfl

theorem join_row (v : Value) (n : Nat) (ss : List ByteArray) (w : World) (h : w.ownsRow 0 9 1 v n (ss.map Value.string)) (hl : ss.length = n) (h0 : 0 < n) (hn : n ≤ 6) (hs : ∀ s ∈ ss, s.size ≤ 66) :
    Calls Tryd.prog 115 #[v, .string ⟨#[32]⟩] w fun e w' => (∃ st : ByteArray, e = .returned (.string st)) ∧ Ext [] w w' := by
  subst hl
  exact join_any v ss w h h0 hn hs
theorem short_snoc {ss : List ByteArray} {c : ByteArray} (h : ∀ s ∈ ss, s.size ≤ 66) (hc : c.size ≤ 66) : ∀ s ∈ ss ++ [c], s.size ≤ 66 := by
  intro s hs
  rw [List.mem_append] at hs
  rcases hs with h' | h'
  · exact h s h'
  · rw [List.mem_singleton] at h'; exact h' ▸ hc

theorem numbers_any (r : Rt) (w : World) : Calls Tryd.prog 113 #[r.val] w fun e w' =>
    (∃ b, e = .returned (.slice (some ⟨b, 0, none⟩) 4 4) ∧ w.heap.size ≤ b ∧ Blk w' b 82 [.int .u16 (r.c.toNat : Int), .int .u16 (r.p.toNat : Int), .int .u16 (r.m.toNat : Int), .int .u16 (r.h.toNat : Int)]) ∧ Ext [] w w' := by
  obtain ⟨rc, rp, rm, rh, rv, rs⟩ := r
  unfold Rt.val
  dsimp only
  go_enter Tryd.func113, Tryd.ntmps113
  go_wp2_with fail
  go_ret
  exact ⟨⟨_, rfl, by simp, Blk.new' _ _ _ _ (by simp)⟩, ((Ext.refl _ _).alloc _).alloc _⟩

set_option maxHeartbeats 16000000 in
theorem text_any (r : Rt) (w : World) (G : ParG w) : Calls Tryd.prog 78 #[r.val] w fun e w' => (∃ st : ByteArray, e = .returned (.string st)) ∧ Ext [] w w' := by
  obtain ⟨i0, hi, hz0, hz1, hz2⟩ := info_parts info_str
  have HN := Lib.hid (fun w' => numbers_any r w')
  obtain ⟨wa, hwa⟩ : ∃ wa, wa = w.alloc (.cells r.cells.toArray 84) := ⟨_, rfl⟩
  have BA : Blk wa w.heap.size 84 r.cells := by rw [hwa]; exact Blk.new w _ _
  have xa : Ext [] w wa := by rw [hwa]; exact (Ext.refl _ _).alloc _
  have HG := Lib.hid (fun w' (x : Ext [] wa w') => G.ext (xa.trans x))
  clear G
  have hnums : ∀ k, k < 4 → ∃ n : Nat, n ≤ 65535 ∧ [.int .u16 (r.c.toNat : Int), .int .u16 (r.p.toNat : Int), .int .u16 (r.m.toNat : Int), .int .u16 (r.h.toNat : Int)][k]? = some (Value.int .u16 (n : Int)) := by
    intro k hk
    have h1 := r.c.isLt; have h2 := r.p.isLt; have h3 := r.m.isLt; have h4 := r.h.isLt
    match k, hk with
    | 0, _ => exact ⟨_, by omega, rfl⟩
    | 1, _ => exact ⟨_, by omega, rfl⟩
    | 2, _ => exact ⟨_, by omega, rfl⟩
    | 3, _ => exact ⟨_, by omega, rfl⟩
  have HNUM := Lib.hid hnums
  clear hnums
  unfold Rt.cells at hwa BA
  unfold Rt.val at HN ⊢
  obtain ⟨rc, rp, rm, rh, rv, rs⟩ := r
  dsimp only at *
  go_enter Tryd.func78, Tryd.ntmps78
  go_upto_region 1 with (fail)
  rw [← hwa]
  have hbl := BA.lt
  have BA0 := BA
  generalize w.heap.size = gb at *
  clear hwa
  obtain ⟨c0, c1, c2, c3, c4, c5⟩ := rt_cells (r := ⟨rc, rp, rm, rh, rv, rs⟩) BA
  dsimp only at c0 c1 c2 c3 c4 c5
  go_wp2_with fail
  refine (HN.out wa).mono ?_
  rintro e w2 ⟨⟨nb, rfl, -, BN⟩, x2⟩
  have BA2 := BA.ext x2 (by simp)
  clear c0 c1 c2 c3 c4 c5 BA BA0 hbl HN
  have X0 := xa.trans x2
  have HG2 := Lib.hid (fun w' (x : Ext [] w2 w') => HG.out w' (x2.trans x))
  clear HG x2 xa
  generalize ([.int .u16 (rc.toNat : Int), .int .u16 (rp.toNat : Int), .int .u16 (rm.toNat : Int), .int .u16 (rh.toNat : Int)] : List Value) = nums at *
  go_upto_region 3 with (fail)
  go_loopw [3, 9] (fun v i wr => ∃ (k : Nat) (ss : List ByteArray), i = .int .i64 (k : Int) ∧ k ≤ 4 ∧ ss.length = k ∧ (∀ s ∈ ss, s.size ≤ 66) ∧ wr.ownsRow 0 9 1 v k (ss.map Value.string) ∧ Ext [] w2 wr ∧ ∀ g, v.ownBlock = some g → w2.heap.size ≤ g) (fun _ i _ => 4 - (intOf i).toNat)
  case atStart => exact ⟨0, [], rfl, by omega, rfl, by simp, by simpa using World.ownsRow_nil _ _ _ _, Ext.refl _ _, fun g h => by cases h⟩
  case round =>
    obtain ⟨k, ss, rfl, hk, hsl, hss, hown, x, fr⟩ := hrel
    by_cases hlt : k < 4
    · obtain ⟨n, hn, hne⟩ := HNUM.out k hlt
      have hcell : wr.cell? ⟨nb, k, none⟩ = some (.int .u16 (n : Int)) := by rw [(BN.ext x (by simp)).cell]; exact hne
      have hnl := (BN.ext x (by simp)).lt
      clear hne
      obtain ⟨va, vc, rfl⟩ := owns_slice hown
      have hx0 : Ext [] w2 wr.drew := x.drew
      have hown0 := owns_ext hown ((Ext.refl [] wr).drew) (by simp)
      have hrun5 := fun w' => run_slice_string (P := Tryd.prog) w' 9 ⟨#[99, 112, 109, 104]⟩ .i64 .i64 (k : Int) ((k : Int) + 1) Tryd.underlying9 (by omega) (by omega) (by show (k : Int) + 1 ≤ ((4 : Nat) : Int); omega)
      have hpc : ((⟨#[99, 112, 109, 104]⟩ : ByteArray).extract (k : Int).toNat ((k : Int) + 1).toNat).size ≤ 1 := by rw [ByteArray.size_extract]; omega
      generalize (⟨#[99, 112, 109, 104]⟩ : ByteArray).extract (k : Int).toNat ((k : Int) + 1).toNat = pc at *
      have hw1 : IntKind.i64.wrap ((k : Int) + 1) = (k : Int) + 1 := by simp [IntKind.wrap, IntKind.bits, IntKind.signed]; omega
      have hw2 : IntKind.u64.wrap (n : Int) = (n : Int) := by simp [IntKind.wrap, IntKind.bits, IntKind.signed]; omega
      clear hown
      go_upto_region 5 with (fail)
      refine wp_region_held_drew (S := fun w' => Ext [] w2 w') (by kernel_rfl) hx0 (fun hS => ?_)
      generalize wr.drew = w9 at *
      refine (?_ : ∀ wq, Ext [] w2 wq → wq.ownsRow 0 9 1 (.slice va k vc) k (ss.map Value.string) → wpAnyH _ _ _ _ _ _ _ _ wq) w9 hS hown0
      clear hS hown0
      intro wq hS hown
      refine wpAnyH_take (i := 0) (oi := ⟨some 14, _, _, _, _, _⟩) (v := ?_) rfl (by kernel_rfl) (by kernel_rfl) (by kernel_rfl) (fun _ _ _ h => h) (Or.inl ⟨by rfl, ?_⟩) (by assumption) ?_
      rotate_left 1
      · (intro w hSw; (try dsimp only at hSw); go_split_ands; (try go_simp); (try with_reducible rfl))
      try simp only [Act.put, List.setIfInBounds_toArray, List.set_cons_zero, List.set_cons_succ]
      refine wpAnyH_take (i := 1) (oi := ⟨some 15, _, _, _, _, _⟩) (v := ?_) rfl (by kernel_rfl) (by kernel_rfl) (by kernel_rfl) (fun _ _ _ h => h) (Or.inl ⟨by rfl, ?_⟩) (by assumption) ?_
      rotate_left 1
      · (intro w hSw; (try dsimp only at hSw); go_split_ands; (try go_simp); (try with_reducible rfl))
      try simp only [Act.put, List.setIfInBounds_toArray, List.set_cons_zero, List.set_cons_succ]
      refine wpAnyH_take (i := 2) (oi := ⟨some 16, _, _, _, _, _⟩) (v := ?_) rfl (by kernel_rfl) (by kernel_rfl) (by kernel_rfl) (fun _ _ _ h => h) (Or.inl ⟨by rfl, ?_⟩) (by assumption) ?_
      rotate_left 1
      · (intro w hSw; (try dsimp only at hSw); go_split_ands; (try go_simp); (try with_reducible rfl))
      try simp only [Act.put, List.setIfInBounds_toArray, List.set_cons_zero, List.set_cons_succ]
      refine wpAnyH_take (i := 3) (oi := ⟨some 17, _, _, _, _, _⟩) (v := ?_) rfl (by kernel_rfl) (by kernel_rfl) (by kernel_rfl) (fun _ _ _ h => h) (Or.inl ⟨by rfl, ?_⟩) (by assumption) ?_
      rotate_left 1
      · (intro w hSw; (try dsimp only at hSw); go_split_ands; (try go_simp); (try with_reducible rfl))
      try simp only [Act.put, List.setIfInBounds_toArray, List.set_cons_zero, List.set_cons_succ]
      refine wpAnyH_take (i := 4) (oi := ⟨some 18, _, _, _, _, _⟩) (v := ?_) rfl (by kernel_rfl) (by kernel_rfl) (by kernel_rfl) (fun _ _ _ h => h) (Or.inl ⟨by rfl, ?_⟩) (by assumption) ?_
      rotate_left 1
      · (intro w hSw; (try dsimp only at hSw); go_split_ands; have hr5 := hrun5 w; (try go_simp); (try with_reducible rfl))
      try simp only [Act.put, List.setIfInBounds_toArray, List.set_cons_zero, List.set_cons_succ]
      refine wpAnyH_take (i := 5) (oi := ⟨some 19, _, _, _, _, _⟩) (v := ?_) rfl (by kernel_rfl) (by kernel_rfl) (by kernel_rfl) (fun _ _ _ h => h) (Or.inl ⟨by rfl, ?_⟩) (by assumption) ?_
      rotate_left 1
      · (intro w hSw; (try dsimp only at hSw); go_split_ands; (try go_simp); (try with_reducible rfl))
      try simp only [Act.put, List.setIfInBounds_toArray, List.set_cons_zero, List.set_cons_succ]
      refine wpAnyH_take (i := 6) (oi := ⟨some 20, _, _, _, _, _⟩) (v := ?_) rfl (by kernel_rfl) (by kernel_rfl) (by kernel_rfl) (fun _ _ _ h => h) (Or.inl ⟨by rfl, ?_⟩) (by assumption) ?_
      rotate_left 1
      · (intro w hSw; (try dsimp only at hSw); go_split_ands; (try go_simp); (try with_reducible rfl))
      try simp only [Act.put, List.setIfInBounds_toArray, List.set_cons_zero, List.set_cons_succ]
      refine wpAnyH_ready (rs := [7]) (by kernel_rfl) (by simp) ?_
      refine AllReadyH.cons (o := ⟨some 21, _, _, _, _, _⟩) rfl (fun K hK => ?_) AllReadyH.nil
      go_simp
      refine (fu_any n hn wq (HG2.out _ hS)).mono ?_
      rintro e W7 ⟨⟨st, rfl, hst⟩, x7⟩
      go_simp
      have hown := owns_ext hown x7 (by simp)
      have hk := hS.trans x7
      clear hS x7
      obtain ⟨wq, hwq⟩ : ∃ w, w = W7 := ⟨_, rfl⟩
      subst hwq
      refine hK.out _ _ hk (fun hS => ?_)
      clear hK K
      try simp only [Act.put, List.setIfInBounds_toArray, List.set_cons_zero, List.set_cons_succ]
      refine wpAnyH_take (i := 8) (oi := ⟨some 22, _, _, _, _, _⟩) (v := ?_) rfl (by kernel_rfl) (by kernel_rfl) (by kernel_rfl) (fun _ _ _ h => h) (Or.inl ⟨by rfl, ?_⟩) (by assumption) ?_
      rotate_left 1
      · (intro w hSw; (try dsimp only at hSw); go_split_ands; go_simp; rw [if_neg (by omega)]; (try go_simp); (try with_reducible rfl))
      try simp only [Act.put, List.setIfInBounds_toArray, List.set_cons_zero, List.set_cons_succ]
      refine wpAnyH_ready (rs := [9]) (by kernel_rfl) (by simp) ?_
      refine AllReadyH.cons (o := ⟨some 23, _, _, _, _, _⟩) rfl (fun K hK => ?_) AllReadyH.nil
      go_simp
      have BS := Blk.new wq 9 #[.string (pc ++ st)]
      have xq : Ext [] wq (wq.alloc (.cells #[.string (pc ++ st)] 9)) := (Ext.refl _ _).alloc _
      have hown := owns_ext hown xq (by simp)
      have hk := hS.trans xq
      clear hS xq
      generalize wq.alloc (.cells #[.string (pc ++ st)] 9) = wq2 at *
      generalize wq.heap.size = sb at *
      obtain ⟨wq, hwq⟩ : ∃ w, w = wq2 := ⟨_, rfl⟩
      subst hwq
      refine hK.out _ _ hk (fun hS => ?_)
      clear hK K
      try simp only [Act.put, List.setIfInBounds_toArray, List.set_cons_zero, List.set_cons_succ]
      refine wpAnyH_ready (rs := [10]) (by kernel_rfl) (by simp) ?_
      refine AllReadyH.cons (o := ⟨some 24, _, _, _, _, _⟩) rfl (fun K hK => ?_) AllReadyH.nil
      refine step_app _ rfl (.tmp 14) (.tmp 23) 76 rfl 9 i0 _ 1 16 Tryd.underlying76 hi hz0 hz1 hz2 rfl (by decide) (.slice va k vc) k (ss.map Value.string) rfl hown (.slice (some ⟨sb, 0, none⟩) 1 1) 1 [.string (pc ++ st)] rfl (blk_reads BS 1 rfl) (by intro u hu; simp at hu; subst hu; rfl) (by unfold maxLen; omega) (by omega) ?_
      intro v8 w8 hown8 hgrow8 hfr8 _
      have hk := hS.grown hgrow8 (fun g hg => .inr (fr g hg))
      have fr8 := rows_freshT hS fr hfr8
      clear hS hgrow8 hfr8 hown BS
      refine hK.out _ _ hk (fun hS => ?_)
      clear hK K
      try simp only [Act.put, List.setIfInBounds_toArray, List.set_cons_zero, List.set_cons_succ]
      refine wpAnyH_take (i := 11) (oi := ⟨some 3, _, _, _, _, _⟩) (v := ?_) rfl (by kernel_rfl) (by kernel_rfl) (by kernel_rfl) (fun _ _ _ h => h) (Or.inl ⟨by rfl, ?_⟩) (by assumption) ?_
      rotate_left 1
      · (intro w hSw; (try dsimp only at hSw); go_split_ands; (try go_simp); (try with_reducible rfl))
      try simp only [Act.put, List.setIfInBounds_toArray, List.set_cons_zero, List.set_cons_succ]
      refine wpAnyH_done (by kernel_rfl) ?_ _
      go_wp2_with fail
      go_roundw
      case rel => exact ⟨k + 1, ss ++ [pc ++ st], by go_num, hlt, by simp [hsl], by intro s hs; rw [List.mem_append] at hs; rcases hs with h | h; exact hss s h; (simp at h; subst h; rw [ByteArray.size_append]; omega), by simpa using hown8, hS, fr8⟩
      case measure => simp [intOf]; omega
    · obtain rfl : k = 4 := by omega
      obtain ⟨va, vc, rfl⟩ := owns_slice hown
      have BA9 := BA2.ext x (by simp)
      obtain ⟨c0, c1, c2, c3, c4, c5, c6⟩ := rt_cells (r := ⟨rc, rp, rm, rh, rv, rs⟩) BA9
      dsimp only at c4 c5
      cases rv
      · skip
        cases rs
        · skip
          go_wp2_with fail
          have hj := join_row _ 4 (ss) wr (by simpa using hown) (by simp [hsl]) (by omega) (by omega) hss
          refine hj.mono ?_
          rintro e w9 ⟨⟨st, rfl⟩, x9⟩
          go_wp2_with fail
          go_ret
          exact ⟨⟨st, rfl⟩, X0.trans (x.trans x9)⟩
        · skip
          go_upto_region 11 with (at_builtin; go_must (refine wpList_app _ rfl (.tmp 33) (.tmp 34) 76 rfl 9 i0 _ 1 16 Tryd.underlying76 hi hz0 hz1 hz2 rfl (by decide) _ _ _ rfl (owns_ext hown ((Ext.refl [] wr).alloc _) (by simp)) _ 1 [.string ⟨#[115, 105, 103, 110, 101, 100]⟩] rfl (blk_reads (Blk.new wr _ _) 1 rfl) (by intro u hu; simp at hu; subst hu; rfl) (by unfold maxLen; omega) (by omega) ?_); intro v4 w4 hown4 hgrow4 hfr4 _; obtain ⟨va4, vc4, rfl⟩ := owns_slice hown4; have x4 := (x.alloc _).grown hgrow4 (fun g hg => .inr (fr g hg)); have fr4 := rows_freshT (x.alloc _) fr hfr4; have BA4 := BA2.ext x4 (by simp); obtain ⟨c0, c1, c2, c3, c4, c5, c6⟩ := rt_cells (r := ⟨rc, rp, rm, rh, false, true⟩) BA4; dsimp only at c4 c5)
          go_wp2_with fail
          have hj := join_row _ 5 (ss ++ [⟨#[115, 105, 103, 110, 101, 100]⟩]) w4 (by simpa using hown4) (by simp [hsl]) (by omega) (by omega) (short_snoc hss (by decide))
          refine hj.mono ?_
          rintro e w9 ⟨⟨st, rfl⟩, x9⟩
          go_wp2_with fail
          go_ret
          exact ⟨⟨st, rfl⟩, X0.trans (x4.trans x9)⟩
      · skip
        go_upto_region 9 with (at_builtin; go_must (refine wpList_app _ rfl (.tmp 28) (.tmp 29) 76 rfl 9 i0 _ 1 16 Tryd.underlying76 hi hz0 hz1 hz2 rfl (by decide) _ _ _ rfl (owns_ext hown ((Ext.refl [] wr).alloc _) (by simp)) _ 1 [.string ⟨#[112, 114, 105, 118, 105, 108, 101, 103, 101, 100]⟩] rfl (blk_reads (Blk.new wr _ _) 1 rfl) (by intro u hu; simp at hu; subst hu; rfl) (by unfold maxLen; omega) (by omega) ?_); intro v3 w3 hown3 hgrow3 hfr3 _; obtain ⟨va3, vc3, rfl⟩ := owns_slice hown3; have x3 := (x.alloc _).grown hgrow3 (fun g hg => .inr (fr g hg)); have fr3 := rows_freshT (x.alloc _) fr hfr3; have BA3 := BA2.ext x3 (by simp); obtain ⟨c0, c1, c2, c3, c4, c5, c6⟩ := rt_cells (r := ⟨rc, rp, rm, rh, true, rs⟩) BA3; dsimp only at c4 c5)
        cases rs
        · skip
          go_wp2_with fail
          have hj := join_row _ 5 (ss ++ [⟨#[112, 114, 105, 118, 105, 108, 101, 103, 101, 100]⟩]) w3 (by simpa using hown3) (by simp [hsl]) (by omega) (by omega) (short_snoc hss (by decide))
          refine hj.mono ?_
          rintro e w9 ⟨⟨st, rfl⟩, x9⟩
          go_wp2_with fail
          go_ret
          exact ⟨⟨st, rfl⟩, X0.trans (x3.trans x9)⟩
        · skip
          go_upto_region 11 with (at_builtin; go_must (refine wpList_app _ rfl (.tmp 33) (.tmp 34) 76 rfl 9 i0 _ 1 16 Tryd.underlying76 hi hz0 hz1 hz2 rfl (by decide) _ _ _ rfl (owns_ext hown3 ((Ext.refl [] w3).alloc _) (by simp)) _ 1 [.string ⟨#[115, 105, 103, 110, 101, 100]⟩] rfl (blk_reads (Blk.new w3 _ _) 1 rfl) (by intro u hu; simp at hu; subst hu; rfl) (by unfold maxLen; omega) (by omega) ?_); intro v4 w4 hown4 hgrow4 hfr4 _; obtain ⟨va4, vc4, rfl⟩ := owns_slice hown4; have x4 := (x3.alloc _).grown hgrow4 (fun g hg => .inr (fr3 g hg)); have fr4 := rows_freshT (x3.alloc _) fr3 hfr4; have BA4 := BA2.ext x4 (by simp); obtain ⟨c0, c1, c2, c3, c4, c5, c6⟩ := rt_cells (r := ⟨rc, rp, rm, rh, true, true⟩) BA4; dsimp only at c4 c5)
          go_wp2_with fail
          have hj := join_row _ 6 (ss ++ [⟨#[112, 114, 105, 118, 105, 108, 101, 103, 101, 100]⟩] ++ [⟨#[115, 105, 103, 110, 101, 100]⟩]) w4 (by simpa using hown4) (by simp [hsl]) (by omega) (by omega) (short_snoc (short_snoc hss (by decide)) (by decide))
          refine hj.mono ?_
          rintro e w9 ⟨⟨st, rfl⟩, x9⟩
          go_wp2_with fail
          go_ret
          exact ⟨⟨st, rfl⟩, X0.trans (x4.trans x9)⟩
end Go.Proofs.YtbjkfgfiifnjoaaDoor
