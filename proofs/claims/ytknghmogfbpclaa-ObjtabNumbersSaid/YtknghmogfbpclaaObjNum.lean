/- The statement ObjtabNumbers. -/
import Derived.Deep.CutRange
import Derived.Deep.CutBlock
import Derived.Test.YtknghmogfbpclaaObjNumT
namespace Go.Proofs.Ytknghmogfbpclaa
open Go.RowKit
set_option maxRecDepth 100000

set_option maxHeartbeats 16000000 in
theorem numbers_walk (a0 : Option Addr) (cap0 : Nat) (ss : List ByteArray) (a1 : Option Addr) (len1 cap1 : Nat) (z1 : List Int) (w : World) (hs : StrsAt w a0 ss) (_hle : ss.length ≤ cap0) (r1 : IsRow .i64 w a1 len1 cap1 z1) :
    Calls Try.prog 5 #[.slice a0 ss.length cap0, .slice a1 len1 cap1] w fun e w' => e = .returned (.bool true) ∧ Ext [] w w' := by
  have HST := Lib.hid (fun w' (x' : Ext [] w w') => hs.ext x')
  have HR1W := Lib.hid r1
  have hm0 := hs.1
  unfold maxLen at hm0
  clear hs r1
  go_enter Try.func5, Try.ntmps5
  go_wp2_with fail
  refine (S.obj_new 8 w (by omega) (by omega)).mono ?_
  rintro e w1 ⟨rfl, O1, x1, hz1⟩
  go_wp2_with fail
  refine (holds_any w1).mono ?_
  rintro e w2 ⟨rfl, x2⟩
  have O2 := O1.ext0 x2
  have x12 := x1.trans x2
  clear O1 x1 hz1
  generalize hbt : w.heap.size + 1 = bt at *
  generalize hbm : w.heap.size = bm at *
  go_wp2_with fail
  go_loopw [7, 8, 9, 10] (fun la v8 v9 i wr => ∃ (k next : Nat) (l : List Ent), i = .int .i64 k ∧ la = .int .i64 next ∧ k ≤ ss.length ∧ k ≤ 30 ∧ next ≤ k ∧ NumInv w.heap.size wr bt bm next l v8 v9 ∧ Ext [] w wr) (fun _ _ _ i _ => 30 - (intOf i).toNat)
  case atStart =>
    refine ⟨0, 0, [], rfl, rfl, Nat.zero_le _, by omega, Nat.le_refl _, ⟨O2, by simp, by simp, by simpa using World.ownsRow_nil _ _ _ _, by simpa using World.ownsRow_nil _ _ _ _, (fun g h => by cases h), (fun g h => by cases h), (fun g h => by cases h), ⟨by omega, by omega, by simp⟩⟩, x12⟩
  case round =>
    clear O2 x12 x2
    obtain ⟨k, next, l, rfl, rfl, hk, hk30, hnk, I, x⟩ := hrel
    obtain ⟨va, vc, rfl⟩ := owns_slice I.r8
    have hlsz := I.o.lsz
    by_cases hlt : k < ss.length ∧ k < 30
    · obtain ⟨hlt, h30⟩ := hlt
      obtain ⟨-, hsz, b0, o0, h00, hcc⟩ := HST.out w (Ext.refl _ _)
      obtain ⟨rfl, hb0⟩ := h00 (by omega)
      have hcellw := hcc k hlt
      obtain ⟨s, hs⟩ : ∃ s, ss[k] = s := ⟨_, rfl⟩
      rw [hs] at hcellw
      have HCW := Lib.hid (fun w' (x' : Ext [] w w') => (show w'.cell? ⟨b0, o0 + k, none⟩ = some (.string s) from by rw [x'.cell (p := ⟨b0, o0 + k, none⟩) hb0 (by simp)]; exact hcellw))
      have hcell := HCW.out wr x
      clear hs hsz h00 hcc hcellw
      have hap := I.ap
      have hwr := x.size
      have hlc : l.length ≤ 8 := hlsz
      go_upto_region 10 with (fail)
      go_cut [11, 12] from 31 to 181 (fun ri re wx => ∃ id E : Int, ri = .int .i64 id ∧ re = .int .i64 E ∧ Ext [] w wx ∧ ((8 ≤ l.length ∧ id = 0 ∧ E = 12 ∧ NumInv w.heap.size wx bt bm next l (.slice va l.length vc) u9) ∨ (l.length < 8 ∧ id = (next : Int) + 1 ∧ E = 0 ∧ ∃ b, w.heap.size ≤ b ∧ NumMid w.heap.size wx bt bm (next + 1) l ⟨next + 1, b, .string s, 1⟩ (l.map fun e => Value.int .i64 (e.id : Int)) (.slice va l.length vc) u9)))
      case first =>
        by_cases h8 : l.length = 8
        · have HMK := Lib.hid (S.obj_make_full I.o s h8)
          have h8g : 8 ≤ l.length := by omega
          clear h8
          go_wp2_with fail
          refine HMK.out.mono ?_
          rintro e w3 ⟨rfl, x3⟩
          clear HMK
          go_wp2_with fail
          go_meet
          exact ⟨0, 12, rfl, rfl, x.trans x3, .inl ⟨h8g, rfl, rfl, I.ext x3⟩⟩
        · have h8' : l.length < 8 := by omega
          have HMK := Lib.hid (S.obj_make I.o s h8' (by omega))
          go_wp2_with fail
          refine HMK.out.mono ?_
          rintro e w3 ⟨b, rfl, hb, O3, x3⟩
          clear HMK
          have M3 := I.made (by omega) x3 O3 hb
          have x13 : Ext [] w w3 := x.trans' x3 (fun i hi => by simp at hi; omega)
          go_wp2_with fail
          go_meet
          exact ⟨_, 0, rfl, rfl, x13, .inr ⟨h8', rfl, rfl, b, by omega, M3⟩⟩
      case rest =>
        obtain ⟨id, E, rfl, rfl, x3, hdj⟩ := hcut
        have DJ := Lib.hid hdj
        clear hdj hcell
        generalize hw3 : wc = w3 at *
        clear hw3
        go_upto_region 11 with (fail)
        go_cut [63] from 31 to 181 (fun c wx => c = .bool false ∧ wx = w3)
        case first =>
          rcases DJ.out with ⟨q1, rfl, rfl, -⟩ | ⟨q1, rfl, rfl, -⟩
          · have q2 : ¬ (l.length : Int) < 8 := by omega
            go_wp2_with fail
            go_meet
            exact ⟨rfl, rfl⟩
          · have q2 : (l.length : Int) < 8 := by omega
            go_wp2_with fail
            go_meet
            exact ⟨rfl, rfl⟩
        case rest =>
          obtain ⟨rfl, hww⟩ := hcut
          rw [hww]
          clear hww
          go_upto_if 65 with (fail)
          go_cut [7, 8, 9] from 31 to 181 (fun la v8 v9 wx => ∃ (n' : Nat) (l' : List Ent), la = .int .i64 n' ∧ n' ≤ k + 1 ∧ NumInv w.heap.size wx bt bm n' l' v8 v9 ∧ Ext [] w wx)
          case first =>
            rcases DJ.out with ⟨q1, rfl, rfl, I2⟩ | ⟨q1, rfl, rfl, b, hwb, M3⟩
            · go_wp2_with fail
              go_meet
              exact ⟨next, l, rfl, by omega, I2, x3⟩
            · have HAP := Lib.hid (show w.heap.size ≤ bt ∧ w.heap.size ≤ bm ∧ ∀ y ∈ l ++ [⟨next + 1, b, .string s, 1⟩], w.heap.size ≤ y.b from ⟨hap.1, hap.2.1, fun y hy => by
                rcases List.mem_append.1 hy with hy | hy
                · exact hap.2.2 y hy
                · simp at hy; subst hy; exact hwb⟩)
              have HON := Lib.hid (show ∀ y ∈ l ++ [⟨next + 1, b, .string s, 1⟩], y.h = 1 from fun y hy => by
                rcases List.mem_append.1 hy with hy | hy
                · exact I.ones y hy
                · simp at hy; subst hy; rfl)
              have HSR := Lib.hid (show ∀ y ∈ l ++ [⟨next + 1, b, .string s, 1⟩], ∃ q : ByteArray, y.x = .string q from fun y hy => by
                rcases List.mem_append.1 hy with hy | hy
                · exact I.strs y hy
                · simp at hy; subst hy; exact ⟨s, rfl⟩)
              obtain ⟨i0, hi, hz0, hz1, hz2⟩ := info_parts info_intN
              obtain ⟨j0, hj, hy0, hy1, hy2⟩ := info_parts info_strN
              go_upto_region 17 with (fail)
              have M := M3.ext ((Ext.refl _ _).drew)
              have zz : Ext [] w w3.drew := x3.drew
              refine wp_region_held_drew (S := fun w' => Ext [] w w') (by kernel_rfl) zz (fun hS => ?_)
              generalize w3.drew = wq at M zz hS ⊢
              refine wpAnyH_take (i := 0) (oi := ⟨some 71, _, _, _, _, _⟩) (v := ?_) rfl (by kernel_rfl) (by kernel_rfl) (by kernel_rfl) (fun _ _ _ h => h) (Or.inl ⟨by rfl, ?_⟩) (by assumption) ?_
              rotate_left 1
              · (intro w hSw; (try dsimp only at hSw); go_split_ands; (try go_simp); (try with_reducible rfl))
              try simp only [Act.put, List.setIfInBounds_toArray, List.set_cons_zero, List.set_cons_succ]
              refine wpAnyH_take (i := 1) (oi := ⟨some 72, _, _, _, _, _⟩) (v := ?_) rfl (by kernel_rfl) (by kernel_rfl) (by kernel_rfl) (fun _ _ _ h => h) (Or.inl ⟨by rfl, ?_⟩) (by assumption) ?_
              rotate_left 1
              · (intro w hSw; (try dsimp only at hSw); go_split_ands; (try go_simp); (try with_reducible rfl))
              try simp only [Act.put, List.setIfInBounds_toArray, List.set_cons_zero, List.set_cons_succ]
              refine wpAnyH_take (i := 4) (oi := ⟨some 75, _, _, _, _, _⟩) (v := ?_) rfl (by kernel_rfl) (by kernel_rfl) (by kernel_rfl) (fun _ _ _ h => h) (Or.inl ⟨by rfl, ?_⟩) (by assumption) ?_
              rotate_left 1
              · (intro w hSw; (try dsimp only at hSw); go_split_ands; (try go_simp); (try with_reducible rfl))
              try simp only [Act.put, List.setIfInBounds_toArray, List.set_cons_zero, List.set_cons_succ]
              refine wpAnyH_take (i := 5) (oi := ⟨some 76, _, _, _, _, _⟩) (v := ?_) rfl (by kernel_rfl) (by kernel_rfl) (by kernel_rfl) (fun _ _ _ h => h) (Or.inl ⟨by rfl, ?_⟩) (by assumption) ?_
              rotate_left 1
              · (intro w hSw; (try dsimp only at hSw); go_split_ands; (try go_simp); (try with_reducible rfl))
              try simp only [Act.put, List.setIfInBounds_toArray, List.set_cons_zero, List.set_cons_succ]
              refine wpAnyH_take (i := 6) (oi := ⟨some 77, _, _, _, _, _⟩) (v := ?_) rfl (by kernel_rfl) (by kernel_rfl) (by kernel_rfl) (fun _ _ _ h => h) (Or.inl ⟨by rfl, ?_⟩) (by assumption) ?_
              rotate_left 1
              · (intro w hSw; (try dsimp only at hSw); go_split_ands; (try go_simp); (try with_reducible rfl))
              try simp only [Act.put, List.setIfInBounds_toArray, List.set_cons_zero, List.set_cons_succ]
              refine wpAnyH_take (i := 7) (oi := ⟨some 78, _, _, _, _, _⟩) (v := ?_) rfl (by kernel_rfl) (by kernel_rfl) (by kernel_rfl) (fun _ _ _ h => h) (Or.inl ⟨by rfl, ?_⟩) (by assumption) ?_
              rotate_left 1
              · (intro w hSw; (try dsimp only at hSw); go_split_ands; (try go_simp); (try with_reducible rfl))
              try simp only [Act.put, List.setIfInBounds_toArray, List.set_cons_zero, List.set_cons_succ]
              refine wpAnyH_take (i := 8) (oi := ⟨some 79, _, _, _, _, _⟩) (v := ?_) rfl (by kernel_rfl) (by kernel_rfl) (by kernel_rfl) (fun _ _ _ h => h) (Or.inl ⟨by rfl, ?_⟩) (by assumption) ?_
              rotate_left 1
              · (intro w hSw; (try dsimp only at hSw); go_split_ands; have hcx := HCW.out _ hSw; have hbx := World.block_lt_of_cell? _ _ hcx; (try go_simp); (try with_reducible rfl))
              try simp only [Act.put, List.setIfInBounds_toArray, List.set_cons_zero, List.set_cons_succ]
              refine wpAnyH_ready (rs := [2, 9]) (by kernel_rfl) (by simp) ?_
              refine AllReadyH.cons (o := ⟨some 73, _, _, _, _, _⟩) rfl (fun K hK => ?_) (AllReadyH.cons (o := ⟨some 80, _, _, _, _, _⟩) rfl (fun K hK => ?_) AllReadyH.nil)
              · skip
                go_simp
                have xq : Ext [] wq (wq.alloc (.cells #[.int .i64 ((next : Int) + 1)] 3)) := (Ext.refl _ _).alloc _
                have B2 := Blk.new wq 3 #[.int .i64 ((next : Int) + 1)]
                have hb2 : ∀ g, (Value.slice va l.length vc).ownBlock = some g → g ≠ wq.heap.size := fun g hg => Nat.ne_of_lt (owns_lt M.r8 hg)
                have M := M.ext xq
                try have B9 := B9.ext xq (by simp)
                have hS' := hS.trans xq
                clear xq
                first | generalize wq.heap.size = b2 at M B2 hb2 hS' B9 hb9 ⊢ | generalize wq.heap.size = b2 at M B2 hb2 hS' B9 ⊢ | generalize wq.heap.size = b2 at M B2 hb2 hS' ⊢
                first | generalize (wq.alloc (.cells #[.int .i64 ((next : Int) + 1)] 3)) = wq at M B2 B9 hS' ⊢ | generalize (wq.alloc (.cells #[.int .i64 ((next : Int) + 1)] 3)) = wq at M B2 hS' ⊢
                refine hK.out _ _ hS' (fun hS => ?_)
                clear hK K
                try simp only [Act.put, List.setIfInBounds_toArray, List.set_cons_zero, List.set_cons_succ]
                refine wpAnyH_ready (rs := [3, 9]) (by kernel_rfl) (by simp) ?_
                refine AllReadyH.cons (o := ⟨some 74, _, _, _, _, _⟩) rfl (fun K hK => ?_) (AllReadyH.cons (o := ⟨some 80, _, _, _, _, _⟩) rfl (fun K hK => ?_) AllReadyH.nil)
                · skip
                  refine step_app _ rfl (.tmp 71) (.tmp 73) 37 rfl 3 i0 _ 1 8 Try.underlying37 hi hz0 hz1 hz2 rfl (by decide) (.slice va l.length vc) l.length (l.map fun e => Value.int .i64 (e.id : Int)) rfl (by simpa using M.r8) (.slice (some ⟨b2, 0, none⟩) 1 1) 1 [.int .i64 ((next : Int) + 1)] rfl (blk_reads B2 1 rfl) (by intro u hu; simp at hu; subst hu; rfl) (by unfold maxLen; omega) (by omega) ?_
                  intro v8 w8 hown8 hgrow8 hfr8 _
                  have hS' : Ext [] w w8 := hS.grown hgrow8 (fun g hg => .inr (M.a8 g hg).1)
                  obtain ⟨M8, x8⟩ := M.grow8 (m8 := (l ++ [(⟨next + 1, b, .string s, 1⟩ : Ent)]).map fun (e : Ent) => Value.int .i64 (e.id : Int)) (by simpa using hown8) hgrow8 hfr8
                  try have B9 := B9.ext x8 (fun hm => hb9 _ (by simpa using hm) rfl)
                  have M := M8
                  clear hown8 hgrow8 hfr8 x8 M8 B2
                  first | generalize w8 = wq at M B9 hS' ⊢ | generalize w8 = wq at M hS' ⊢
                  refine hK.out _ _ hS' (fun hS => ?_)
                  clear hK K
                  try simp only [Act.put, List.setIfInBounds_toArray, List.set_cons_zero, List.set_cons_succ]
                  refine wpAnyH_ready (rs := [9]) (by kernel_rfl) (by simp) ?_
                  refine AllReadyH.cons (o := ⟨some 80, _, _, _, _, _⟩) rfl (fun K hK => ?_) AllReadyH.nil
                  go_simp
                  have xq : Ext [] wq (wq.alloc (.cells #[.string s] 9)) := (Ext.refl _ _).alloc _
                  have B9 := Blk.new wq 9 #[.string s]
                  have hb9 : ∀ g, _ = some g → g ≠ wq.heap.size := fun g hg => Nat.ne_of_lt (owns_lt M.r8 hg)
                  have M := M.ext xq
                  try have B2 := B2.ext xq (by simp)
                  have hS' := hS.trans xq
                  clear xq
                  first | generalize wq.heap.size = b9 at M B9 hb9 hS' B2 hb2 ⊢ | generalize wq.heap.size = b9 at M B9 hb9 hS' B2 ⊢ | generalize wq.heap.size = b9 at M B9 hb9 hS' ⊢
                  first | generalize (wq.alloc (.cells #[.string s] 9)) = wq at M B2 B9 hS' ⊢ | generalize (wq.alloc (.cells #[.string s] 9)) = wq at M B9 hS' ⊢
                  refine hK.out _ _ hS' (fun hS => ?_)
                  clear hK K
                  try simp only [Act.put, List.setIfInBounds_toArray, List.set_cons_zero, List.set_cons_succ]
                  refine wpAnyH_ready (rs := [10]) (by kernel_rfl) (by simp) ?_
                  refine AllReadyH.cons (o := ⟨some 81, _, _, _, _, _⟩) rfl (fun K hK => ?_) AllReadyH.nil
                  refine step_app _ rfl (.tmp 75) (.tmp 80) 36 rfl 9 j0 _ 1 16 Try.underlying36 hj hy0 hy1 hy2 rfl (by decide) u9 l.length (l.map fun e => e.x) rfl M.r9 (.slice (some ⟨b9, 0, none⟩) 1 1) 1 [.string s] rfl (blk_reads B9 1 rfl) (by intro u hu; simp at hu; subst hu; rfl) (by unfold maxLen; omega) (by omega) ?_
                  intro v9 w9 hown9 hgrow9 hfr9 _
                  have hS' : Ext [] w w9 := hS.grown hgrow9 (fun g hg => .inr (M.a9 g hg).1)
                  have I2 := (M.grow9 HAP.out HON.out HSR.out rfl (by simpa using hown9) hgrow9 hfr9).1
                  clear hown9 hgrow9 hfr9
                  refine hK.out _ _ hS' (fun hS => ?_)
                  clear hK K
                  try simp only [Act.put, List.setIfInBounds_toArray, List.set_cons_zero, List.set_cons_succ]
                  refine wpAnyH_take (i := 11) (oi := ⟨some 8, _, _, _, _, _⟩) (v := ?_) rfl (by kernel_rfl) (by kernel_rfl) (by kernel_rfl) (fun _ _ _ h => h) (Or.inl ⟨by rfl, ?_⟩) (by assumption) ?_
                  rotate_left 1
                  · (intro w hSw; (try dsimp only at hSw); go_split_ands; (try go_simp); (try with_reducible rfl))
                  try simp only [Act.put, List.setIfInBounds_toArray, List.set_cons_zero, List.set_cons_succ]
                  refine wpAnyH_take (i := 12) (oi := ⟨some 9, _, _, _, _, _⟩) (v := ?_) rfl (by kernel_rfl) (by kernel_rfl) (by kernel_rfl) (fun _ _ _ h => h) (Or.inl ⟨by rfl, ?_⟩) (by assumption) ?_
                  rotate_left 1
                  · (intro w hSw; (try dsimp only at hSw); go_split_ands; (try go_simp); (try with_reducible rfl))
                  try simp only [Act.put, List.setIfInBounds_toArray, List.set_cons_zero, List.set_cons_succ]
                  refine wpAnyH_done (by kernel_rfl) ?_ _
                  go_wp2_with fail
                  go_meet
                  exact ⟨next + 1, _, by go_num, by omega, I2, hS⟩
                · skip
                  go_simp
                  have xq : Ext [] wq (wq.alloc (.cells #[.string s] 9)) := (Ext.refl _ _).alloc _
                  have B9 := Blk.new wq 9 #[.string s]
                  have hb9 : ∀ g, _ = some g → g ≠ wq.heap.size := fun g hg => Nat.ne_of_lt (owns_lt M.r8 hg)
                  have M := M.ext xq
                  try have B2 := B2.ext xq (by simp)
                  have hS' := hS.trans xq
                  clear xq
                  first | generalize wq.heap.size = b9 at M B9 hb9 hS' B2 hb2 ⊢ | generalize wq.heap.size = b9 at M B9 hb9 hS' B2 ⊢ | generalize wq.heap.size = b9 at M B9 hb9 hS' ⊢
                  first | generalize (wq.alloc (.cells #[.string s] 9)) = wq at M B2 B9 hS' ⊢ | generalize (wq.alloc (.cells #[.string s] 9)) = wq at M B9 hS' ⊢
                  refine hK.out _ _ hS' (fun hS => ?_)
                  clear hK K
                  try simp only [Act.put, List.setIfInBounds_toArray, List.set_cons_zero, List.set_cons_succ]
                  refine wpAnyH_ready (rs := [3]) (by kernel_rfl) (by simp) ?_
                  refine AllReadyH.cons (o := ⟨some 74, _, _, _, _, _⟩) rfl (fun K hK => ?_) AllReadyH.nil
                  refine step_app _ rfl (.tmp 71) (.tmp 73) 37 rfl 3 i0 _ 1 8 Try.underlying37 hi hz0 hz1 hz2 rfl (by decide) (.slice va l.length vc) l.length (l.map fun e => Value.int .i64 (e.id : Int)) rfl (by simpa using M.r8) (.slice (some ⟨b2, 0, none⟩) 1 1) 1 [.int .i64 ((next : Int) + 1)] rfl (blk_reads B2 1 rfl) (by intro u hu; simp at hu; subst hu; rfl) (by unfold maxLen; omega) (by omega) ?_
                  intro v8 w8 hown8 hgrow8 hfr8 _
                  have hS' : Ext [] w w8 := hS.grown hgrow8 (fun g hg => .inr (M.a8 g hg).1)
                  obtain ⟨M8, x8⟩ := M.grow8 (m8 := (l ++ [(⟨next + 1, b, .string s, 1⟩ : Ent)]).map fun (e : Ent) => Value.int .i64 (e.id : Int)) (by simpa using hown8) hgrow8 hfr8
                  try have B9 := B9.ext x8 (fun hm => hb9 _ (by simpa using hm) rfl)
                  have M := M8
                  clear hown8 hgrow8 hfr8 x8 M8 B2
                  first | generalize w8 = wq at M B9 hS' ⊢ | generalize w8 = wq at M hS' ⊢
                  refine hK.out _ _ hS' (fun hS => ?_)
                  clear hK K
                  try simp only [Act.put, List.setIfInBounds_toArray, List.set_cons_zero, List.set_cons_succ]
                  refine wpAnyH_ready (rs := [10]) (by kernel_rfl) (by simp) ?_
                  refine AllReadyH.cons (o := ⟨some 81, _, _, _, _, _⟩) rfl (fun K hK => ?_) AllReadyH.nil
                  refine step_app _ rfl (.tmp 75) (.tmp 80) 36 rfl 9 j0 _ 1 16 Try.underlying36 hj hy0 hy1 hy2 rfl (by decide) u9 l.length (l.map fun e => e.x) rfl M.r9 (.slice (some ⟨b9, 0, none⟩) 1 1) 1 [.string s] rfl (blk_reads B9 1 rfl) (by intro u hu; simp at hu; subst hu; rfl) (by unfold maxLen; omega) (by omega) ?_
                  intro v9 w9 hown9 hgrow9 hfr9 _
                  have hS' : Ext [] w w9 := hS.grown hgrow9 (fun g hg => .inr (M.a9 g hg).1)
                  have I2 := (M.grow9 HAP.out HON.out HSR.out rfl (by simpa using hown9) hgrow9 hfr9).1
                  clear hown9 hgrow9 hfr9
                  refine hK.out _ _ hS' (fun hS => ?_)
                  clear hK K
                  try simp only [Act.put, List.setIfInBounds_toArray, List.set_cons_zero, List.set_cons_succ]
                  refine wpAnyH_take (i := 11) (oi := ⟨some 8, _, _, _, _, _⟩) (v := ?_) rfl (by kernel_rfl) (by kernel_rfl) (by kernel_rfl) (fun _ _ _ h => h) (Or.inl ⟨by rfl, ?_⟩) (by assumption) ?_
                  rotate_left 1
                  · (intro w hSw; (try dsimp only at hSw); go_split_ands; (try go_simp); (try with_reducible rfl))
                  try simp only [Act.put, List.setIfInBounds_toArray, List.set_cons_zero, List.set_cons_succ]
                  refine wpAnyH_take (i := 12) (oi := ⟨some 9, _, _, _, _, _⟩) (v := ?_) rfl (by kernel_rfl) (by kernel_rfl) (by kernel_rfl) (fun _ _ _ h => h) (Or.inl ⟨by rfl, ?_⟩) (by assumption) ?_
                  rotate_left 1
                  · (intro w hSw; (try dsimp only at hSw); go_split_ands; (try go_simp); (try with_reducible rfl))
                  try simp only [Act.put, List.setIfInBounds_toArray, List.set_cons_zero, List.set_cons_succ]
                  refine wpAnyH_done (by kernel_rfl) ?_ _
                  go_wp2_with fail
                  go_meet
                  exact ⟨next + 1, _, by go_num, by omega, I2, hS⟩
              · skip
                go_simp
                have xq : Ext [] wq (wq.alloc (.cells #[.string s] 9)) := (Ext.refl _ _).alloc _
                have B9 := Blk.new wq 9 #[.string s]
                have hb9 : ∀ g, _ = some g → g ≠ wq.heap.size := fun g hg => Nat.ne_of_lt (owns_lt M.r8 hg)
                have M := M.ext xq
                try have B2 := B2.ext xq (by simp)
                have hS' := hS.trans xq
                clear xq
                first | generalize wq.heap.size = b9 at M B9 hb9 hS' B2 hb2 ⊢ | generalize wq.heap.size = b9 at M B9 hb9 hS' B2 ⊢ | generalize wq.heap.size = b9 at M B9 hb9 hS' ⊢
                first | generalize (wq.alloc (.cells #[.string s] 9)) = wq at M B2 B9 hS' ⊢ | generalize (wq.alloc (.cells #[.string s] 9)) = wq at M B9 hS' ⊢
                refine hK.out _ _ hS' (fun hS => ?_)
                clear hK K
                try simp only [Act.put, List.setIfInBounds_toArray, List.set_cons_zero, List.set_cons_succ]
                refine wpAnyH_ready (rs := [2]) (by kernel_rfl) (by simp) ?_
                refine AllReadyH.cons (o := ⟨some 73, _, _, _, _, _⟩) rfl (fun K hK => ?_) AllReadyH.nil
                go_simp
                have xq : Ext [] wq (wq.alloc (.cells #[.int .i64 ((next : Int) + 1)] 3)) := (Ext.refl _ _).alloc _
                have B2 := Blk.new wq 3 #[.int .i64 ((next : Int) + 1)]
                have hb2 : ∀ g, (Value.slice va l.length vc).ownBlock = some g → g ≠ wq.heap.size := fun g hg => Nat.ne_of_lt (owns_lt M.r8 hg)
                have M := M.ext xq
                try have B9 := B9.ext xq (by simp)
                have hS' := hS.trans xq
                clear xq
                first | generalize wq.heap.size = b2 at M B2 hb2 hS' B9 hb9 ⊢ | generalize wq.heap.size = b2 at M B2 hb2 hS' B9 ⊢ | generalize wq.heap.size = b2 at M B2 hb2 hS' ⊢
                first | generalize (wq.alloc (.cells #[.int .i64 ((next : Int) + 1)] 3)) = wq at M B2 B9 hS' ⊢ | generalize (wq.alloc (.cells #[.int .i64 ((next : Int) + 1)] 3)) = wq at M B2 hS' ⊢
                refine hK.out _ _ hS' (fun hS => ?_)
                clear hK K
                try simp only [Act.put, List.setIfInBounds_toArray, List.set_cons_zero, List.set_cons_succ]
                refine wpAnyH_ready (rs := [3]) (by kernel_rfl) (by simp) ?_
                refine AllReadyH.cons (o := ⟨some 74, _, _, _, _, _⟩) rfl (fun K hK => ?_) AllReadyH.nil
                refine step_app _ rfl (.tmp 71) (.tmp 73) 37 rfl 3 i0 _ 1 8 Try.underlying37 hi hz0 hz1 hz2 rfl (by decide) (.slice va l.length vc) l.length (l.map fun e => Value.int .i64 (e.id : Int)) rfl (by simpa using M.r8) (.slice (some ⟨b2, 0, none⟩) 1 1) 1 [.int .i64 ((next : Int) + 1)] rfl (blk_reads B2 1 rfl) (by intro u hu; simp at hu; subst hu; rfl) (by unfold maxLen; omega) (by omega) ?_
                intro v8 w8 hown8 hgrow8 hfr8 _
                have hS' : Ext [] w w8 := hS.grown hgrow8 (fun g hg => .inr (M.a8 g hg).1)
                obtain ⟨M8, x8⟩ := M.grow8 (m8 := (l ++ [(⟨next + 1, b, .string s, 1⟩ : Ent)]).map fun (e : Ent) => Value.int .i64 (e.id : Int)) (by simpa using hown8) hgrow8 hfr8
                try have B9 := B9.ext x8 (fun hm => hb9 _ (by simpa using hm) rfl)
                have M := M8
                clear hown8 hgrow8 hfr8 x8 M8 B2
                first | generalize w8 = wq at M B9 hS' ⊢ | generalize w8 = wq at M hS' ⊢
                refine hK.out _ _ hS' (fun hS => ?_)
                clear hK K
                try simp only [Act.put, List.setIfInBounds_toArray, List.set_cons_zero, List.set_cons_succ]
                refine wpAnyH_ready (rs := [10]) (by kernel_rfl) (by simp) ?_
                refine AllReadyH.cons (o := ⟨some 81, _, _, _, _, _⟩) rfl (fun K hK => ?_) AllReadyH.nil
                refine step_app _ rfl (.tmp 75) (.tmp 80) 36 rfl 9 j0 _ 1 16 Try.underlying36 hj hy0 hy1 hy2 rfl (by decide) u9 l.length (l.map fun e => e.x) rfl M.r9 (.slice (some ⟨b9, 0, none⟩) 1 1) 1 [.string s] rfl (blk_reads B9 1 rfl) (by intro u hu; simp at hu; subst hu; rfl) (by unfold maxLen; omega) (by omega) ?_
                intro v9 w9 hown9 hgrow9 hfr9 _
                have hS' : Ext [] w w9 := hS.grown hgrow9 (fun g hg => .inr (M.a9 g hg).1)
                have I2 := (M.grow9 HAP.out HON.out HSR.out rfl (by simpa using hown9) hgrow9 hfr9).1
                clear hown9 hgrow9 hfr9
                refine hK.out _ _ hS' (fun hS => ?_)
                clear hK K
                try simp only [Act.put, List.setIfInBounds_toArray, List.set_cons_zero, List.set_cons_succ]
                refine wpAnyH_take (i := 11) (oi := ⟨some 8, _, _, _, _, _⟩) (v := ?_) rfl (by kernel_rfl) (by kernel_rfl) (by kernel_rfl) (fun _ _ _ h => h) (Or.inl ⟨by rfl, ?_⟩) (by assumption) ?_
                rotate_left 1
                · (intro w hSw; (try dsimp only at hSw); go_split_ands; (try go_simp); (try with_reducible rfl))
                try simp only [Act.put, List.setIfInBounds_toArray, List.set_cons_zero, List.set_cons_succ]
                refine wpAnyH_take (i := 12) (oi := ⟨some 9, _, _, _, _, _⟩) (v := ?_) rfl (by kernel_rfl) (by kernel_rfl) (by kernel_rfl) (fun _ _ _ h => h) (Or.inl ⟨by rfl, ?_⟩) (by assumption) ?_
                rotate_left 1
                · (intro w hSw; (try dsimp only at hSw); go_split_ands; (try go_simp); (try with_reducible rfl))
                try simp only [Act.put, List.setIfInBounds_toArray, List.set_cons_zero, List.set_cons_succ]
                refine wpAnyH_done (by kernel_rfl) ?_ _
                go_wp2_with fail
                go_meet
                exact ⟨next + 1, _, by go_num, by omega, I2, hS⟩
          case rest =>
            clear DJ x3 I hap x HCW
            obtain ⟨n', l', rfl, hn', I, x⟩ := hcut
            rename_i KK aK
            refine aK _ _ ?_
            refine num_tail bt bm n' k len1 cap1 a1 z1 l' _ _ w wc x HR1W.out hk30 I _ (by kernel_rfl) _ _ _ _ _ _ _ _ _ _ _ _ _ _ _ _ _ _ _ _ _ _ _ _ _ _ _ _ _ _ _ _ _ _ _ _ _ _ _ _ _ _ _ _ _ _ _ _ _ _ _ _ _ _ _ _ _ _ _ _ _ _ _ _ _ _ _ _ _ _ _ _ _ _ _ _ _ _ _ _ _ _ _ _ _ _ _ _ _ _ _ _ _ _ _ _ _ _ _ _ _ _ _ _ _ _ _ _ _ _ _ _ _ _ _ _ _ _ _ _ _ _ _ _ _ _ _ _ _ _ _ _ _ _ _ _ _ _ _ _ _ _ _ _ _ _ _ _ _ _ _ _ _ _ _ _ _ _ _ _ _ _ _ _ _ _ _ _ _ _ _ _ _ _ _ _ _ _ _ _ _ _ _ _ (fun _ _ _ _ _ h => h) ?_
            intro l2 v8 v9 s4 s13 s14 s15 s16 s17 s18 s19 s20 s82 s83 s84 s85 s86 s87 s88 s89 s90 s91 s92 s93 s94 s95 s96 s97 s98 s99 s100 s101 s102 s103 s104 s105 s106 s107 s108 s109 s110 s111 s112 s113 s114 s115 s116 s117 s118 s119 s120 s121 s122 s123 s124 s125 s126 s127 s128 s129 s130 s131 s132 s133 s134 s135 s136 s137 s138 s139 s140 s141 s142 s143 s144 s145 s146 s147 s148 s149 s150 s151 s152 s153 s154 s155 s156 s157 s158 s159 s160 s161 s162 s163 s164 s165 s166 s167 s168 s169 s170 s171 s172 s173 s174 s175 s176 s177 s178 s179 s180 s181 w' I2 x'
            clear I x
            go_wp2_with fail
            go_roundw
            case rel => exact ⟨k + 1, n', l2, by go_num, rfl, by omega, by omega, by omega, I2, x'⟩
            case measure => simp [intOf]; omega
    · obtain ⟨vb, vd, rfl⟩ := owns_slice I.r9
      have ht := I.o.t.cell 2
      simp only [List.getElem?_cons_succ, List.getElem?_cons_zero] at ht
      have HLV := Lib.hid (live_str bt bm (l.map Ent.pair) wr ht I.o.m (by rw [List.length_map]; omega) (fun p hp => by
        obtain ⟨e, he, rfl⟩ := List.mem_map.1 hp
        have := I.o.top e he
        have := I.o.nx
        show (Lit.int .i64 (e.id : Int)).wf = true
        exact WalkArith.wf_i64 (by omega)) (by
        rw [List.map_map]
        refine List.pairwise_map.2 (I.o.ids.imp fun h => ?_)
        simp [Ent.pair]; omega))
      have HLE := Lib.hid (show (l.map Ent.pair).length = l.length from List.length_map _)
      clear I ht
      rcases (show ¬ k < ss.length ∨ (k < ss.length ∧ ¬ k < 30) by omega) with h1 | ⟨h1, h2⟩
      all_goals
        clear hlt
        go_wp2_with fail
        refine HLV.out.mono ?_
        rintro e w2 ⟨v, rfl, hown, x2⟩
        rw [HLE.out] at hown
        obtain ⟨ua, uc, rfl⟩ := owns_slice hown
        clear hown HLV
        go_wp2_with fail
        go_ret
        exact ⟨rfl, x.trans x2⟩
end Go.Proofs.Ytknghmogfbpclaa
