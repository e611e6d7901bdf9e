/- Package bmap: New of a Hash, of an LRU; little. -/
import Derived.Test.YtbjkfgfiifnjoaaDoorBmF
namespace Go.Proofs.YtbjkfgfiifnjoaaDoor
open Go.RowKit
set_option maxRecDepth 100000

def specV (t : Int) : Value := .agg #[.int .i64 t, .int .i64 4, .int .i64 2, .int .i64 8]
theorem bm_check (t : Int) (ht : t = 0 ∨ t = 1 ∨ t = 2) (w : World) : Calls Tryd.prog 53 #[specV t] w fun e w' => e = .returned (.int .i64 0) ∧ Ext [] w w' := by
  rcases ht with rfl | rfl | rfl
  all_goals
    unfold specV
    go_enter Tryd.func53, Tryd.ntmps53
    go_wp2
    go_ret
    exact ⟨rfl, (Ext.refl _ _).alloc _⟩

def NewPost (w : World) (t : Int) (c : Nat → Option (UInt8 × UInt8)) (e : Ending) (w' : World) : Prop :=
  ∃ b F, e = .returned (.tuple #[.pointer (some ⟨b, 0, none⟩), .int .i64 0]) ∧ MapC w' b t F c 0 ∧ Ext [] w w' ∧ (∀ g ∈ F, w.heap.size ≤ g) ∧ b ∈ F

theorem bm_new12 (t : Int) (ht : t = 1 ∨ t = 2) (w : World) : Calls Tryd.prog 16 #[specV t] w fun e w' => NewPost w t (fun _ => none) e w' := by
  have HCK := Lib.hid (fun w => bm_check t (.inr ht) w)
  have ht0 : (t == 0) = false := by rcases ht with rfl | rfl <;> rfl
  clear ht
  unfold specV at *
  go_enter Tryd.func16, Tryd.ntmps16
  go_upto_region 1 with (fail)
  have BS := Blk.new w 50 #[.int .i64 t, .int .i64 4, .int .i64 2, .int .i64 8]
  have x1 : Ext [] w (w.alloc (.cells #[.int .i64 t, .int .i64 4, .int .i64 2, .int .i64 8] 50)) := (Ext.refl _ _).alloc _
  generalize w.alloc (.cells #[.int .i64 t, .int .i64 4, .int .i64 2, .int .i64 8] 50) = w1 at *
  have HWS := Lib.hid x1.size
  obtain ⟨bs, hbs⟩ : ∃ n, n = w.heap.size := ⟨_, rfl⟩
  rw [← hbs] at BS ⊢
  clear hbs
  have s0 := BS.cell 0
  have s1 := BS.cell 1
  have s2 := BS.cell 2
  have s3 := BS.cell 3
  have hsl := BS.lt
  simp only [List.getElem?_cons_succ, List.getElem?_cons_zero] at s0 s1 s2 s3
  go_wp2_with fail
  refine (HCK.out w1).mono ?_
  rintro e w2 ⟨rfl, x2⟩
  clear s0 s1 s2 s3 hsl
  have B2 := BS.ext x2 (by simp)
  have s0 := B2.cell 0
  have s1 := B2.cell 1
  have s2 := B2.cell 2
  have s3 := B2.cell 3
  have hsl := B2.lt
  simp only [List.getElem?_cons_succ, List.getElem?_cons_zero] at s0 s1 s2 s3
  have y2 := x1.trans x2
  have HS2 := Lib.hid x2.size
  go_wp2_with fail
  go_ret2
  refine ⟨w2.heap.size, [w2.heap.size], rfl, ⟨.slice none 0 0, 0, [], ⟨Blk.new w2 _ #[_, _, _, _, _, _, _], World.ownsRow_nil _ _ _ _, by simp, by simp, by simp, List.Pairwise.nil, by simp, List.Pairwise.nil⟩, by simp [foot, Value.ownBlock], rfl, Nat.le_refl _⟩, y2.alloc _, ?_, by simp⟩
  intro g hg
  simp at hg
  have h1 := HWS.out
  have h2 := HS2.out
  omega

set_option maxHeartbeats 4000000 in
theorem bm_little (n : Nat) (hn : n < 8) (w : World) : Calls Tryd.prog 54 #[.int .i64 (n : Int)] w fun e w' => BytesPost w (keyB4 n) e w' := by
  obtain ⟨i0, hi, hz0, hz1, hz2⟩ := info_parts info_byte
  have d1 : (n : Int) / 256 = 0 := by omega
  have d2 : (n : Int) / 65536 = 0 := by omega
  have d3 : (n : Int) / 16777216 = 0 := by omega
  have u0 : IntKind.u8.wrap (n : Int) = (n : Int) := by simp [IntKind.wrap, IntKind.bits, IntKind.signed]; omega
  have HB := Lib.hid (show bytesV (keyB4 n) = [.int .u8 (n : Int), .int .u8 0, .int .u8 0, .int .u8 0] from by
    unfold keyB4 bytesV
    simp
    omega)
  go_enter Tryd.func54, Tryd.ntmps54
  go_wp2_with fail
  go_loopw [3, 5] (fun v i wr => ∃ j : Nat, j ≤ 4 ∧ i = .int .i64 (j : Int) ∧ wr.ownsRow 0 5 1 v j ([Value.int .u8 (n : Int), .int .u8 0, .int .u8 0, .int .u8 0].take j) ∧ Ext [] w wr ∧ ∀ g, v.ownBlock = some g → w.heap.size ≤ g) (fun _ i _ => 4 - (intOf i).toNat)
  case atStart => exact ⟨0, by omega, rfl, World.ownsRow_nil _ _ _ _, Ext.refl _ _, fun g h => by cases h⟩
  case round =>
    obtain ⟨j, hj, rfl, hown, x, fr⟩ := hrel
    obtain ⟨va, vc, rfl⟩ := owns_slice hown
    by_cases hlt : j < 4
    · have hxs := x.size
      rcases (show j = 0 ∨ j = 1 ∨ j = 2 ∨ j = 3 by omega) with rfl | rfl | rfl | rfl
      all_goals
        go_wp2_with (at_builtin; go_must (refine wpList_app _ rfl (.tmp 8) (.tmp 14) 39 rfl 5 i0 _ 1 1 Tryd.underlying39 hi hz0 hz1 hz2 rfl (by decide) _ _ _ rfl (owns_ext hown ((Ext.refl [] wr).alloc _) (by simp)) (.slice (some ⟨wr.heap.size, 0, none⟩) 1 1) 1 _ rfl (blk_reads (Blk.new wr _ _) 1 rfl) (by intro u hu; simp at hu; subst hu; rfl) (by unfold maxLen; omega) (by omega) ?_); intro v3 w3 hown3 hgrow3 hfr3 _)
        go_roundw
        case rel =>
          have hX : Ext [] w w3 := (x.alloc _).grown hgrow3 (fun k hk => .inr (fr k hk))
          have hY : ∀ g, v3.ownBlock = some g → w.heap.size ≤ g := by
            intro g hg
            rcases hfr3 with e | ⟨g', e, hle⟩
            · exact fr g (e.symm.trans hg)
            · rw [e] at hg; cases hg
              simp at hle
              omega
          first
            | exact ⟨1, by omega, by go_num, by simpa using hown3, hX, hY⟩
            | exact ⟨2, by omega, by go_num, by simpa using hown3, hX, hY⟩
            | exact ⟨3, by omega, by go_num, by simpa using hown3, hX, hY⟩
            | exact ⟨4, by omega, by go_num, by simpa using hown3, hX, hY⟩
        case measure => simp [intOf]
    · obtain rfl : j = 4 := by omega
      go_wp2_with fail
      go_ret
      refine ⟨_, rfl, ?_, x, fr⟩
      rw [HB.out]
      exact hown
end Go.Proofs.YtbjkfgfiifnjoaaDoor
