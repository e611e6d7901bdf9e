/- Package insn: Of: an operation's parts. -/
import Derived.Test.YtbjkfgfiifnjoaaDoorOfA
import Derived.Test.YtbjkfgfiifnjoaaDoorOfJ
import Derived.Test.YtbjkfgfiifnjoaaDoorOfM
namespace Go.Proofs.YtbjkfgfiifnjoaaDoor
open Go.RowKit
set_option maxRecDepth 100000

set_option maxHeartbeats 8000000 in
set_option maxRecDepth 100000 in
theorem of_any (n : Nat) (hn : n < 256) (w : World) :
    Calls Tryd.prog 81 #[.int .u8 (n : Int)] w fun e w' => e = .returned (.agg (partsN n).cells.toArray) ∧ Ext [] w w' := by
  have h7 := and7 n hn
  have hA := Lib.hid (show partsN n = if n % 8 = 4 ∨ n % 8 = 7 then aluN n else if n % 8 = 5 ∨ n % 8 = 6 then jumpN n else if n % 8 = 0 then (if n = 24 then ⟨9, 0, 8, false, false⟩ else if n = 0 then ⟨10, 0, 0, false, false⟩ else noPrt) else memN n from rfl)
  have HC1 := Lib.hid (fun w' h => alu_any n hn w' h)
  have HC2 := Lib.hid (fun w' h => jump_any n hn w' h)
  have HC3 := Lib.hid (fun w' h => mem_any n hn w' h)
  have hr : n % 8 = 0 ∨ n % 8 = 1 ∨ n % 8 = 2 ∨ n % 8 = 3 ∨ n % 8 = 4 ∨ n % 8 = 5 ∨ n % 8 = 6 ∨ n % 8 = 7 := by omega
  have hk : ∀ p : Prt, ∃ a b c d e, p.cells = [a, b, c, d, e] := fun p => ⟨_, _, _, _, _, rfl⟩
  rcases hr with hr | hr | hr | hr | hr | hr | hr | hr
  all_goals
    rw [hr] at h7 hA
    push_cast at h7
  · by_cases h24 : n = 24
    · subst h24
      go_enter Tryd.func81, Tryd.ntmps81
      go_wp2_with fail
      refine bodyPost_ret (v := .agg (partsN 24).cells.toArray) ?_ rfl ⟨rfl, ?_⟩
      · rw [hA.out]
        simp [results, Tryd.results81, go_sem, Prt.cells]
      · repeat (first | exact Ext.refl _ _ | apply Ext.drew | apply Ext.alloc | (refine Ext.setCell ?_ (.inr (by simp; done)) _) | (refine Ext.setCell ?_ (.inr (by simp; omega)) _))
    · by_cases h0 : n = 0
      · subst h0
        go_enter Tryd.func81, Tryd.ntmps81
        go_wp2_with fail
        refine bodyPost_ret (v := .agg (partsN 0).cells.toArray) ?_ rfl ⟨rfl, ?_⟩
        · rw [hA.out]
          simp [results, Tryd.results81, go_sem, Prt.cells]
        · repeat (first | exact Ext.refl _ _ | apply Ext.drew | apply Ext.alloc | (refine Ext.setCell ?_ (.inr (by simp; done)) _) | (refine Ext.setCell ?_ (.inr (by simp; omega)) _))
      · have hb0 : ((n : Int) == 0) = false := by rw [beq_eq_false_iff_ne]; omega
        have hb24 : ((n : Int) == 24) = false := by rw [beq_eq_false_iff_ne]; omega
        go_enter Tryd.func81, Tryd.ntmps81
        go_wp2_with fail
        refine bodyPost_ret (v := .agg (partsN n).cells.toArray) ?_ rfl ⟨rfl, ?_⟩
        · rw [hA.out]
          simp [results, Tryd.results81, go_sem, noPrt, Prt.cells, h24, h0]
        · repeat (first | exact Ext.refl _ _ | apply Ext.drew | apply Ext.alloc | (refine Ext.setCell ?_ (.inr (by simp; done)) _) | (refine Ext.setCell ?_ (.inr (by simp; omega)) _))
  · have HN := Lib.hid (show partsN n = memN n from hA.out)
    go_enter Tryd.func81, Tryd.ntmps81
    go_wp2_with fail
    refine (HC3.out _ (by omega)).mono ?_
    rintro e w2 ⟨rfl, x2⟩
    have B := (Blk.new w 169 #[.int .i64 0, .int .i64 0, .int .i64 0, .bool false, .bool false]).ext x2 (by simp)
    have x1 : Ext [] w (w.alloc (.cells #[.int .i64 0, .int .i64 0, .int .i64 0, .bool false, .bool false] 169)) := (Ext.refl _ _).alloc _
    have hOl : (memN n).cells.length = 5 := rfl
    have hob : ∀ u ∈ (memN n).cells, u.oneCell' = true := by intro u hu; simp [Prt.cells] at hu; rcases hu with rfl | rfl | rfl | rfl | rfl <;> rfl
    obtain ⟨ov, hov⟩ : ∃ ov, ov = (memN n).cells := ⟨_, rfl⟩
    rw [← hov] at hOl hob ⊢
    have HOV := Lib.hid hov
    clear hov
    go_wp2_with fail
    refine upon_strow w.heap.size 0 169 _ ov B (by rw [hOl]; simp) hob ?_
    intro w9 H9 x9 _
    have e9 : ∀ l : List Value, l.length = 5 → l.take 0 ++ ov ++ l.drop (0 + ov.length) = ov := by
      intro l hl; rw [hOl, List.take_zero, List.nil_append, List.drop_of_length_le (by omega), List.append_nil]
    have H9' : Blk w9 w.heap.size 169 ov := (e9 [.int .i64 0, .int .i64 0, .int .i64 0, .bool false, .bool false] rfl) ▸ H9
    go_wp2_with fail
    refine bodyPost_ret (results_blk Tryd.results81 _ _ w.heap.size 169 ov _ rfl H9' Tryd.underlying169 rfl (by rw [hOl]; kernel_rfl)) rfl ?_
    exact ⟨by rw [HN.out, HOV.out], (x1.trans x2).trans' x9 (by simp)⟩
  · have HN := Lib.hid (show partsN n = memN n from hA.out)
    go_enter Tryd.func81, Tryd.ntmps81
    go_wp2_with fail
    refine (HC3.out _ (by omega)).mono ?_
    rintro e w2 ⟨rfl, x2⟩
    have B := (Blk.new w 169 #[.int .i64 0, .int .i64 0, .int .i64 0, .bool false, .bool false]).ext x2 (by simp)
    have x1 : Ext [] w (w.alloc (.cells #[.int .i64 0, .int .i64 0, .int .i64 0, .bool false, .bool false] 169)) := (Ext.refl _ _).alloc _
    have hOl : (memN n).cells.length = 5 := rfl
    have hob : ∀ u ∈ (memN n).cells, u.oneCell' = true := by intro u hu; simp [Prt.cells] at hu; rcases hu with rfl | rfl | rfl | rfl | rfl <;> rfl
    obtain ⟨ov, hov⟩ : ∃ ov, ov = (memN n).cells := ⟨_, rfl⟩
    rw [← hov] at hOl hob ⊢
    have HOV := Lib.hid hov
    clear hov
    go_wp2_with fail
    refine upon_strow w.heap.size 0 169 _ ov B (by rw [hOl]; simp) hob ?_
    intro w9 H9 x9 _
    have e9 : ∀ l : List Value, l.length = 5 → l.take 0 ++ ov ++ l.drop (0 + ov.length) = ov := by
      intro l hl; rw [hOl, List.take_zero, List.nil_append, List.drop_of_length_le (by omega), List.append_nil]
    have H9' : Blk w9 w.heap.size 169 ov := (e9 [.int .i64 0, .int .i64 0, .int .i64 0, .bool false, .bool false] rfl) ▸ H9
    go_wp2_with fail
    refine bodyPost_ret (results_blk Tryd.results81 _ _ w.heap.size 169 ov _ rfl H9' Tryd.underlying169 rfl (by rw [hOl]; kernel_rfl)) rfl ?_
    exact ⟨by rw [HN.out, HOV.out], (x1.trans x2).trans' x9 (by simp)⟩
  · have HN := Lib.hid (show partsN n = memN n from hA.out)
    go_enter Tryd.func81, Tryd.ntmps81
    go_wp2_with fail
    refine (HC3.out _ (by omega)).mono ?_
    rintro e w2 ⟨rfl, x2⟩
    have B := (Blk.new w 169 #[.int .i64 0, .int .i64 0, .int .i64 0, .bool false, .bool false]).ext x2 (by simp)
    have x1 : Ext [] w (w.alloc (.cells #[.int .i64 0, .int .i64 0, .int .i64 0, .bool false, .bool false] 169)) := (Ext.refl _ _).alloc _
    have hOl : (memN n).cells.length = 5 := rfl
    have hob : ∀ u ∈ (memN n).cells, u.oneCell' = true := by intro u hu; simp [Prt.cells] at hu; rcases hu with rfl | rfl | rfl | rfl | rfl <;> rfl
    obtain ⟨ov, hov⟩ : ∃ ov, ov = (memN n).cells := ⟨_, rfl⟩
    rw [← hov] at hOl hob ⊢
    have HOV := Lib.hid hov
    clear hov
    go_wp2_with fail
    refine upon_strow w.heap.size 0 169 _ ov B (by rw [hOl]; simp) hob ?_
    intro w9 H9 x9 _
    have e9 : ∀ l : List Value, l.length = 5 → l.take 0 ++ ov ++ l.drop (0 + ov.length) = ov := by
      intro l hl; rw [hOl, List.take_zero, List.nil_append, List.drop_of_length_le (by omega), List.append_nil]
    have H9' : Blk w9 w.heap.size 169 ov := (e9 [.int .i64 0, .int .i64 0, .int .i64 0, .bool false, .bool false] rfl) ▸ H9
    go_wp2_with fail
    refine bodyPost_ret (results_blk Tryd.results81 _ _ w.heap.size 169 ov _ rfl H9' Tryd.underlying169 rfl (by rw [hOl]; kernel_rfl)) rfl ?_
    exact ⟨by rw [HN.out, HOV.out], (x1.trans x2).trans' x9 (by simp)⟩
  · have HN := Lib.hid (show partsN n = aluN n from hA.out)
    go_enter Tryd.func81, Tryd.ntmps81
    go_wp2_with fail
    refine (HC1.out _ (by omega)).mono ?_
    rintro e w2 ⟨rfl, x2⟩
    have B := (Blk.new w 169 #[.int .i64 0, .int .i64 0, .int .i64 0, .bool false, .bool false]).ext x2 (by simp)
    have x1 : Ext [] w (w.alloc (.cells #[.int .i64 0, .int .i64 0, .int .i64 0, .bool false, .bool false] 169)) := (Ext.refl _ _).alloc _
    have hOl : (aluN n).cells.length = 5 := rfl
    have hob : ∀ u ∈ (aluN n).cells, u.oneCell' = true := by intro u hu; simp [Prt.cells] at hu; rcases hu with rfl | rfl | rfl | rfl | rfl <;> rfl
    obtain ⟨ov, hov⟩ : ∃ ov, ov = (aluN n).cells := ⟨_, rfl⟩
    rw [← hov] at hOl hob ⊢
    have HOV := Lib.hid hov
    clear hov
    go_wp2_with fail
    refine upon_strow w.heap.size 0 169 _ ov B (by rw [hOl]; simp) hob ?_
    intro w9 H9 x9 _
    have e9 : ∀ l : List Value, l.length = 5 → l.take 0 ++ ov ++ l.drop (0 + ov.length) = ov := by
      intro l hl; rw [hOl, List.take_zero, List.nil_append, List.drop_of_length_le (by omega), List.append_nil]
    have H9' : Blk w9 w.heap.size 169 ov := (e9 [.int .i64 0, .int .i64 0, .int .i64 0, .bool false, .bool false] rfl) ▸ H9
    go_wp2_with fail
    refine bodyPost_ret (results_blk Tryd.results81 _ _ w.heap.size 169 ov _ rfl H9' Tryd.underlying169 rfl (by rw [hOl]; kernel_rfl)) rfl ?_
    exact ⟨by rw [HN.out, HOV.out], (x1.trans x2).trans' x9 (by simp)⟩
  · have HN := Lib.hid (show partsN n = jumpN n from hA.out)
    go_enter Tryd.func81, Tryd.ntmps81
    go_wp2_with fail
    refine (HC2.out _ (by omega)).mono ?_
    rintro e w2 ⟨rfl, x2⟩
    have B := (Blk.new w 169 #[.int .i64 0, .int .i64 0, .int .i64 0, .bool false, .bool false]).ext x2 (by simp)
    have x1 : Ext [] w (w.alloc (.cells #[.int .i64 0, .int .i64 0, .int .i64 0, .bool false, .bool false] 169)) := (Ext.refl _ _).alloc _
    have hOl : (jumpN n).cells.length = 5 := rfl
    have hob : ∀ u ∈ (jumpN n).cells, u.oneCell' = true := by intro u hu; simp [Prt.cells] at hu; rcases hu with rfl | rfl | rfl | rfl | rfl <;> rfl
    obtain ⟨ov, hov⟩ : ∃ ov, ov = (jumpN n).cells := ⟨_, rfl⟩
    rw [← hov] at hOl hob ⊢
    have HOV := Lib.hid hov
    clear hov
    go_wp2_with fail
    refine upon_strow w.heap.size 0 169 _ ov B (by rw [hOl]; simp) hob ?_
    intro w9 H9 x9 _
    have e9 : ∀ l : List Value, l.length = 5 → l.take 0 ++ ov ++ l.drop (0 + ov.length) = ov := by
      intro l hl; rw [hOl, List.take_zero, List.nil_append, List.drop_of_length_le (by omega), List.append_nil]
    have H9' : Blk w9 w.heap.size 169 ov := (e9 [.int .i64 0, .int .i64 0, .int .i64 0, .bool false, .bool false] rfl) ▸ H9
    go_wp2_with fail
    refine bodyPost_ret (results_blk Tryd.results81 _ _ w.heap.size 169 ov _ rfl H9' Tryd.underlying169 rfl (by rw [hOl]; kernel_rfl)) rfl ?_
    exact ⟨by rw [HN.out, HOV.out], (x1.trans x2).trans' x9 (by simp)⟩
  · have HN := Lib.hid (show partsN n = jumpN n from hA.out)
    go_enter Tryd.func81, Tryd.ntmps81
    go_wp2_with fail
    refine (HC2.out _ (by omega)).mono ?_
    rintro e w2 ⟨rfl, x2⟩
    have B := (Blk.new w 169 #[.int .i64 0, .int .i64 0, .int .i64 0, .bool false, .bool false]).ext x2 (by simp)
    have x1 : Ext [] w (w.alloc (.cells #[.int .i64 0, .int .i64 0, .int .i64 0, .bool false, .bool false] 169)) := (Ext.refl _ _).alloc _
    have hOl : (jumpN n).cells.length = 5 := rfl
    have hob : ∀ u ∈ (jumpN n).cells, u.oneCell' = true := by intro u hu; simp [Prt.cells] at hu; rcases hu with rfl | rfl | rfl | rfl | rfl <;> rfl
    obtain ⟨ov, hov⟩ : ∃ ov, ov = (jumpN n).cells := ⟨_, rfl⟩
    rw [← hov] at hOl hob ⊢
    have HOV := Lib.hid hov
    clear hov
    go_wp2_with fail
    refine upon_strow w.heap.size 0 169 _ ov B (by rw [hOl]; simp) hob ?_
    intro w9 H9 x9 _
    have e9 : ∀ l : List Value, l.length = 5 → l.take 0 ++ ov ++ l.drop (0 + ov.length) = ov := by
      intro l hl; rw [hOl, List.take_zero, List.nil_append, List.drop_of_length_le (by omega), List.append_nil]
    have H9' : Blk w9 w.heap.size 169 ov := (e9 [.int .i64 0, .int .i64 0, .int .i64 0, .bool false, .bool false] rfl) ▸ H9
    go_wp2_with fail
    refine bodyPost_ret (results_blk Tryd.results81 _ _ w.heap.size 169 ov _ rfl H9' Tryd.underlying169 rfl (by rw [hOl]; kernel_rfl)) rfl ?_
    exact ⟨by rw [HN.out, HOV.out], (x1.trans x2).trans' x9 (by simp)⟩
  · have HN := Lib.hid (show partsN n = aluN n from hA.out)
    go_enter Tryd.func81, Tryd.ntmps81
    go_wp2_with fail
    refine (HC1.out _ (by omega)).mono ?_
    rintro e w2 ⟨rfl, x2⟩
    have B := (Blk.new w 169 #[.int .i64 0, .int .i64 0, .int .i64 0, .bool false, .bool false]).ext x2 (by simp)
    have x1 : Ext [] w (w.alloc (.cells #[.int .i64 0, .int .i64 0, .int .i64 0, .bool false, .bool false] 169)) := (Ext.refl _ _).alloc _
    have hOl : (aluN n).cells.length = 5 := rfl
    have hob : ∀ u ∈ (aluN n).cells, u.oneCell' = true := by intro u hu; simp [Prt.cells] at hu; rcases hu with rfl | rfl | rfl | rfl | rfl <;> rfl
    obtain ⟨ov, hov⟩ : ∃ ov, ov = (aluN n).cells := ⟨_, rfl⟩
    rw [← hov] at hOl hob ⊢
    have HOV := Lib.hid hov
    clear hov
    go_wp2_with fail
    refine upon_strow w.heap.size 0 169 _ ov B (by rw [hOl]; simp) hob ?_
    intro w9 H9 x9 _
    have e9 : ∀ l : List Value, l.length = 5 → l.take 0 ++ ov ++ l.drop (0 + ov.length) = ov := by
      intro l hl; rw [hOl, List.take_zero, List.nil_append, List.drop_of_length_le (by omega), List.append_nil]
    have H9' : Blk w9 w.heap.size 169 ov := (e9 [.int .i64 0, .int .i64 0, .int .i64 0, .bool false, .bool false] rfl) ▸ H9
    go_wp2_with fail
    refine bodyPost_ret (results_blk Tryd.results81 _ _ w.heap.size 169 ov _ rfl H9' Tryd.underlying169 rfl (by rw [hOl]; kernel_rfl)) rfl ?_
    exact ⟨by rw [HN.out, HOV.out], (x1.trans x2).trans' x9 (by simp)⟩
end Go.Proofs.YtbjkfgfiifnjoaaDoor
