/- The laws of layer 5: ShapeLongs, ShapeJumps. -/
import Derived.Test.YtoliimnmgppkjaaShT
namespace Go.Proofs.Ytoliimnmgppkjaa
open Go.RowKit

theorem oneX_A (nxt prv : Option Ins) : oneX insA nxt prv = true := by kernel_rfl
theorem oneX_B (nxt prv : Option Ins) : oneX insB nxt prv = true := by kernel_rfl
theorem kind_A : kindM insA = 1 := by decide +kernel
theorem kind_B : kindM insB = 5 := by decide +kernel

theorem longs_at (m j : Nat) (hj : j < m + 1) : (List.replicate m insA ++ [insB])[j]? = some (if j < m then insA else insB) := by
  by_cases h : j < m
  · rw [if_pos h, List.getElem?_append_left (by simpa using h)]
    simp [h]
  · rw [if_neg h, List.getElem?_append_right (by simp; omega)]
    have : j = m := by omega
    subst this
    simp

theorem long_check (m : Nat) : checkM (List.replicate m insA ++ [insB]) = if m + 1 ≤ 256 then (0, 0) else (0, 7) := by
  have hl : (List.replicate m insA ++ [insB]).length = m + 1 := by simp
  unfold checkM
  rw [hl]
  by_cases h : m + 1 ≤ 256
  · rw [if_pos h, if_neg (by omega), if_neg (by omega), firstBad_none, firstBad_none]
    · have hlast : lastM (List.replicate m insA ++ [insB]) = true := by
        unfold lastM
        rw [hl, show m + 1 - 1 = m by omega, longs_at m m (by omega), if_neg (by omega)]
        simp only
        rw [kind_B]; rfl
      rw [hlast]; rfl
    · intro j hj
      unfold landsM
      rw [longs_at m j hj]
      by_cases hjm : j < m
      · rw [if_pos hjm]; simp only; rw [kind_A]; rfl
      · rw [if_neg hjm]; simp only; rw [kind_B]; rfl
    · intro j hj
      unfold oneM
      rw [longs_at m j hj]
      by_cases hjm : j < m
      · rw [if_pos hjm]; exact oneX_A _ _
      · rw [if_neg hjm]; exact oneX_B _ _
  · rw [if_neg h, if_pos (by omega)]

set_option maxHeartbeats 4000000 in
set_option maxRecDepth 100000 in
theorem longs_walk (a0 : Int) (w : World) :
    Calls Try.prog 6 #[.int .i64 a0] w fun e w' => e = .returned (.bool true) ∧ Ext [] w w' := by
  obtain ⟨i1, hi, hz0, hz1, hz2⟩ := info_parts info_insn
  obtain ⟨q, hq, hq12⟩ := mod_nat a0 12 (by omega) (by omega)
  have HK := Lib.hid hq
  clear hq
  go_enter Try.func6, Try.ntmps6
  go_upto_region 2 with (fail)
  rw [show wrap64 ((IntKind.u64.wrap a0).tmod 12) = (q : Int) from HK.out, IntWalk.wrap64_in (250 + (q : Int)) (by omega), show 250 + (q : Int) = ((250 + q : Nat) : Int) by omega]
  obtain ⟨m, hm⟩ : ∃ m, m = 249 + q := ⟨_, rfl⟩
  rw [show 250 + q = m + 1 by omega]
  have hm1 : 249 ≤ m := by omega
  have hm2 : m ≤ 260 := by omega
  clear hm HK hq12
  go_wp2_with fail
  go_loopw [4, 5] (fun v i wr => ∃ j : Nat, j ≤ m ∧ i = .int .i64 (j : Int) ∧ wr.ownsRow 0 26 5 v j (insV (List.replicate j insA)) ∧ Ext [] w wr ∧ ∀ g, v.ownBlock = some g → w.heap.size ≤ g) (fun _ i _ => m - (intOf i).toNat)
  case atStart => exact ⟨0, by omega, rfl, by simpa [insV] using World.ownsRow_nil _ _ _ _, Ext.refl _ _, fun g h => by cases h⟩
  case round =>
    obtain ⟨j, hj, rfl, hown, x, fr⟩ := hrel
    obtain ⟨va, vc, rfl⟩ := owns_slice hown
    by_cases hlt : j < m
    · go_wp2_with (at_builtin; go_must (refine wpList_app _ rfl (.tmp 19) (.tmp 21) 22 rfl 26 i1 _ 5 12 Try.underlying22 hi hz0 hz1 hz2 rfl (by decide) (.slice va j vc) _ _ rfl (owns_ext hown ((Ext.refl [] wr).alloc _) (by simp)) _ 1 _ rfl (blk_reads (Blk.new wr _ _) 1 rfl) (by intro u hu; simp at hu; rcases hu with rfl | rfl | rfl | rfl | rfl <;> rfl) (by unfold maxLen; omega) (by omega) ?_); intro v3 w3 hown3 hgrow3 hfr3 _)
      go_roundw
      case rel =>
        refine ⟨j + 1, by omega, by go_num, ?_, (x.alloc _).grown hgrow3 (by intro g hg; exact .inr (fr g hg)), ?_⟩
        · rw [List.replicate_succ', insV_append, insV_one]
          exact hown3
        · intro g hg
          have := x.size
          rcases hfr3 with h | ⟨g', h, hle'⟩
          · exact fr g (h ▸ hg)
          · rw [h] at hg; obtain rfl := Option.some.inj hg; simp at hle'; omega
      case measure => simp [intOf]; omega
    · obtain rfl : j = m := by omega
      have HLC := Lib.hid (long_check j)
      go_wp2_with (at_builtin; go_must (refine wpList_app _ rfl (.tmp 24) (.tmp 26) 22 rfl 26 i1 _ 5 12 Try.underlying22 hi hz0 hz1 hz2 rfl (by decide) (.slice va j vc) _ _ rfl (owns_ext hown ((Ext.refl [] wr).alloc _) (by simp)) _ 1 _ rfl (blk_reads (Blk.new wr _ _) 1 rfl) (by intro u hu; simp at hu; rcases hu with rfl | rfl | rfl | rfl | rfl <;> rfl) (by unfold maxLen; omega) (by omega) ?_); intro v3 w3 hown3 hgrow3 hfr3 _)
      have hown4 : w3.ownsRow 0 26 5 v3 (j + 1) (insV (List.replicate j insA ++ [insB])) := by rw [insV_append, insV_one]; exact hown3
      have x3 : Ext [] w w3 := (x.alloc _).grown hgrow3 (by intro g hg; exact .inr (fr g hg))
      have HLL := Lib.hid (show (List.replicate j insA ++ [insB]).length = j + 1 by simp)
      generalize List.replicate j insA ++ [insB] = L at *
      clear hown hown3 hgrow3 hfr3 x fr
      refine (check_any v3 L w3 (by rw [HLL.out]; exact owns_reads hown4) (by rw [HLL.out]; omega)).mono ?_
      rw [HLC.out]
      by_cases h : j + 1 ≤ 256
      · rw [if_pos h]
        rintro e w4 ⟨rfl, x4⟩
        go_wp2_with fail
        refine (forms_any w4).mono ?_
        rintro e w5 ⟨rfl, x5⟩
        go_wp2_with fail
        go_ret
        exact ⟨rfl, x3.trans (x4.trans x5)⟩
      · rw [if_neg h]
        have hd : decide ((j : Int) + 1 ≤ 256) = false := decide_eq_false (by omega)
        rintro e w4 ⟨rfl, x4⟩
        go_wp2_with fail
        refine (forms_any w4).mono ?_
        rintro e w5 ⟨rfl, x5⟩
        go_wp2_with fail
        go_ret
        exact ⟨rfl, x3.trans (x4.trans x5)⟩

/-! ### A jump -/
def nilI0 : Ins := ⟨0, 0, 0, 0, 0⟩
def insC : Ins := ⟨24, 1, 0, 0, 0⟩
def insE (off : BitVec 16) : Ins := ⟨21, 0, 0, off, 0⟩
def jumpL (off : BitVec 16) : List Ins := [insA, insC, nilI0, insE off, insA, insB]
theorem oneX_E (off : BitVec 16) (nxt prv : Option Ins) : oneX (insE off) nxt prv = true := by kernel_rfl
theorem kind_E (off : BitVec 16) : kindM (insE off) = 2 := by show (partsN 21).kind = 2; decide +kernel
theorem kind_C : kindM insC = 9 := by decide +kernel
theorem kind_0 : kindM nilI0 = 10 := by decide +kernel

theorem jump_one (off : BitVec 16) : ∀ j, j < 6 → oneM (jumpL off) j = true := by
  intro j hj
  have : j = 0 ∨ j = 1 ∨ j = 2 ∨ j = 3 ∨ j = 4 ∨ j = 5 := by omega
  rcases this with rfl | rfl | rfl | rfl | rfl | rfl
  · exact oneX_A _ _
  · show oneX insC (some nilI0) (some insA) = true
    decide +kernel
  · show oneX nilI0 (some (insE off)) (some insC) = true
    kernel_rfl
  · exact oneX_E off _ _
  · exact oneX_A _ _
  · exact oneX_B _ _

theorem jump_land (off : BitVec 16) (j : Nat) (hj : j < 6) (h3 : j ≠ 3) : landsM (jumpL off) j = true := by
  have key : ∀ x : Ins, (jumpL off)[j]? = some x → kindM x ≠ 2 ∧ kindM x ≠ 3 → landsM (jumpL off) j = true := fun x hx hk => by
    unfold landsM
    rw [hx]
    exact if_pos hk
  have : j = 0 ∨ j = 1 ∨ j = 2 ∨ j = 4 ∨ j = 5 := by omega
  rcases this with rfl | rfl | rfl | rfl | rfl
  · exact key insA rfl (by rw [kind_A]; decide)
  · exact key insC rfl (by rw [kind_C]; decide)
  · exact key nilI0 rfl (by rw [kind_0]; decide)
  · exact key insA rfl (by rw [kind_A]; decide)
  · exact key insB rfl (by rw [kind_B]; decide)

theorem jump_to (off : BitVec 16) (t : Int) : landX (jumpL off) t = decide (0 ≤ t ∧ t < 6 ∧ t ≠ 2) := by
  unfold landX
  by_cases h0 : t < 0
  · rw [decide_eq_false (by omega), decide_eq_false (by omega), Bool.false_and]
  · obtain ⟨n, rfl⟩ := Int.eq_ofNat_of_zero_le (by omega : 0 ≤ t)
    rw [decide_eq_true (by omega), Bool.true_and, show ((n : Int)).toNat = n from rfl]
    by_cases h6 : 6 ≤ n
    · rw [List.getElem?_eq_none (show (jumpL off).length ≤ n from h6), decide_eq_false (by omega)]
    · have : n = 0 ∨ n = 1 ∨ n = 2 ∨ n = 3 ∨ n = 4 ∨ n = 5 := by omega
      rcases this with rfl | rfl | rfl | rfl | rfl | rfl
      · show decide (kindM insA ≠ 10) = _
        rw [kind_A]; rfl
      · show decide (kindM insC ≠ 10) = _
        rw [kind_C]; rfl
      · show decide (kindM nilI0 ≠ 10) = _
        rw [kind_0]; rfl
      · show decide (kindM (insE off) ≠ 10) = _
        rw [kind_E]; rfl
      · show decide (kindM insA ≠ 10) = _
        rw [kind_A]; rfl
      · show decide (kindM insB ≠ 10) = _
        rw [kind_B]; rfl

theorem jump_check (off : BitVec 16) : checkM (jumpL off) = if 0 ≤ 4 + off.toInt ∧ 4 + off.toInt < 6 ∧ 4 + off.toInt ≠ 2 then (0, 0) else (3, 22) := by
  have h3 : landsM (jumpL off) 3 = decide (0 ≤ 4 + off.toInt ∧ 4 + off.toInt < 6 ∧ 4 + off.toInt ≠ 2) := by
    show (if kindM (insE off) ≠ 2 ∧ kindM (insE off) ≠ 3 then true else landX (jumpL off) (((3 : Nat) : Int) + off.toInt + 1)) = _
    rw [kind_E, if_neg (by simp), jump_to, show ((3 : Nat) : Int) + off.toInt + 1 = 4 + off.toInt by omega]
  have hl : (jumpL off).length = 6 := rfl
  have hlast : lastM (jumpL off) = true := by
    show (decide (kindM insB = 5) || decide (kindM insB = 3)) = true
    rw [kind_B]; rfl
  unfold checkM
  rw [hl, if_neg (by omega), if_neg (by omega), firstBad_none _ _ (jump_one off)]
  by_cases h : 0 ≤ 4 + off.toInt ∧ 4 + off.toInt < 6 ∧ 4 + off.toInt ≠ 2
  · rw [if_pos h, firstBad_none, hlast]
    · rfl
    · intro j hj
      by_cases hj3 : j = 3
      · subst hj3; rw [h3, decide_eq_true h]
      · exact jump_land off j hj hj3
  · rw [if_neg h, firstBad_some (landsM (jumpL off)) 6 3 (by omega) (by rw [h3, decide_eq_false h]) (fun j hj => jump_land off j (by omega) (by omega))]

set_option maxHeartbeats 4000000 in
set_option maxRecDepth 100000 in
theorem jumps_walk (off : BitVec 16) (w : World) :
    Calls Try.prog 7 #[.int .i16 off.toInt] w fun e w' => e = .returned (.bool true) ∧ Ext [] w w' := by
  have HC := Lib.hid (jump_check off)
  have HRD := Lib.hid (show ∀ w : World, Reads (w.alloc (.cells (insV (jumpL off)).toArray 26)) (.slice (some ⟨w.heap.size, 0, none⟩) 6 6) 5 (jumpL off).length (insV (jumpL off)) from fun w => blk_reads (Blk.new w 26 (insV (jumpL off)).toArray) 6 rfl)
  have HX := Lib.hid (show ∀ w : World, Ext [] w (w.alloc (.cells (insV (jumpL off)).toArray 26)) from fun w => (Ext.refl _ _).alloc _)
  have HCA := Lib.hid (fun v w hr => check_any v (jumpL off) w hr (show 6 ≤ 100000 by decide))
  have ho1 : -32768 ≤ off.toInt := by have := off.le_toInt; simpa using this
  have ho2 : off.toInt ≤ 32767 := by have := off.toInt_lt; simp at this; omega
  go_enter Try.func7, Try.ntmps7
  go_wp2_with fail
  have hrd := HRD.out w
  have x1 := HX.out w
  show Calls _ _ _ (w.alloc (.cells (insV (jumpL off)).toArray 26)) _
  generalize w.alloc (.cells (insV (jumpL off)).toArray 26) = w1 at *
  refine (HCA.out _ w1 hrd).mono ?_
  rw [HC.out]
  clear hrd
  generalize off.toInt = o at *
  by_cases h1 : 4 + o < 0
  · have d1 : decide (0 ≤ 4 + o) = false := decide_eq_false (by omega)
    rw [if_neg (by omega)]
    rintro e w2 ⟨rfl, x2⟩
    go_wp2_with fail
    refine (forms_any _).mono ?_
    rintro e w3 ⟨rfl, x3⟩
    go_wp2_with fail
    go_ret
    exact ⟨rfl, x1.trans (x2.trans x3)⟩
  by_cases h2 : 6 ≤ 4 + o
  · have d1 : decide (0 ≤ 4 + o) = true := decide_eq_true (by omega)
    have d2 : decide (4 + o < 6) = false := decide_eq_false (by omega)
    rw [if_neg (by omega)]
    rintro e w2 ⟨rfl, x2⟩
    go_wp2_with fail
    refine (forms_any _).mono ?_
    rintro e w3 ⟨rfl, x3⟩
    go_wp2_with fail
    go_ret
    exact ⟨rfl, x1.trans (x2.trans x3)⟩
  have d1 : decide (0 ≤ 4 + o) = true := decide_eq_true (by omega)
  have d2 : decide (4 + o < 6) = true := decide_eq_true (by omega)
  by_cases h3 : 4 + o = 2
  · have d3 : (4 + o != 2) = false := by rw [h3]; rfl
    rw [if_neg (by omega)]
    rintro e w2 ⟨rfl, x2⟩
    go_wp2_with fail
    refine (forms_any _).mono ?_
    rintro e w3 ⟨rfl, x3⟩
    go_wp2_with fail
    go_ret
    exact ⟨rfl, x1.trans (x2.trans x3)⟩
  · have d3 : (4 + o != 2) = true := by rw [bne_iff_ne]; exact h3
    rw [if_pos (by omega)]
    rintro e w2 ⟨rfl, x2⟩
    go_wp2_with fail
    refine (forms_any _).mono ?_
    rintro e w3 ⟨rfl, x3⟩
    go_wp2_with fail
    go_ret
    exact ⟨rfl, x1.trans (x2.trans x3)⟩
end Go.Proofs.Ytoliimnmgppkjaa
