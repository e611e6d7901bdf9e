/- The reference of layer 5, one: its long question. (Printed by genrone.py.) -/
import Derived.Test.YtooifaakflphpaaShF
import Derived.Test.YtooifaakflphpaaCut
namespace Go.Proofs.Ytooifaakflphpaa
open Go.RowKit
set_option maxRecDepth 100000

set_option maxHeartbeats 16000000 in
set_option maxRecDepth 100000 in
theorem rone_A {ops : Array Oper} {dr : Bool} (ho : Try.f38.body.bind (regionAt 4) = some (ops, dr)) (x : Ins) (kind : Nat) (fd fs fo fi b : Bool) (bx bp bf : Nat) (w5 : World)
    (c1 : w5.cell? ⟨bx, 1, none⟩ = some (.int .u8 (x.dst.toNat : Int))) (c2 : w5.cell? ⟨bx, 2, none⟩ = some (.int .u8 (x.src.toNat : Int))) (c3 : w5.cell? ⟨bx, 3, none⟩ = some (.int .i16 x.off.toInt)) (c4 : w5.cell? ⟨bx, 4, none⟩ = some (.int .i32 x.imm.toInt))
    (p0 : w5.cell? ⟨bp, 0, none⟩ = some (.int .i64 (kind : Int)))
    (f0 : w5.cell? ⟨bf, 0, none⟩ = some (.bool fd)) (f1 : w5.cell? ⟨bf, 1, none⟩ = some (.bool fs)) (f2 : w5.cell? ⟨bf, 2, none⟩ = some (.bool fo)) (f3 : w5.cell? ⟨bf, 3, none⟩ = some (.bool fi))
    (hb : b = (decide (kind = 0) || !(decide (x.dst.toNat < 11) && decide (x.src.toNat < 11) && (fd || decide (x.dst.toNat = 0)) && (fs || decide (x.src.toNat = 0)) && (fo || decide (x.off.toInt = 0)) && (fi || decide (x.imm.toInt = 0)))))
    (K : Exit → Act → World → Prop) (s0 s1 s2 s3 s4 s8 s9 s10 s11 s12 s13 s14 s15 s16 : Value)
    (hK : ∀ u17 u18 u19 u20 u21 u22 u23 u24 u25 u26 u27 u28 u29 u30 u31 u32 u33 u34 u35 u36 u37 u38 u39 u40 u41 u42 u43 u44 u45 u46 u47 u48 u49 u50 u51 u52 u53 u54 u55 u56 u57 u58 u59 u60 u61 u62 u63 u64 u65 u66 u67 u68 : Value, K .normal ⟨#[s0, s1, s2, s3, s4, .pointer (some ⟨bx, 0, none⟩), .pointer (some ⟨bp, 0, none⟩), .pointer (some ⟨bf, 0, none⟩), s8, s9, s10, s11, s12, s13, s14, s15, s16, u17, u18, u19, u20, u21, u22, u23, u24, u25, u26, u27, u28, u29, u30, u31, u32, u33, u34, u35, u36, u37, u38, u39, u40, u41, u42, u43, u44, u45, u46, u47, u48, u49, u50, u51, u52, u53, u54, u55, u56, u57, u58, u59, u60, u61, u62, u63, u64, u65, u66, u67, u68, .bool b, undef, undef, undef, undef, undef, undef, undef, undef, undef, undef, undef, undef, undef, undef, undef, undef, undef, undef, undef, undef, undef, undef, undef, undef, undef, undef, undef, undef, undef, undef, undef, undef, undef, undef, undef, undef, undef, undef, undef, undef, undef, undef, undef, undef, undef, undef, undef, undef, undef, undef, undef, undef, undef, undef, undef, undef, undef, undef, undef, undef, undef, undef, undef, undef, undef, undef, undef, undef, undef, undef, undef, undef, undef, undef, undef, undef, undef, undef, undef, undef, undef, undef, undef, undef, undef, undef, undef, undef, undef, undef, undef, undef, undef, undef, undef, undef, undef, undef, undef, undef, undef, undef, undef, undef, undef, undef, undef, undef, undef, undef, undef, undef, undef, undef, undef, undef, undef, undef, undef, undef, undef, undef, undef, undef, undef, undef, undef, undef, undef, undef, undef, undef, undef, undef, undef, undef, undef, undef, undef, undef, undef, undef, undef, undef, undef, undef, undef, undef, undef, undef, undef, undef, undef, undef, undef, undef, undef, undef, undef, undef, undef, undef, undef, undef], []⟩ w5) :
    (Code.region 4 ops dr).wp Try.prog K ⟨#[s0, s1, s2, s3, s4, .pointer (some ⟨bx, 0, none⟩), .pointer (some ⟨bp, 0, none⟩), .pointer (some ⟨bf, 0, none⟩), s8, s9, s10, s11, s12, s13, s14, s15, s16, undef, undef, undef, undef, undef, undef, undef, undef, undef, undef, undef, undef, undef, undef, undef, undef, undef, undef, undef, undef, undef, undef, undef, undef, undef, undef, undef, undef, undef, undef, undef, undef, undef, undef, undef, undef, undef, undef, undef, undef, undef, undef, undef, undef, undef, undef, undef, undef, undef, undef, undef, undef, undef, undef, undef, undef, undef, undef, undef, undef, undef, undef, undef, undef, undef, undef, undef, undef, undef, undef, undef, undef, undef, undef, undef, undef, undef, undef, undef, undef, undef, undef, undef, undef, undef, undef, undef, undef, undef, undef, undef, undef, undef, undef, undef, undef, undef, undef, undef, undef, undef, undef, undef, undef, undef, undef, undef, undef, undef, undef, undef, undef, undef, undef, undef, undef, undef, undef, undef, undef, undef, undef, undef, undef, undef, undef, undef, undef, undef, undef, undef, undef, undef, undef, undef, undef, undef, undef, undef, undef, undef, undef, undef, undef, undef, undef, undef, undef, undef, undef, undef, undef, undef, undef, undef, undef, undef, undef, undef, undef, undef, undef, undef, undef, undef, undef, undef, undef, undef, undef, undef, undef, undef, undef, undef, undef, undef, undef, undef, undef, undef, undef, undef, undef, undef, undef, undef, undef, undef, undef, undef, undef, undef, undef, undef, undef, undef, undef, undef, undef, undef, undef, undef, undef, undef, undef, undef, undef, undef, undef, undef, undef, undef, undef, undef, undef, undef], []⟩ w5 := by
  have h := Option.some.inj (ho.symm.trans (rfl : Try.f38.body.bind (regionAt 4) = some (_, _)))
  obtain ⟨rfl, rfl⟩ := Prod.mk.inj h
  clear ho h
  have HKK := Lib.hid hK
  have HB := Lib.hid hb
  clear hK hb
  obtain ⟨d, hd⟩ : ∃ d, d = x.dst.toNat := ⟨_, rfl⟩
  obtain ⟨s, hs⟩ : ∃ s, s = x.src.toNat := ⟨_, rfl⟩
  rw [← hd] at HB c1
  rw [← hs] at HB c2
  generalize x.off.toInt = o at *
  generalize x.imm.toInt = i at *
  clear hd hs
  by_cases h0 : kind = 0
  · subst h0
    rw [decide_eq_true rfl, Bool.true_or] at HB
    obtain rfl : b = true := HB.out.trans (by rfl)
    go_wp2_with fail
    exact HKK.out _ _ _ _ _ _ _ _ _ _ _ _ _ _ _ _ _ _ _ _ _ _ _ _ _ _ _ _ _ _ _ _ _ _ _ _ _ _ _ _ _ _ _ _ _ _ _ _ _ _ _ _
  have q0 : ((kind : Int) == 0) = false := by rw [beq_eq_false_iff_ne]; omega
  rw [decide_eq_false h0, Bool.false_or] at HB
  clear h0
  by_cases h1 : 11 ≤ d
  · have gd : decide (10 < (d : Int)) = true := decide_eq_true (by omega)
    rw [decide_eq_false (p := d < 11) (by omega)] at HB
    obtain rfl : b = true := HB.out.trans (by rfl)
    go_wp2_with fail
    exact HKK.out _ _ _ _ _ _ _ _ _ _ _ _ _ _ _ _ _ _ _ _ _ _ _ _ _ _ _ _ _ _ _ _ _ _ _ _ _ _ _ _ _ _ _ _ _ _ _ _ _ _ _ _
  have gd : decide (10 < (d : Int)) = false := decide_eq_false (by omega)
  by_cases h2 : 11 ≤ s
  · have gs : decide (10 < (s : Int)) = true := decide_eq_true (by omega)
    rw [decide_eq_false (p := s < 11) (by omega), Bool.and_false] at HB
    obtain rfl : b = true := HB.out.trans (by rfl)
    go_wp2_with fail
    exact HKK.out _ _ _ _ _ _ _ _ _ _ _ _ _ _ _ _ _ _ _ _ _ _ _ _ _ _ _ _ _ _ _ _ _ _ _ _ _ _ _ _ _ _ _ _ _ _ _ _ _ _ _ _
  have gs : decide (10 < (s : Int)) = false := decide_eq_false (by omega)
  rw [decide_eq_true (p := d < 11) (by omega), decide_eq_true (p := s < 11) (by omega), Bool.true_and, Bool.true_and] at HB
  by_cases h3 : fd = false ∧ d ≠ 0
  · obtain ⟨rfl, h3⟩ := h3
    rw [decide_eq_false h3] at HB
    have q3 : ((d : Int) == 0) = false := by rw [beq_eq_false_iff_ne]; omega
    have r3 : ((d : Int) != 0) = true := by rw [bne_iff_ne]; omega
    obtain rfl : b = true := HB.out.trans (by rfl)
    go_wp2_with fail
    exact HKK.out _ _ _ _ _ _ _ _ _ _ _ _ _ _ _ _ _ _ _ _ _ _ _ _ _ _ _ _ _ _ _ _ _ _ _ _ _ _ _ _ _ _ _ _ _ _ _ _ _ _ _ _
  have g3 : (fd || decide (d = 0)) = true := by cases fd <;> simp at h3 ⊢; exact h3
  have k3 : fd = true ∨ fd = false ∧ d = 0 := by cases fd <;> simp at h3 ⊢; exact h3
  rw [g3, Bool.true_and] at HB
  clear h3 g3
  by_cases h4 : fs = false ∧ s ≠ 0
  · obtain ⟨rfl, h4⟩ := h4
    rw [decide_eq_false h4] at HB
    have q4 : ((s : Int) == 0) = false := by rw [beq_eq_false_iff_ne]; omega
    have r4 : ((s : Int) != 0) = true := by rw [bne_iff_ne]; omega
    rcases k3 with rfl | ⟨rfl, rfl⟩
    all_goals
      obtain rfl : b = true := HB.out.trans (by rfl)
      go_wp2_with fail
      exact HKK.out _ _ _ _ _ _ _ _ _ _ _ _ _ _ _ _ _ _ _ _ _ _ _ _ _ _ _ _ _ _ _ _ _ _ _ _ _ _ _ _ _ _ _ _ _ _ _ _ _ _ _ _
  have g4 : (fs || decide (s = 0)) = true := by cases fs <;> simp at h4 ⊢; exact h4
  have k4 : fs = true ∨ fs = false ∧ s = 0 := by cases fs <;> simp at h4 ⊢; exact h4
  rw [g4, Bool.true_and] at HB
  clear h4 g4
  by_cases h5 : fo = false ∧ o ≠ 0
  · obtain ⟨rfl, h5⟩ := h5
    rw [decide_eq_false h5] at HB
    have q5 : (o == 0) = false := by rw [beq_eq_false_iff_ne]; omega
    have r5 : (o != 0) = true := by rw [bne_iff_ne]; omega
    rcases k3 with rfl | ⟨rfl, rfl⟩ <;> rcases k4 with rfl | ⟨rfl, rfl⟩
    all_goals
      obtain rfl : b = true := HB.out.trans (by rfl)
      go_wp2_with fail
      exact HKK.out _ _ _ _ _ _ _ _ _ _ _ _ _ _ _ _ _ _ _ _ _ _ _ _ _ _ _ _ _ _ _ _ _ _ _ _ _ _ _ _ _ _ _ _ _ _ _ _ _ _ _ _
  have g5 : (fo || decide (o = 0)) = true := by cases fo <;> simp at h5 ⊢; exact h5
  have k5 : fo = true ∨ fo = false ∧ o = 0 := by cases fo <;> simp at h5 ⊢; exact h5
  rw [g5, Bool.true_and] at HB
  clear h5 g5
  by_cases h6 : fi = false ∧ i ≠ 0
  · obtain ⟨rfl, h6⟩ := h6
    rw [decide_eq_false h6] at HB
    have q6 : (i == 0) = false := by rw [beq_eq_false_iff_ne]; omega
    have r6 : (i != 0) = true := by rw [bne_iff_ne]; omega
    rcases k3 with rfl | ⟨rfl, rfl⟩ <;> rcases k4 with rfl | ⟨rfl, rfl⟩ <;> rcases k5 with rfl | ⟨rfl, rfl⟩
    all_goals
      obtain rfl : b = true := HB.out.trans (by rfl)
      go_wp2_with fail
      exact HKK.out _ _ _ _ _ _ _ _ _ _ _ _ _ _ _ _ _ _ _ _ _ _ _ _ _ _ _ _ _ _ _ _ _ _ _ _ _ _ _ _ _ _ _ _ _ _ _ _ _ _ _ _
  have g6 : (fi || decide (i = 0)) = true := by cases fi <;> simp at h6 ⊢; exact h6
  have k6 : fi = true ∨ fi = false ∧ i = 0 := by cases fi <;> simp at h6 ⊢; exact h6
  rw [g6] at HB
  clear h6 g6
  rcases k3 with rfl | ⟨rfl, rfl⟩ <;> rcases k4 with rfl | ⟨rfl, rfl⟩ <;> rcases k5 with rfl | ⟨rfl, rfl⟩ <;> rcases k6 with rfl | ⟨rfl, rfl⟩
  all_goals
    obtain rfl : b = false := HB.out.trans (by rfl)
    go_wp2_with fail
    exact HKK.out _ _ _ _ _ _ _ _ _ _ _ _ _ _ _ _ _ _ _ _ _ _ _ _ _ _ _ _ _ _ _ _ _ _ _ _ _ _ _ _ _ _ _ _ _ _ _ _ _ _ _ _
end Go.Proofs.Ytooifaakflphpaa
