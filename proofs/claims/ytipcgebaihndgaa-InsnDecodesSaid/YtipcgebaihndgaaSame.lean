/- The reference of instructions: Same. -/
import Derived.Test.YtipcgebaihndgaaIns
import Derived.Test.YtipcgebaihndgaaRows
import Derived.Laws.StructEq
import Derived.ChangeKeysEq
namespace Go.Proofs.Ytipcgebaihndgaa
open Go.RowKit

theorem eq_insn_raw (d : Nat) (a b c o i a' b' c' o' i' : Int) (w : World) :
    (Op.equalIn (d + 2) 32 (.agg #[.int .u8 a, .int .u8 b, .int .u8 c, .int .i16 o, .int .i32 i]) (.agg #[.int .u8 a', .int .u8 b', .int .u8 c', .int .i16 o', .int .i32 i'])).run Try.prog w
      = .ok (a == a' && (b == b' && (c == c' && (o == o' && i == i')))) w := by
  have p8 : ∀ (xs : Array Value) off v, xs[off]? = some v → (part 5 xs off).run Try.prog w = .ok v w := fun xs off v hx => run_part_plain w (by kernel_rfl) hx
  have p16 : ∀ (xs : Array Value) off v, xs[off]? = some v → (part 30 xs off).run Try.prog w = .ok v w := fun xs off v hx => run_part_plain w (by kernel_rfl) hx
  have p32 : ∀ (xs : Array Value) off v, xs[off]? = some v → (part 21 xs off).run Try.prog w = .ok v w := fun xs off v hx => run_part_plain w (by kernel_rfl) hx
  have e8 : ∀ a b : Int, (Op.equalIn (d + 1) 5 (.int .u8 a) (.int .u8 b)).run Try.prog w = .ok (a == b) w := fun a b => run_equalIn_int w d _ .u8 .u8 a b Try.underlying5
  have e16 : ∀ a b : Int, (Op.equalIn (d + 1) 30 (.int .i16 a) (.int .i16 b)).run Try.prog w = .ok (a == b) w := fun a b => run_equalIn_int w d _ .i16 .i16 a b Try.underlying30
  have e32 : ∀ a b : Int, (Op.equalIn (d + 1) 21 (.int .i32 a) (.int .i32 b)).run Try.prog w = .ok (a == b) w := fun a b => run_equalIn_int w d _ .i32 .i32 a b Try.underlying21
  rw [run_equalIn_struct w (d + 1) _ _ _ (by simp [Program.fieldsOf, Try.underlying32]) (by kernel_rfl)]
  simp [Program.fieldsOf, Try.underlying32, Op.eqFields, Sem.run_bind, p8, p16, p32, e8, e16, e32]
  by_cases h1 : a = a' <;> by_cases h2 : b = b' <;> by_cases h3 : c = c' <;> by_cases h4 : o = o' <;> by_cases h5 : i = i' <;> simp [h1, h2, h3, h4, h5]

theorem ins_beq (x y : Ins) : (((x.op.toNat : Int) == (y.op.toNat : Int)) && (((x.dst.toNat : Int) == (y.dst.toNat : Int)) && (((x.src.toNat : Int) == (y.src.toNat : Int)) && ((x.off.toInt == y.off.toInt) && (x.imm.toInt == y.imm.toInt))))) = decide (x = y) := by
  rw [Bool.eq_iff_iff]
  obtain ⟨a, b, c, d, e⟩ := x
  obtain ⟨a', b', c', d', e'⟩ := y
  simp only [Bool.and_eq_true, beq_iff_eq, decide_eq_true_eq, Ins.mk.injEq, Int.ofNat_inj, UInt8.toNat_inj, BitVec.toInt_inj]

theorem neq_insn (x y : Ins) (w : World) : (binOp .neq 32 (.agg x.cells.toArray) (.agg y.cells.toArray)).run Try.prog w = .ok (.bool (!decide (x = y))) w := by
  rw [run_neq_struct, show (10000 : Nat) = 9998 + 2 from rfl]
  unfold Ins.cells
  rw [eq_insn_raw, ins_beq]
  rfl

theorem eql_insn (x y : Ins) (w : World) : (binOp .eql 32 (.agg x.cells.toArray) (.agg y.cells.toArray)).run Try.prog w = .ok (.bool (decide (x = y))) w := by
  rw [run_eql_struct, show (10000 : Nat) = 9998 + 2 from rfl]
  unfold Ins.cells
  rw [eq_insn_raw, ins_beq]
  rfl

set_option maxHeartbeats 2000000 in
set_option maxRecDepth 100000 in
theorem same_any (va vb : Value) (a b : List Ins) (w : World) (ha : Reads w va 5 a.length (insV a)) (hb : Reads w vb 5 b.length (insV b)) (hla : a.length ≤ 100000) :
    Calls Try.prog 11 #[va, vb] w fun e w' => e = .returned (.bool (decide (a = b))) ∧ Ext [] w w' := by
  have HA := Lib.hid (fun (h0 : 0 < a.length) ao c (he : va = .slice ao a.length c) => ins_lit (he ▸ ha) h0)
  have HB := Lib.hid (fun (h0 : 0 < b.length) ao c (he : vb = .slice ao b.length c) => ins_lit (he ▸ hb) h0)
  obtain ⟨ao, ac, rfl, -, -, -⟩ := ha
  obtain ⟨bo, bc, rfl, -, -, -⟩ := hb
  by_cases hne : a.length = b.length
  · rw [show (Value.slice bo b.length bc) = .slice bo a.length bc by rw [hne]]
    go_enter Try.func11, Try.ntmps11
    go_wp2_with fail
    go_loopw [5] (fun i wr => ∃ k : Nat, k ≤ a.length ∧ i = .int .i64 (k : Int) ∧ Hid (∀ j (hj : j < a.length), j < k → a[j] = b[j]) ∧ Ext [] w wr) (fun i _ => a.length - (intOf i).toNat)
    case atStart => exact ⟨0, by omega, rfl, Lib.hid (fun j _ h => by omega), Ext.refl _ _⟩
    case round =>
      obtain ⟨k, hk, rfl, HS, x⟩ := hrel
      by_cases hlt : k < a.length
      · obtain ⟨g1, o1, rfl, hg1, hc1⟩ := HA.out (by omega) ao ac rfl
        obtain ⟨g2, o2, rfl, hg2, hc2⟩ := HB.out (by omega) bo bc rfl
        have hx := fun j (hj : j < 5) => (x.cell (p := ⟨g1, o1 + k * 5 + j, none⟩) hg1 (by simp)).trans (hc1 k hlt j hj)
        have hkb : k < b.length := by omega
        have hy := fun j (hj : j < 5) => (x.cell (p := ⟨g2, o2 + k * 5 + j, none⟩) hg2 (by simp)).trans (hc2 k hkb j hj)
        clear hc1 hc2
        have HD := Lib.hid (show ∀ h : k < b.length, a[k] ≠ b[k] → ¬ a = b by intro h hne' e; apply hne'; simp only [e])
        have HE := Lib.hid (show (decide (a[k] = b[k]) = true) → ∀ j (hj : j < a.length), j < k + 1 → a[j] = b[j] by
          intro h j hj hjk
          rcases Nat.lt_or_ge j k with h' | h'
          · exact HS.out j hj h'
          · obtain rfl : j = k := by omega
            exact of_decide_eq_true h)
        have HD2 := Lib.hid (show decide (a[k] = b[k]) = false → decide (a = b) = false by
          intro h
          rw [decide_eq_false_iff_not] at h ⊢
          exact HD.out (by omega) h)
        generalize a[k] = y1 at *
        generalize b[k] = y2 at *
        have c0 := hx 0 (by omega)
        have c1 := hx 1 (by omega)
        have c2 := hx 2 (by omega)
        have c3 := hx 3 (by omega)
        have c4 := hx 4 (by omega)
        have d0 := hy 0 (by omega)
        have d1 := hy 1 (by omega)
        have d2 := hy 2 (by omega)
        have d3 := hy 3 (by omega)
        have d4 := hy 4 (by omega)
        simp only [Ins.cells, List.getElem?_cons_zero, List.getElem?_cons_succ, Nat.add_zero] at c0 c1 c2 c3 c4 d0 d1 d2 d3 d4
        have hq := fun w => neq_insn y1 y2 w
        unfold Ins.cells at hq
        generalize decide (y1 = y2) = q at *
        clear hx hy
        cases q
        · go_upto_region 6 with (fail)
          go_region
          go_wp2_with fail
          go_ret
          refine ⟨show Ending.returned (.bool false) = _ from ?_, x.drewN _⟩
          rw [HD2.out (by first | rfl | trivial)]
        · go_upto_region 6 with (fail)
          go_region
          go_wp2_with fail
          go_roundw
          case rel => exact ⟨k + 1, by omega, by go_num, Lib.hid (HE.out (by first | rfl | trivial)), x.drewN _⟩
          case measure => simp [intOf]; omega
      · go_wp2_with fail
        go_ret
        refine ⟨show Ending.returned (.bool true) = _ from ?_, x⟩
        rw [show decide (a = b) = true from decide_eq_true (List.ext_getElem hne (fun j h1 h2 => HS.out j h1 (by omega)))]
  · have hb' : ((a.length : Int) == (b.length : Int)) = false := by rw [beq_eq_false_iff_ne]; omega
    go_enter Try.func11, Try.ntmps11
    go_wp2_with fail
    go_ret
    refine ⟨show Ending.returned (.bool false) = _ from ?_, Ext.refl _ _⟩
    rw [show decide (a = b) = false by rw [decide_eq_false_iff_not]; intro h; exact hne (by rw [h])]
end Go.Proofs.Ytipcgebaihndgaa
