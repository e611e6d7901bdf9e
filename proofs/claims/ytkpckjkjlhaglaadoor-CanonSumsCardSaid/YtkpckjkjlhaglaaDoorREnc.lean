/- The reference's Encode. -/
import Derived.Test.YtkpckjkjlhaglaaDoorEnc
namespace Go.Proofs.YtkpckjkjlhaglaaDoor
open Go.RowKit

theorem wrap_u16 (n : Int) : IntKind.u16.wrap n = n % 65536 := by simp [IntKind.wrap, IntKind.bits, IntKind.signed]
theorem i16_mod (b : BitVec 16) : b.toInt % 65536 = (b.toNat : Int) := by rw [BitVec.toInt_eq_toNat_cond]; split <;> omega
theorem i32_mod (b : BitVec 32) : b.toInt % 4294967296 = (b.toNat : Int) := by rw [BitVec.toInt_eq_toNat_cond]; split <;> omega
theorem u8_of (m : Nat) (z : Int) (h : z = ((m % 256 : Nat) : Int)) : Value.int .u8 z = Value.int .u8 (((UInt8.ofNat m).toNat : Nat) : Int) := by
  rw [h, UInt8.toNat_ofNat']

theorem renc_eq (y : Ins) : (#[Value.int IntKind.u8 (y.op.toNat : Int), Value.int IntKind.u8 ((y.dst.toNat : Int) % 16 + (y.src.toNat : Int) % 16 * 16),
          Value.int IntKind.u8 (IntKind.u16.wrap y.off.toInt % 256), Value.int IntKind.u8 (IntKind.u16.wrap y.off.toInt / 256 % 256), Value.int IntKind.u8 (y.imm.toInt % 256),
          Value.int IntKind.u8 (y.imm.toInt % 4294967296 / 256 % 256), Value.int IntKind.u8 (y.imm.toInt % 4294967296 / 65536 % 256), Value.int IntKind.u8 (y.imm.toInt % 4294967296 / 16777216)] : Array Value).toList = bytesV (encI y) := by
  have h4 : y.imm.toInt % 256 = (y.imm.toNat : Int) % 256 := by have := i32_mod y.imm; omega
  rw [wrap_u16, i16_mod, i32_mod, h4]
  have hb := y.imm.isLt
  have hb' := y.off.isLt
  unfold encI bytesV
  simp only [List.map_cons, List.map_nil]
  rw [← u8_of _ ((y.dst.toNat : Int) % 16 + (y.src.toNat : Int) % 16 * 16) (by omega), ← u8_of _ ((y.off.toNat : Int) % 256) (by omega), ← u8_of _ ((y.off.toNat : Int) / 256 % 256) (by omega), ← u8_of _ ((y.imm.toNat : Int) % 256) (by omega),
    ← u8_of _ ((y.imm.toNat : Int) / 256 % 256) (by omega), ← u8_of _ ((y.imm.toNat : Int) / 65536 % 256) (by omega), ← u8_of _ ((y.imm.toNat : Int) / 16777216) (by omega)]

set_option maxHeartbeats 4000000 in
set_option maxRecDepth 100000 in
theorem rencode_any (v : Value) (l : List Ins) (w : World) (hr : Reads w v 5 l.length (insV l)) (hl : l.length ≤ 100000) :
    Calls Tryd.prog 15 #[v] w (BytesPost w (encL l)) := by
  obtain ⟨i0, hi, hz0, hz1, hz2⟩ := info_parts info_byte
  have HR := Lib.hid (fun (h0 : 0 < l.length) ao c (he : v = .slice ao l.length c) => ins_lit (he ▸ hr) h0)
  obtain ⟨ao, c, rfl, -, -, -⟩ := hr
  go_enter Tryd.func15, Tryd.ntmps15
  go_wp2_with fail
  go_loopw [3, 4, 5, 6, 7] (fun v i _ _ _ wr => ∃ k : Nat, k ≤ l.length ∧ i = .int .i64 (k : Int) ∧ wr.ownsRow 0 5 1 v (8 * k) (bytesV (encL (l.take k))) ∧ Ext [] w wr ∧ ∀ g, v.ownBlock = some g → w.heap.size ≤ g) (fun _ i _ _ _ _ => l.length - (intOf i).toNat)
  case atStart => exact ⟨0, by omega, rfl, by simpa [bytesV, encL] using World.ownsRow_nil _ _ _ _, Ext.refl _ _, fun g h => by cases h⟩
  case round =>
    obtain ⟨wo, rfl⟩ : ∃ wo : World, wo = wr := ⟨_, rfl⟩
    obtain ⟨k, hk, rfl, hown, x, hfr⟩ := hrel
    obtain ⟨va, vc, rfl⟩ := owns_slice hown
    by_cases hlt : k < l.length
    · obtain ⟨bb, oo, rfl, hbb, hcells⟩ := HR.out (by omega) ao c rfl
      have hc := fun j (hj : j < 5) => (x.cell (p := ⟨bb, oo + k * 5 + j, none⟩) hbb (by simp)).trans (hcells k hlt j hj)
      clear hcells
      have hst := Lib.hid (encL_take l k hlt)
      generalize l[k] = y at *
      have c0 := hc 0 (by omega)
      have c1 := hc 1 (by omega)
      have c2 := hc 2 (by omega)
      have c3 := hc 3 (by omega)
      have c4 := hc 4 (by omega)
      simp only [Ins.cells, List.getElem?_cons_zero, List.getElem?_cons_succ, Nat.add_zero] at c0 c1 c2 c3 c4
      clear hc
      go_upto_region 6 with (fail)
      show Code.wp _ _ _ _ (wo.alloc (.cells y.cells.toArray 35))
      have BY := Blk.new wo 35 y.cells.toArray
      have x1 : Ext [] wo (wo.alloc (.cells y.cells.toArray 35)) := (Ext.refl _ _).alloc _
      have hown1 := owns_ext hown x1 (by simp)
      have y1 := x.trans x1
      have hbl := BY.lt
      obtain ⟨by', hby⟩ : ∃ b, b = wo.heap.size := ⟨_, rfl⟩
      rw [← hby] at BY hbl
      rw [← hby]
      clear hown x x1 c0 c1 c2 c3 c4 hby
      generalize wo.alloc (.cells y.cells.toArray 35) = w1 at *
      have d0 := BY.cell 0
      have d1 := BY.cell 1
      have d2 := BY.cell 2
      have d3 := BY.cell 3
      have d4 := BY.cell 4
      simp only [Ins.cells, List.getElem?_cons_zero, List.getElem?_cons_succ] at d0 d1 d2 d3 d4
      go_region
      have BY := BY.drew
      have hown1 := owns_ext hown1 ((Ext.refl [] w1).drew) (by simp)
      have y1 := y1.drew
      clear d0 d1 d2 d3 d4
      generalize w1.drew = w2 at *
      have d0 := BY.cell 0
      have d1 := BY.cell 1
      have d2 := BY.cell 2
      have d3 := BY.cell 3
      have d4 := BY.cell 4
      simp only [Ins.cells, List.getElem?_cons_zero, List.getElem?_cons_succ] at d0 d1 d2 d3 d4
      go_wp2_with (at_builtin; go_must (refine wpList_app _ rfl (.tmp 24) (.tmp 51) 38 rfl 5 i0 (.int .u8 0) 1 1 Tryd.underlying38 hi hz0 hz1 hz2 rfl (by decide) _ _ _ rfl (owns_ext hown1 ((Ext.refl [] w2).alloc _) (by simp)) _ 8 _ rfl (blk_reads (Blk.new w2 _ _) 8 rfl) (by intro u hu; simp at hu; rcases hu with rfl | rfl | rfl | rfl | rfl | rfl | rfl | rfl <;> rfl) (by unfold maxLen; omega) (by omega) ?_); intro v3 w3 hown3 hgrow3 hfr3 _)
      rw [renc_eq, ← bytesV_append] at hown3
      go_roundw
      case rel =>
        refine ⟨k + 1, by omega, by go_num, ?_, (y1.alloc _).grown hgrow3 (by intro g hg; exact .inr (hfr g hg)), ?_⟩
        · rw [hst.out]
          exact hown3
        · intro g hg
          have := y1.size
          rcases hfr3 with h | ⟨g', h, hle'⟩
          · exact hfr g (h ▸ hg)
          · rw [h] at hg; obtain rfl := Option.some.inj hg; simp at hle'; omega
      case measure => simp [intOf]; omega
    · have hk' : k = l.length := by omega
      go_wp2_with fail
      go_ret
      refine ⟨_, rfl, ?_, x, hfr⟩
      have h8 : 8 * k = (encL l).length := by rw [encL_length, hk']
      rw [hk', List.take_length, ← encL_length] at hown
      rw [h8]
      exact hown
end Go.Proofs.YtkpckjkjlhaglaaDoor
