/- strconv.ParseUint, base 16, 16 bits: it returns a number and an error or none, whatever the text. -/
import Derived.Lib.ConvBytes
import Derived.Deep.CutBlock
import Derived.Test.YtbjkfgfiifnjoaaDoorProg
import Derived.Test.YtbjkfgfiifnjoaaDoorBase
namespace Go.Proofs.YtbjkfgfiifnjoaaDoor
open Go.RowKit
set_option maxRecDepth 100000

theorem bytesW_ext (w : World) (e : TypeId) (s : ByteArray) : Ext [] w (Lib.bytesWorld w e s) := by
  refine ⟨rfl, rfl, rfl, by rw [Lib.bytesWorld_size]; omega, fun k hk _ => Lib.bytesWorld_at_old w e s k hk⟩
theorem ext_of_below {w w' : World} (h : Below w.heap.size w w') : Ext [] w w' := ⟨h.os, h.tape, h.output, h.size, fun k hk _ => h.block k hk⟩
theorem u8_lo (x : Int) : 0 ≤ IntKind.wrap .u8 x := by
  simp [IntKind.wrap, IntKind.bits, IntKind.signed]
  omega

theorem u8_hi (x : Int) : IntKind.wrap .u8 x ≤ 255 := by
  simp [IntKind.wrap, IntKind.bits, IntKind.signed]
  omega

theorem lower_any (c : Int) (w : World) : Calls Tryd.prog 133 #[.int .u8 c] w fun e w' => ∃ z, e = .returned (.int .u8 z) ∧ w = w' := by
  go_enter Tryd.func133, Tryd.ntmps133
  go_wp2
  go_ret
  exact ⟨_, rfl, rfl⟩

/-- What ParseUint hands back: a number of sixteen bits, and none or an error of the inner package's (1: range, 2: syntax). -/
def PuPost (w : World) (e : Ending) (w' : World) : Prop :=
  (∃ n : Nat, n ≤ 65535 ∧ (e = .returned (.tuple #[.int .u64 (n : Int), .nilIface]) ∨ e = .returned (.tuple #[.int .u64 (n : Int), .iface 216 (.int .i64 1)]) ∨ e = .returned (.tuple #[.int .u64 (n : Int), .iface 216 (.int .i64 2)]))) ∧ Ext [] w w'

set_option maxHeartbeats 16000000 in
theorem puint_any (s : ByteArray) (hs : s.size ≤ 1048576) (w : World) : Calls Tryd.prog 110 #[.string s, .int .i64 16, .int .i64 16] w (PuPost w) := by
  have hcv := fun w => Lib.run_convert_string_bytes (P := Tryd.prog) w 9 39 5 s Tryd.underlying9 Tryd.underlying39 (by kernel_rfl)
  go_enter Tryd.func110, Tryd.ntmps110
  go_upto_region 36 with (fail)
  · go_ret2
    exact ⟨⟨0, by omega, .inr (.inr rfl)⟩, Ext.refl _ _⟩
  · have hse : s.toList.isEmpty = false := by assumption
    rw [hse]
    clear hse
    have HB := Lib.hid (fun j (hj : j < s.size) => Lib.bytesWorld_cell w 5 s j hj)
    have xb := bytesW_ext w 5 s
    have hbl : w.heap.size < (Lib.bytesWorld w 5 s).heap.size := by rw [Lib.bytesWorld_size]; omega
    clear hcv
    generalize Lib.bytesWorld w 5 s = wb at *
    generalize grownCap w s.size 0 5 = cb at *
    generalize w.heap.size = gb at *
    go_loopw [12, 13, 101] (fun u n i wr => ∃ (j m : Nat), u = .bool false ∧ n = .int .u64 (m : Int) ∧ m ≤ 65535 ∧ i = .int .i64 (j : Int) ∧ j ≤ s.size ∧ wb = wr) (fun _ _ i _ => s.size - (intOf i).toNat)
    case atStart => exact ⟨0, 0, rfl, rfl, by omega, rfl, Nat.zero_le _, rfl⟩
    case round =>
      obtain ⟨j, m, rfl, rfl, hm, rfl, hj, rfl⟩ := hrel
      by_cases hlt : j < s.size
      · have hc := HB.out j hlt
        have i1 : (j : Int) < (s.size : Int) := by omega
        have i2 : (0 : Int) ≤ (j : Int) := by omega
        obtain ⟨cc, hcc, hcl⟩ : ∃ cc : Nat, (s.data.toList.getD j 0).toNat = cc ∧ cc ≤ 255 := ⟨_, rfl, by have := (s.data.toList.getD j 0).toNat_lt; omega⟩
        rw [hcc] at hc
        clear hcc
        go_upto_block 5 with (fail)
        go_cut [12, 15, 16, 101] from 102 to 163 (fun u _ d i wx => ∃ z : Int, u = .bool false ∧ d = .int .u8 z ∧ 0 ≤ z ∧ z ≤ 255 ∧ i = .int .i64 (j : Int) ∧ wx = wb)
        case first =>
          go_wp2_with (go_at_call 133; refine (lower_any _ _).mono ?_; rintro e w' ⟨z, rfl, rfl⟩)
          all_goals first
            | (go_ret2; exact ⟨⟨0, by omega, .inr (.inr rfl)⟩, xb⟩)
            | (go_meet; refine ⟨_, rfl, rfl, ?_, ?_, rfl, rfl⟩ <;> first | omega | exact u8_lo _ | exact u8_hi _ | rfl)
        case rest =>
          obtain ⟨z, rfl, rfl, hz0, hz1, rfl, rfl⟩ := hcut
          rename_i KK aK
          refine aK _ _ ?_
          by_cases h16 : z < 16
          · have hq : ¬ (1152921504606846976 : Int) ≤ (m : Int) := by omega
            by_cases h65 : (m : Int) * 16 + z ≤ 65535
            · obtain ⟨m', hm'⟩ : ∃ m' : Nat, (m' : Int) = (m : Int) * 16 + z := ⟨((m : Int) * 16 + z).toNat, by omega⟩
              have hq2 : ¬ ((m' : Int) < (m : Int) * 16) := by omega
              have hq3 : ¬ ((65535 : Int) < (m' : Int)) := by omega
              go_upto_region 52 with (fail)
              rw [← hm']
              have hmx : m' ≤ 65535 := by omega
              clear hm'
              go_wp2
              go_roundw
              case rel => exact ⟨j + 1, m', rfl, rfl, hmx, by go_num, hlt, by first | rfl | trivial⟩
              case measure => simp [intOf]; omega
            · have hq2 : ¬ ((m : Int) * 16 + z < (m : Int) * 16) := by omega
              have hq3 : ((65535 : Int) < (m : Int) * 16 + z) := by omega
              go_wp2
              go_ret2
              exact ⟨⟨65535, by omega, .inr (.inl rfl)⟩, xb⟩
          · go_wp2
            go_ret2
            exact ⟨⟨0, by omega, .inr (.inr rfl)⟩, xb⟩
      · go_wp2
        go_ret2
        exact ⟨⟨m, hm, .inl rfl⟩, xb⟩
end Go.Proofs.YtbjkfgfiifnjoaaDoor
