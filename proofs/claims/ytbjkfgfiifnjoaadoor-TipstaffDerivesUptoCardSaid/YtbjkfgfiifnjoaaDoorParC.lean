/- strconv.FormatUint, base 16, of numbers of sixteen bits: it returns a text of at most 65 letters. -/
import Derived.Laws.IdiomStrings
import Derived.Laws.BitsAllLaws
import Derived.Test.YtbjkfgfiifnjoaaDoorByt
import Derived.Test.YtbjkfgfiifnjoaaDoorParB
namespace Go.Proofs.YtbjkfgfiifnjoaaDoor
open Go.RowKit
set_option maxRecDepth 100000

theorem pow2_any (w : World) : Calls Tryd.prog 186 #[.int .i64 16] w fun e w' => e = .returned (.bool true) ∧ w = w' := by
  go_enter Tryd.func186, Tryd.ntmps186
  go_wp2
  go_ret
  exact ⟨rfl, rfl⟩

theorem tz64_any (w : World) (G : ParG w) : Calls Tryd.prog 195 #[.int .u64 16] w fun e w' => e = .returned (.int .i64 4) ∧ w = w' := by
  have hd := G.d
  clear G
  go_enter Tryd.func195, Tryd.ntmps195
  have hz : IntKind.u64.wrap (bits .and .u64 16 (IntKind.u64.wrap (-16)) * 285870213051353865) / 288230376151711744 = 15 := by decide +kernel
  go_wp2
  go_ret
  exact ⟨rfl, rfl⟩

theorem tz_any (w : World) (G : ParG w) : Calls Tryd.prog 187 #[.int .u64 16] w fun e w' => e = .returned (.int .i64 4) ∧ w = w' := by
  have HT := Lib.hid (tz64_any w G)
  clear G
  go_enter Tryd.func187, Tryd.ntmps187
  go_wp2_with fail
  refine HT.out.mono ?_
  rintro e w1 ⟨rfl, rfl⟩
  go_wp2_with fail
  go_ret
  exact ⟨rfl, rfl⟩

theorem bits_and15 (n : Nat) (hn : n ≤ 65535) : bits .and .u64 (n : Int) 15 = (n : Int) % 16 := by
  have := u64_and_nat n 15 (by omega) (by omega)
  rw [nat_mask4] at this
  exact this.trans (by omega)

def digs : ByteArray := ⟨#[48, 49, 50, 51, 52, 53, 54, 55, 56, 57, 97, 98, 99, 100, 101, 102, 103, 104, 105, 106, 107, 108, 109, 110, 111, 112, 113, 114, 115, 116, 117, 118, 119, 120, 121, 122]⟩
theorem dig_ex (z : Int) : ∃ q : UInt8, ∀ h : z.toNat < (⟨#[48, 49, 50, 51, 52, 53, 54, 55, 56, 57, 97, 98, 99, 100, 101, 102, 103, 104, 105, 106, 107, 108, 109, 110, 111, 112, 113, 114, 115, 116, 117, 118, 119, 120, 121, 122]⟩ : ByteArray).size, (⟨#[48, 49, 50, 51, 52, 53, 54, 55, 56, 57, 97, 98, 99, 100, 101, 102, 103, 104, 105, 106, 107, 108, 109, 110, 111, 112, 113, 114, 115, 116, 117, 118, 119, 120, 121, 122]⟩ : ByteArray)[z.toNat] = q := by
  by_cases h : z.toNat < digs.size
  · exact ⟨digs[z.toNat]'h, fun _ => rfl⟩
  · exact ⟨0, fun h' => absurd h' h⟩

theorem dig_exN (z : Nat) : ∃ q : UInt8, ∀ h : z < (⟨#[48, 49, 50, 51, 52, 53, 54, 55, 56, 57, 97, 98, 99, 100, 101, 102, 103, 104, 105, 106, 107, 108, 109, 110, 111, 112, 113, 114, 115, 116, 117, 118, 119, 120, 121, 122]⟩ : ByteArray).size, (⟨#[48, 49, 50, 51, 52, 53, 54, 55, 56, 57, 97, 98, 99, 100, 101, 102, 103, 104, 105, 106, 107, 108, 109, 110, 111, 112, 113, 114, 115, 116, 117, 118, 119, 120, 121, 122]⟩ : ByteArray)[z] = q := by
  by_cases h : z < digs.size
  · exact ⟨digs[z]'h, fun _ => rfl⟩
  · exact ⟨0, fun h' => absurd h' h⟩
theorem slice65 (gb k : Nat) (hk : k < 65) (w : World) : (Instr.sliceAt 264 (.pointer (some ⟨gb, 0, none⟩)) (some (.int .i64 (k : Int))) none none).run Tryd.prog w = .ok (.slice (some ⟨gb, k, none⟩) (65 - k) (65 - k)) w := by
  have hal : Tryd.prog.arrayLen 264 = 65 := by kernel_rfl
  have hel : Tryd.prog.elem 264 = 5 := by kernel_rfl
  rw [run_sliceAt_array_l (P := Tryd.prog) w 264 ⟨gb, 0, none⟩ (by kernel_rfl) .i64 (k : Int) (by omega) (by rw [hal]; omega), hal, hel, Tryd.sizeOf5]
  have hne : ¬ 65 = k := by omega
  simp [Result.andThen, slicedAt, hne, Addr.add_lit]

theorem bytesV_set (l : List UInt8) (j : Nat) (q : UInt8) : (bytesV l).set j (.int .u8 (q.toNat : Int)) = bytesV (l.set j q) := by
  simp [bytesV, List.map_set]

set_option maxHeartbeats 16000000 in
theorem fbits_any (n : Nat) (hn : n ≤ 65535) (w : World) (G : ParG w) :
    Calls Tryd.prog 168 #[.slice none 0 0, .int .u64 (n : Int), .int .i64 16, .bool false, .bool false] w fun e w' => (∃ st : ByteArray, e = .returned (.tuple #[.slice none 0 0, .string st]) ∧ st.size ≤ 65) ∧ Ext [] w w' := by
  have HP := Lib.hid (fun w' => pow2_any w')
  have HT := Lib.hid (fun w' (x : Ext [] w w') => tz_any w' (G.ext x))
  clear G
  go_enter Tryd.func168, Tryd.ntmps168
  go_wp2_with fail
  refine (HP.out _).mono ?_
  rintro e w1 ⟨rfl, rfl⟩
  go_wp2_with fail
  refine (HT.out _ ((Ext.refl _ _).alloc _)).mono ?_
  rintro e w1 ⟨rfl, rfl⟩
  go_upto_block 0 with (fail)
  have BA : Blk (w.alloc (.cells Tryd.zeroCells264 264)) w.heap.size 264 (bytesV (List.replicate 65 0)) := Blk.new w 264 Tryd.zeroCells264
  have x : Ext [] w (w.alloc (.cells Tryd.zeroCells264 264)) := (Ext.refl _ _).alloc _
  obtain ⟨l, hl, BA⟩ : ∃ l : List UInt8, l.length = 65 ∧ Blk (w.alloc (.cells Tryd.zeroCells264 264)) w.heap.size 264 (bytesV l) := ⟨_, by simp, BA⟩
  generalize w.alloc (.cells Tryd.zeroCells264 264) = wa at *
  obtain ⟨gb, hgb⟩ : ∃ gb, gb = w.heap.size := ⟨_, rfl⟩
  rw [← hgb] at BA ⊢
  have HGB := Lib.hid hgb
  clear hgb HP HT
  go_wp2_with fail
  go_loopw [1, 13] (fun u i wr => ∃ (a k : Nat) (l : List UInt8), u = .int .u64 (a : Int) ∧ i = .int .i64 (k : Int) ∧ ((a < 65536 ∧ k = 65) ∨ (a < 4096 ∧ k = 64) ∨ (a < 256 ∧ k = 63) ∨ (a < 16 ∧ k = 62)) ∧ l.length = 65 ∧ Blk wr gb 264 (bytesV l) ∧ Ext [] w wr) (fun u _ _ => (intOf u).toNat)
  case atStart => exact ⟨n, 65, l, rfl, rfl, .inl ⟨by omega, rfl⟩, hl, BA, x⟩
  case round =>
    clear BA x hl l
    obtain ⟨a, k, l, rfl, rfl, hak, hl, BA, x⟩ := hrel
    have hk : 62 ≤ k ∧ k ≤ 65 ∧ a ≤ 65535 := by omega
    obtain ⟨k, rfl⟩ : ∃ k', k = k' + 1 := ⟨k - 1, by omega⟩
    have hc := BA.cellAt (i := k) (by rw [bytesV_length]; omega)
    generalize (bytesV l)[k]'_ = cv at hc
    have hf := BA.frozen k
    have hbd := bits_and15 a hk.2.2
    by_cases h16 : 16 ≤ a
    · have hd1 : (0 : Int) ≤ (a : Int) % 16 := by omega
      have hd2 : (a : Int) % 16 < 36 := by omega
      obtain ⟨q, hq⟩ := dig_ex ((a : Int) % 16)
      have hk0 : (k : Int) < 65 := by omega
      go_upto_region 14 with (fail)
      have B2 := BA.set k (.int .u8 (q.toNat : Int))
      rw [bytesV_set] at B2
      have x2 := x.setCell (p := ⟨gb, k, none⟩) (.inr (by have := HGB.out; show w.heap.size ≤ gb; omega)) (.int .u8 (q.toNat : Int))
      generalize wr.setCell ⟨gb, k, none⟩ (.int .u8 (q.toNat : Int)) = w2 at *
      go_wp2_with fail
      go_roundw
      case rel => exact ⟨a / 16, k, l.set k q, by go_num, rfl, by omega, by simpa using hl, B2, x2⟩
      case measure => simp [intOf]; omega
    · obtain ⟨q, hq⟩ := dig_exN a
      have hd2 : (a : Int) < 36 := by omega
      have hk0 : (k : Int) < 65 := by omega
      have hsl := Lib.hid (fun w => slice65 gb k (by omega) w)
      go_upto_region 25 with (fail)
      have B2 := BA.set k (.int .u8 (q.toNat : Int))
      rw [bytesV_set] at B2
      have x2 := x.setCell (p := ⟨gb, k, none⟩) (.inr (by have := HGB.out; show w.heap.size ≤ gb; omega)) (.int .u8 (q.toNat : Int))
      have hl2 : (l.set k q).length = 65 := by simpa using hl
      generalize wr.setCell ⟨gb, k, none⟩ (.int .u8 (q.toNat : Int)) = w2 at *
      generalize l.set k q = l2 at *
      have hsl2 := hsl.out
      obtain ⟨n65, hn65⟩ : ∃ n65, n65 = 65 - k := ⟨_, rfl⟩
      rw [← hn65] at hsl2
      have hcv : (convert 39 9 (.slice (some ⟨gb, k, none⟩) n65 n65)).run Tryd.prog w2 = .ok (.string ⟨(l2.drop k).toArray⟩) w2 := by
        rw [show n65 = (l2.drop k).length by simp; omega]
        refine run_convert_bytes_back w2 _ _ 5 ⟨gb, k, none⟩ _ (l2.drop k) Tryd.underlying39 Tryd.underlying5 Tryd.underlying9 ?_
        intro j hj
        rw [Addr.add_lit, B2.cell]
        simp at hj ⊢
        rw [bytesV_at _ _ (by omega)]
        simp [List.getD, show k + j < l2.length by omega]
      clear hsl hn65
      go_wp2_with fail
      go_ret2
      exact ⟨⟨_, rfl, by show (l2.drop k).toArray.size ≤ 65; simp; omega⟩, x2⟩
end Go.Proofs.YtbjkfgfiifnjoaaDoor
