/- Instructions of bytes, plainly. -/
import Derived.Test.YtbjkfgfiifnjoaaDoorEnc
import Derived.Test.YtbjkfgfiifnjoaaDoorRng
namespace Go.Proofs.YtbjkfgfiifnjoaaDoor
open Go.RowKit
set_option maxRecDepth 100000

theorem wrap_u16 (n : Int) : IntKind.u16.wrap n = n % 65536 := by simp [IntKind.wrap, IntKind.bits, IntKind.signed]
theorem i16_mod (b : BitVec 16) : b.toInt % 65536 = (b.toNat : Int) := by rw [BitVec.toInt_eq_toNat_cond]; split <;> omega
theorem i32_mod (b : BitVec 32) : b.toInt % 4294967296 = (b.toNat : Int) := by rw [BitVec.toInt_eq_toNat_cond]; split <;> omega
theorem u8_of (m : Nat) (z : Int) (h : z = ((m % 256 : Nat) : Int)) : Value.int .u8 z = Value.int .u8 (((UInt8.ofNat m).toNat : Nat) : Int) := by
  rw [h, UInt8.toNat_ofNat']
/-- The instruction of eight bytes. -/
def dec8 (b0 b1 b2 b3 b4 b5 b6 b7 : UInt8) : Ins := ⟨b0, UInt8.ofNat (b1.toNat % 16), UInt8.ofNat (b1.toNat / 16), BitVec.ofNat 16 (b2.toNat + 256 * b3.toNat), BitVec.ofNat 32 (b4.toNat + 256 * b5.toNat + 65536 * b6.toNat + 16777216 * b7.toNat)⟩
def decAt (bs : List UInt8) (k : Nat) : Ins := dec8 (bs.getD (8 * k) 0) (bs.getD (8 * k + 1) 0) (bs.getD (8 * k + 2) 0) (bs.getD (8 * k + 3) 0) (bs.getD (8 * k + 4) 0) (bs.getD (8 * k + 5) 0) (bs.getD (8 * k + 6) 0) (bs.getD (8 * k + 7) 0)
/-- The first m instructions of bytes. -/
def decN (bs : List UInt8) (m : Nat) : List Ins := (List.range m).map (decAt bs)
theorem decN_length (bs : List UInt8) (m : Nat) : (decN bs m).length = m := by simp [decN]
theorem decN_succ (bs : List UInt8) (m : Nat) : decN bs (m + 1) = decN bs m ++ [decAt bs m] := by simp [decN, List.range_succ]

/-- Bytes that can be read: where each lies. -/
theorem bytes_lit {w : World} {ao : Option Addr} {n c : Nat} {l : List UInt8} (h : Reads w (.slice ao n c) 1 n (bytesV l)) (hn : n = l.length) (h0 : 0 < n) :
    ∃ b o, ao = some ⟨b, o, none⟩ ∧ b < w.heap.size ∧ ∀ j, j < n → w.cell? ⟨b, o + j, none⟩ = some (.int .u8 ((l.getD j 0).toNat : Int)) := by
  obtain ⟨ao', c', he, -, hnn, hc⟩ := h
  cases he
  cases ao with
  | none => have := (hnn rfl).1; omega
  | some ad =>
    obtain ⟨b, o, spot⟩ := ad
    have hall : ∀ j, j < n → w.cell? ((⟨b, o, spot⟩ : Addr).add j) = some (.int .u8 ((l.getD j 0).toNat : Int)) := fun j hj => hc _ rfl j _ (bytesV_at l j (by omega))
    have h00 := hall 0 h0
    have hs : spot = none := by
      have := World.cell?_spot h00
      simpa [Addr.add] using this
    subst hs
    refine ⟨b, o, rfl, ?_, fun j hj => ?_⟩
    · have := World.block_lt_of_cell? w _ h00
      simpa [Addr.add] using this
    · have := hall j hj
      rwa [Addr.add_lit] at this

theorem off_eq (b2 b3 : UInt8) : IntKind.u16.wrap (IntKind.u16.wrap (b2.toNat : Int) + IntKind.u16.wrap (IntKind.u16.wrap (b3.toNat : Int) * 256)) = ((b2.toNat + 256 * b3.toNat : Nat) : Int) := by
  have h2 := b2.toNat_lt
  have h3 := b3.toNat_lt
  simp only [wrap_u16]
  omega

theorem or_join (a c j : Nat) (ha : a < 2 ^ j) (hj : j ≤ 24) (hc : c < 256) : bits .or .u32 (a : Int) ((c * 2 ^ j : Nat) : Int) = ((a + c * 2 ^ j : Nat) : Int) := by
  have hp : (2 : Nat) ^ j ≤ 2 ^ 24 := Nat.pow_le_pow_right (by decide) hj
  have h1 : c * 2 ^ j ≤ 255 * 2 ^ 24 := Nat.mul_le_mul (by omega) hp
  rw [u32_or_nat _ _ (by omega) (by omega), Nat.or_comm, Nat.mul_comm c, ← Nat.two_pow_add_eq_or_of_lt ha, Nat.add_comm]

theorem imm_eq (b4 b5 b6 b7 : UInt8) : bits BinOp.or IntKind.u32 (bits BinOp.or IntKind.u32 (bits BinOp.or IntKind.u32 ((b4.toNat : Int) % 4294967296) ((b5.toNat : Int) % 4294967296 * 256 % 4294967296)) ((b6.toNat : Int) % 4294967296 * 65536 % 4294967296)) ((b7.toNat : Int) % 4294967296 * 16777216 % 4294967296)
    = ((b4.toNat + 256 * b5.toNat + 65536 * b6.toNat + 16777216 * b7.toNat : Nat) : Int) := by
  have h4 := b4.toNat_lt
  have h5 := b5.toNat_lt
  have h6 := b6.toNat_lt
  have h7 := b7.toNat_lt
  rw [show (b4.toNat : Int) % 4294967296 = (b4.toNat : Int) by omega, show (b5.toNat : Int) % 4294967296 * 256 % 4294967296 = ((b5.toNat * 2 ^ 8 : Nat) : Int) by omega,
    show (b6.toNat : Int) % 4294967296 * 65536 % 4294967296 = ((b6.toNat * 2 ^ 16 : Nat) : Int) by omega, show (b7.toNat : Int) % 4294967296 * 16777216 % 4294967296 = ((b7.toNat * 2 ^ 24 : Nat) : Int) by omega,
    or_join _ _ 8 (by omega) (by omega) h5, or_join _ _ 16 (by omega) (by omega) h6, or_join _ _ 24 (by omega) (by omega) h7]
  congr 1
  omega

theorem wrap_i16_of (n : Nat) : IntKind.i16.wrap (n : Int) = (BitVec.ofNat 16 n).toInt := by
  rw [BitVec.toInt_eq_toNat_cond, BitVec.toNat_ofNat]
  simp [IntKind.wrap, IntKind.bits, IntKind.signed]
  split <;> split <;> omega
theorem wrap_i32_of (n : Nat) : IntKind.i32.wrap (n : Int) = (BitVec.ofNat 32 n).toInt := by
  rw [BitVec.toInt_eq_toNat_cond, BitVec.toNat_ofNat, IntKind.wrap_i32]
  split <;> omega

theorem dec8_cells (b0 b1 b2 b3 b4 b5 b6 b7 : UInt8) : (dec8 b0 b1 b2 b3 b4 b5 b6 b7).cells = [Value.int IntKind.u8 (b0.toNat : Int), Value.int IntKind.u8 ((b1.toNat : Int).tmod 16), Value.int IntKind.u8 (IntKind.u8.wrap ((b1.toNat : Int) / 16)),
    Value.int IntKind.i16 (IntKind.i16.wrap ((b2.toNat + 256 * b3.toNat : Nat) : Int)), Value.int IntKind.i32 (IntKind.i32.wrap ((b4.toNat + 256 * b5.toNat + 65536 * b6.toNat + 16777216 * b7.toNat : Nat) : Int))] := by
  have h1 := b1.toNat_lt
  rw [wrap_i16_of, wrap_i32_of, IntKind.wrap_u8]
  unfold dec8 Ins.cells
  rw [u8_of (b1.toNat % 16) ((b1.toNat : Int).tmod 16) (by rw [Int.tmod_eq_emod_of_nonneg (by omega)]; omega), u8_of (b1.toNat / 16) ((b1.toNat : Int) / 16 % 256) (by omega)]

theorem rows_fr7 {w w2 : World} {v v7 : Value} {o : Obj} (x : Ext [] w w2) (hfr : ∀ g, v.ownBlock = some g → w.heap.size ≤ g) (h : v7.ownBlock = v.ownBlock ∨ ∃ g, v7.ownBlock = some g ∧ (w2.drew.alloc o).heap.size ≤ g) :
    ∀ g, v7.ownBlock = some g → w.heap.size ≤ g := by
  intro g hg
  have := x.size
  rcases h with h | ⟨g', h, hle'⟩
  · exact hfr g (h ▸ hg)
  · rw [h] at hg; obtain rfl := Option.some.inj hg
    have : w2.drew.heap.size = w2.heap.size := rfl
    rw [World.size_alloc] at hle'
    omega
end Go.Proofs.YtbjkfgfiifnjoaaDoor
