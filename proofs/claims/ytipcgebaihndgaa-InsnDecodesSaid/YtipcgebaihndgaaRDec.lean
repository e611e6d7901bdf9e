/- The reference's Decode. -/
import Derived.Test.YtipcgebaihndgaaREnc
import Derived.Deep.RegionHeld3
namespace Go.Proofs.Ytipcgebaihndgaa
open Go.RowKit

/-- The instruction of eight bytes. -/
def dec8 (b0 b1 b2 b3 b4 b5 b6 b7 : UInt8) : Ins := ⟨b0, UInt8.ofNat (b1.toNat % 16), UInt8.ofNat (b1.toNat / 16), BitVec.ofNat 16 (b2.toNat + 256 * b3.toNat), BitVec.ofNat 32 (b4.toNat + 256 * b5.toNat + 65536 * b6.toNat + 16777216 * b7.toNat)⟩
def decAt (bs : List UInt8) (k : Nat) : Ins := dec8 (bs.getD (8 * k) 0) (bs.getD (8 * k + 1) 0) (bs.getD (8 * k + 2) 0) (bs.getD (8 * k + 3) 0) (bs.getD (8 * k + 4) 0) (bs.getD (8 * k + 5) 0) (bs.getD (8 * k + 6) 0) (bs.getD (8 * k + 7) 0)
/-- The first m instructions of bytes. -/
def decN (bs : List UInt8) (m : Nat) : List Ins := (List.range m).map (decAt bs)
theorem decN_length (bs : List UInt8) (m : Nat) : (decN bs m).length = m := by simp [decN]
theorem decN_succ (bs : List UInt8) (m : Nat) : decN bs (m + 1) = decN bs m ++ [decAt bs m] := by simp [decN, List.range_succ]

theorem bytesV_at (l : List UInt8) (j : Nat) (hj : j < l.length) : (bytesV l)[j]? = some (.int .u8 ((l.getD j 0).toNat : Int)) := by
  simp [bytesV, List.getD, hj]

/-- Bytes that can be read: where each lies. -/
theorem bytes_lit {w : World} {ao : Option Addr} {n c : Nat} {l : List UInt8} (h : Reads w (.slice ao n c) 1 n (bytesV l)) (hn : n = l.length) (h0 : 0 < n) :
    ∃ b o, ao = some ⟨b, o, none⟩ ∧ b < w.heap.size ∧ ∀ j, j < n → w.cell? ⟨b, o + j, none⟩ = some (.int .u8 ((l.getD j 0).toNat : Int)) := by
  obtain ⟨ao', c', he, -, hnn, hc⟩ := h
  cases he
  cases ao with
  | none => have := (hnn rfl).1; omega
  | some ad =>
    obtain ⟨b, o, spot⟩ := ad
    have hall : ∀ j, j < n → w.cell? ((⟨b, o, spot⟩ : Addr).add j) = some (.int .u8 ((l.getD j 0).toNat : Int)) := fun j hj => hc _ rfl j _ (bytesV_at l j (by omega))
    have h00 := hall 0 h0
    have hs : spot = none := by
      have := World.cell?_spot h00
      simpa [Addr.add] using this
    subst hs
    refine ⟨b, o, rfl, ?_, fun j hj => ?_⟩
    · have := World.block_lt_of_cell? w _ h00
      simpa [Addr.add] using this
    · have := hall j hj
      rwa [Addr.add_lit] at this

theorem off_eq (b2 b3 : UInt8) : IntKind.u16.wrap (IntKind.u16.wrap (b2.toNat : Int) + IntKind.u16.wrap (IntKind.u16.wrap (b3.toNat : Int) * 256)) = ((b2.toNat + 256 * b3.toNat : Nat) : Int) := by
  have h2 := b2.toNat_lt
  have h3 := b3.toNat_lt
  simp only [wrap_u16]
  omega

theorem or_join (a c j : Nat) (ha : a < 2 ^ j) (hj : j ≤ 24) (hc : c < 256) : bits .or .u32 (a : Int) ((c * 2 ^ j : Nat) : Int) = ((a + c * 2 ^ j : Nat) : Int) := by
  have hp : (2 : Nat) ^ j ≤ 2 ^ 24 := Nat.pow_le_pow_right (by decide) hj
  have h1 : c * 2 ^ j ≤ 255 * 2 ^ 24 := Nat.mul_le_mul (by omega) hp
  rw [u32_or_nat _ _ (by omega) (by omega), Nat.or_comm, Nat.mul_comm c, ← Nat.two_pow_add_eq_or_of_lt ha, Nat.add_comm]

theorem imm_eq (b4 b5 b6 b7 : UInt8) : bits BinOp.or IntKind.u32 (bits BinOp.or IntKind.u32 (bits BinOp.or IntKind.u32 ((b4.toNat : Int) % 4294967296) ((b5.toNat : Int) % 4294967296 * 256 % 4294967296)) ((b6.toNat : Int) % 4294967296 * 65536 % 4294967296)) ((b7.toNat : Int) % 4294967296 * 16777216 % 4294967296)
    = ((b4.toNat + 256 * b5.toNat + 65536 * b6.toNat + 16777216 * b7.toNat : Nat) : Int) := by
  have h4 := b4.toNat_lt
  have h5 := b5.toNat_lt
  have h6 := b6.toNat_lt
  have h7 := b7.toNat_lt
  rw [show (b4.toNat : Int) % 4294967296 = (b4.toNat : Int) by omega, show (b5.toNat : Int) % 4294967296 * 256 % 4294967296 = ((b5.toNat * 2 ^ 8 : Nat) : Int) by omega,
    show (b6.toNat : Int) % 4294967296 * 65536 % 4294967296 = ((b6.toNat * 2 ^ 16 : Nat) : Int) by omega, show (b7.toNat : Int) % 4294967296 * 16777216 % 4294967296 = ((b7.toNat * 2 ^ 24 : Nat) : Int) by omega,
    or_join _ _ 8 (by omega) (by omega) h5, or_join _ _ 16 (by omega) (by omega) h6, or_join _ _ 24 (by omega) (by omega) h7]
  congr 1
  omega

theorem wrap_i16_of (n : Nat) : IntKind.i16.wrap (n : Int) = (BitVec.ofNat 16 n).toInt := by
  rw [BitVec.toInt_eq_toNat_cond, BitVec.toNat_ofNat]
  simp [IntKind.wrap, IntKind.bits, IntKind.signed]
  split <;> split <;> omega
theorem wrap_i32_of (n : Nat) : IntKind.i32.wrap (n : Int) = (BitVec.ofNat 32 n).toInt := by
  rw [BitVec.toInt_eq_toNat_cond, BitVec.toNat_ofNat, IntKind.wrap_i32]
  split <;> omega

theorem dec8_cells (b0 b1 b2 b3 b4 b5 b6 b7 : UInt8) : (dec8 b0 b1 b2 b3 b4 b5 b6 b7).cells = [Value.int IntKind.u8 (b0.toNat : Int), Value.int IntKind.u8 ((b1.toNat : Int).tmod 16), Value.int IntKind.u8 (IntKind.u8.wrap ((b1.toNat : Int) / 16)),
    Value.int IntKind.i16 (IntKind.i16.wrap ((b2.toNat + 256 * b3.toNat : Nat) : Int)), Value.int IntKind.i32 (IntKind.i32.wrap ((b4.toNat + 256 * b5.toNat + 65536 * b6.toNat + 16777216 * b7.toNat : Nat) : Int))] := by
  have h1 := b1.toNat_lt
  rw [wrap_i16_of, wrap_i32_of, IntKind.wrap_u8]
  unfold dec8 Ins.cells
  rw [u8_of (b1.toNat % 16) ((b1.toNat : Int).tmod 16) (by rw [Int.tmod_eq_emod_of_nonneg (by omega)]; omega), u8_of (b1.toNat / 16) ((b1.toNat : Int) / 16 % 256) (by omega)]

theorem rows_fr7 {w w2 : World} {v v7 : Value} {o : Obj} (x : Ext [] w w2) (hfr : ∀ g, v.ownBlock = some g → w.heap.size ≤ g) (h : v7.ownBlock = v.ownBlock ∨ ∃ g, v7.ownBlock = some g ∧ (w2.drew.alloc o).heap.size ≤ g) :
    ∀ g, v7.ownBlock = some g → w.heap.size ≤ g := by
  intro g hg
  have := x.size
  rcases h with h | ⟨g', h, hle'⟩
  · exact hfr g (h ▸ hg)
  · rw [h] at hg; obtain rfl := Option.some.inj hg
    have : w2.drew.heap.size = w2.heap.size := rfl
    rw [World.size_alloc] at hle'
    omega

set_option maxHeartbeats 4000000 in
set_option maxRecDepth 100000 in
theorem rdecode_any (v : Value) (bs : List UInt8) (m : Nat) (w : World) (hm : bs.length = 8 * m) (hr : Reads w v 1 bs.length (bytesV bs)) (hl : m ≤ 100000) :
    Calls Try.prog 12 #[v] w fun e w' => ∃ v5, e = .returned v5 ∧ w'.ownsRow 0 32 5 v5 m (insV (decN bs m)) ∧ Ext [] w w' := by
  obtain ⟨i1, hi, hz0, hz1, hz2⟩ := info_parts info_insn
  have HR := Lib.hid (fun (h0 : 0 < 8 * m) ao c (he : v = .slice ao bs.length c) => bytes_lit (he ▸ hr) rfl (by omega))
  obtain ⟨ao, c, rfl, -, -, -⟩ := hr
  rw [hm] at HR ⊢
  go_enter Try.func12, Try.ntmps12
  go_wp2_with fail
  go_loopw [3, 4, 5, 6] (fun v i _ _ wr => ∃ k : Nat, k ≤ m ∧ i = .int .i64 ((8 * k : Nat) : Int) ∧ wr.ownsRow 0 32 5 v k (insV (decN bs k)) ∧ Ext [] w wr ∧ ∀ g, v.ownBlock = some g → w.heap.size ≤ g) (fun _ i _ _ _ => 8 * m - (intOf i).toNat)
  case atStart => exact ⟨0, by omega, rfl, by simpa [insV, decN] using World.ownsRow_nil _ _ _ _, Ext.refl _ _, fun g h => by cases h⟩
  case round =>
    obtain ⟨k, hk, rfl, hown, x, hfr⟩ := hrel
    obtain ⟨va, vc, rfl⟩ := owns_slice hown
    by_cases hlt : k < m
    · obtain ⟨bb, oo, rfl, hbb, hcells⟩ := HR.out (by omega) ao c rfl
      have hc := fun j (hj : j < 8) => (x.cell (p := ⟨bb, oo + (8 * k + j), none⟩) hbb (by simp)).trans (hcells (8 * k + j) (by omega))
      clear hcells
      have hst := Lib.hid (decN_succ bs k)
      have hd := Lib.hid (show decAt bs k = dec8 (bs.getD (8 * k) 0) (bs.getD (8 * k + 1) 0) (bs.getD (8 * k + 2) 0) (bs.getD (8 * k + 3) 0) (bs.getD (8 * k + 4) 0) (bs.getD (8 * k + 5) 0) (bs.getD (8 * k + 6) 0) (bs.getD (8 * k + 7) 0) from rfl)
      have c0 := hc 0 (by omega)
      have c1 := hc 1 (by omega)
      have c2 := hc 2 (by omega)
      have c3 := hc 3 (by omega)
      have c4 := hc 4 (by omega)
      have c5 := hc 5 (by omega)
      have c6 := hc 6 (by omega)
      have c7 := hc 7 (by omega)
      simp only [Nat.add_zero] at c0
      clear hc
      generalize bs.getD (8 * k) 0 = b0 at *
      generalize bs.getD (8 * k + 1) 0 = b1 at *
      generalize bs.getD (8 * k + 2) 0 = b2 at *
      generalize bs.getD (8 * k + 3) 0 = b3 at *
      generalize bs.getD (8 * k + 4) 0 = b4 at *
      generalize bs.getD (8 * k + 5) 0 = b5 at *
      generalize bs.getD (8 * k + 6) 0 = b6 at *
      generalize bs.getD (8 * k + 7) 0 = b7 at *
      go_upto_region 5 with (fail)
      go_region
      rw [off_eq]
      go_upto_region 6 with (fail)
      have x1 := x.drew
      have hown1 := owns_ext hown ((Ext.refl [] wr).drew) (by simp)
      have hob : ∀ p : Addr, wr.drew.cell? p = wr.cell? p := fun _ => rfl
      rw [← hob] at c0 c1 c2 c3 c4 c5 c6 c7
      clear hown x hob
      generalize wr.drew = w1 at *
      go_region
      rw [imm_eq]
      go_upto_region 7 with (fail)
      have x2 := x1.drew
      have hown2 := owns_ext hown1 ((Ext.refl [] w1).drew) (by simp)
      have hob : ∀ p : Addr, w1.drew.cell? p = w1.cell? p := fun _ => rfl
      rw [← hob] at c0 c1 c2 c3 c4 c5 c6 c7
      clear hown1 x1 hob c2 c3 c4 c5 c6 c7
      generalize w1.drew = w2 at *
      have hcl := Lib.hid (show insV [decAt bs k] = [Value.int IntKind.u8 (b0.toNat : Int), Value.int IntKind.u8 ((b1.toNat : Int).tmod 16), Value.int IntKind.u8 (IntKind.u8.wrap ((b1.toNat : Int) / 16)),
        Value.int IntKind.i16 (IntKind.i16.wrap ((b2.toNat + 256 * b3.toNat : Nat) : Int)), Value.int IntKind.i32 (IntKind.i32.wrap ((b4.toNat + 256 * b5.toNat + 65536 * b6.toNat + 16777216 * b7.toNat : Nat) : Int))] by
        rw [insV_one, hd.out, dec8_cells])
      clear hd
      have n0 : (0 : Int) ≤ 8 * (k : Int) := by omega
      have n1 : (0 : Int) ≤ 8 * (k : Int) + 1 := by omega
      have n2 : 8 * (k : Int) < 8 * (m : Int) := by omega
      have n3 : 8 * (k : Int) + 1 < 8 * (m : Int) := by omega
      have n4 : (8 * (k : Int)).toNat = 8 * k := by omega
      have n5 : (8 * (k : Int) + 1).toNat = 8 * k + 1 := by omega
      have n6 : IntKind.i64.wrap (8 * (k : Int) + 1) = 8 * (k : Int) + 1 := by rw [IntKind.wrap_i64]; omega
      generalize b2.toNat + 256 * b3.toNat = noff at *
      generalize b4.toNat + 256 * b5.toNat + 65536 * b6.toNat + 16777216 * b7.toNat = nimm at *
      have hvb : ∀ g, (Value.slice va k vc).ownBlock = some g → g ≠ bb := by
        intro g hg e
        have := hfr g hg
        omega
      have hbb2 : bb < w2.heap.size := by have := x2.size; omega
      have hstart : Ext (Value.slice va k vc).ownBlock.toList w2 w2.drew := (Ext.refl _ _).drew
      have HB := Lib.hid (fun w' (h : Ext (Value.slice va k vc).ownBlock.toList w2 w') => (show w'.cell? ⟨bb, oo + 8 * k, none⟩ = some (.int .u8 (b0.toNat : Int)) ∧ w'.cell? ⟨bb, oo + (8 * k + 1), none⟩ = some (.int .u8 (b1.toNat : Int)) from
        ⟨(h.cell (p := ⟨bb, oo + 8 * k, none⟩) hbb2 (by intro hm; exact hvb _ (by simpa using hm) rfl)).trans c0, (h.cell (p := ⟨bb, oo + (8 * k + 1), none⟩) hbb2 (by intro hm; exact hvb _ (by simpa using hm) rfl)).trans c1⟩))
      refine wp_region_held_drew (S := fun w' => Ext (Value.slice va k vc).ownBlock.toList w2 w') (by kernel_rfl) hstart (fun _ => ?_)
      refine wpAnyH_take (i := 0) (oi := ⟨some 58, _, _, _, _, _⟩) (v := ?_) rfl (by kernel_rfl) (by kernel_rfl) (by kernel_rfl) (fun _ _ _ h => h) (Or.inl ⟨by rfl, ?_⟩) (by assumption) ?_
      rotate_left 1
      · (intro w hSw; (try dsimp only at hSw); go_split_ands; have hcv := HB.out w (by assumption); go_simp; (try with_reducible rfl))
      try simp only [Act.put, List.setIfInBounds_toArray, List.set_cons_zero, List.set_cons_succ]
      refine wpAnyH_take (i := 1) (oi := ⟨some 59, _, _, _, _, _⟩) (v := ?_) rfl (by kernel_rfl) (by kernel_rfl) (by kernel_rfl) (fun _ _ _ h => h) (Or.inl ⟨by rfl, ?_⟩) (by assumption) ?_
      rotate_left 1
      · (intro w hSw; (try dsimp only at hSw); go_split_ands; have hcv := HB.out w (by assumption); go_simp; (try with_reducible rfl))
      try simp only [Act.put, List.setIfInBounds_toArray, List.set_cons_zero, List.set_cons_succ]
      refine wpAnyH_take (i := 2) (oi := ⟨some 60, _, _, _, _, _⟩) (v := ?_) rfl (by kernel_rfl) (by kernel_rfl) (by kernel_rfl) (fun _ _ _ h => h) (Or.inl ⟨by rfl, ?_⟩) (by assumption) ?_
      rotate_left 1
      · (intro w hSw; (try dsimp only at hSw); go_split_ands; have hcv := HB.out w (by assumption); go_simp; (try with_reducible rfl))
      try simp only [Act.put, List.setIfInBounds_toArray, List.set_cons_zero, List.set_cons_succ]
      refine wpAnyH_take (i := 3) (oi := ⟨some 61, _, _, _, _, _⟩) (v := ?_) rfl (by kernel_rfl) (by kernel_rfl) (by kernel_rfl) (fun _ _ _ h => h) (Or.inl ⟨by rfl, ?_⟩) (by assumption) ?_
      rotate_left 1
      · (intro w hSw; (try dsimp only at hSw); go_split_ands; have hcv := HB.out w (by assumption); go_simp; (try with_reducible rfl))
      try simp only [Act.put, List.setIfInBounds_toArray, List.set_cons_zero, List.set_cons_succ]
      refine wpAnyH_take (i := 4) (oi := ⟨some 62, _, _, _, _, _⟩) (v := ?_) rfl (by kernel_rfl) (by kernel_rfl) (by kernel_rfl) (fun _ _ _ h => h) (Or.inl ⟨by rfl, ?_⟩) (by assumption) ?_
      rotate_left 1
      · (intro w hSw; (try dsimp only at hSw); go_split_ands; have hcv := HB.out w (by assumption); go_simp; (try with_reducible rfl))
      try simp only [Act.put, List.setIfInBounds_toArray, List.set_cons_zero, List.set_cons_succ]
      refine wpAnyH_take (i := 5) (oi := ⟨some 63, _, _, _, _, _⟩) (v := ?_) rfl (by kernel_rfl) (by kernel_rfl) (by kernel_rfl) (fun _ _ _ h => h) (Or.inl ⟨by rfl, ?_⟩) (by assumption) ?_
      rotate_left 1
      · (intro w hSw; (try dsimp only at hSw); go_split_ands; have hcv := HB.out w (by assumption); go_simp; (try with_reducible rfl))
      try simp only [Act.put, List.setIfInBounds_toArray, List.set_cons_zero, List.set_cons_succ]
      refine wpAnyH_take (i := 6) (oi := ⟨some 64, _, _, _, _, _⟩) (v := ?_) rfl (by kernel_rfl) (by kernel_rfl) (by kernel_rfl) (fun _ _ _ h => h) (Or.inl ⟨by rfl, ?_⟩) (by assumption) ?_
      rotate_left 1
      · (intro w hSw; (try dsimp only at hSw); go_split_ands; have hcv := HB.out w (by assumption); go_simp; (try with_reducible rfl))
      try simp only [Act.put, List.setIfInBounds_toArray, List.set_cons_zero, List.set_cons_succ]
      refine wpAnyH_take (i := 7) (oi := ⟨some 65, _, _, _, _, _⟩) (v := ?_) rfl (by kernel_rfl) (by kernel_rfl) (by kernel_rfl) (fun _ _ _ h => h) (Or.inl ⟨by rfl, ?_⟩) (by assumption) ?_
      rotate_left 1
      · (intro w hSw; (try dsimp only at hSw); go_split_ands; have hcv := HB.out w (by assumption); go_simp; (try with_reducible rfl))
      try simp only [Act.put, List.setIfInBounds_toArray, List.set_cons_zero, List.set_cons_succ]
      refine wpAnyH_take (i := 8) (oi := ⟨some 66, _, _, _, _, _⟩) (v := ?_) rfl (by kernel_rfl) (by kernel_rfl) (by kernel_rfl) (fun _ _ _ h => h) (Or.inl ⟨by rfl, ?_⟩) (by assumption) ?_
      rotate_left 1
      · (intro w hSw; (try dsimp only at hSw); go_split_ands; have hcv := HB.out w (by assumption); go_simp; (try with_reducible rfl))
      try simp only [Act.put, List.setIfInBounds_toArray, List.set_cons_zero, List.set_cons_succ]
      refine wpAnyH_take (i := 9) (oi := ⟨some 67, _, _, _, _, _⟩) (v := ?_) rfl (by kernel_rfl) (by kernel_rfl) (by kernel_rfl) (fun _ _ _ h => h) (Or.inl ⟨by rfl, ?_⟩) (by assumption) ?_
      rotate_left 1
      · (intro w hSw; (try dsimp only at hSw); go_split_ands; have hcv := HB.out w (by assumption); go_simp; (try with_reducible rfl))
      try simp only [Act.put, List.setIfInBounds_toArray, List.set_cons_zero, List.set_cons_succ]
      refine wpAnyH_take (i := 10) (oi := ⟨some 68, _, _, _, _, _⟩) (v := ?_) rfl (by kernel_rfl) (by kernel_rfl) (by kernel_rfl) (fun _ _ _ h => h) (Or.inl ⟨by rfl, ?_⟩) (by assumption) ?_
      rotate_left 1
      · (intro w hSw; (try dsimp only at hSw); go_split_ands; have hcv := HB.out w (by assumption); go_simp; (try with_reducible rfl))
      try simp only [Act.put, List.setIfInBounds_toArray, List.set_cons_zero, List.set_cons_succ]
      refine wpAnyH_take (i := 11) (oi := ⟨some 69, _, _, _, _, _⟩) (v := ?_) rfl (by kernel_rfl) (by kernel_rfl) (by kernel_rfl) (fun _ _ _ h => h) (Or.inl ⟨by rfl, ?_⟩) (by assumption) ?_
      rotate_left 1
      · (intro w hSw; (try dsimp only at hSw); go_split_ands; have hcv := HB.out w (by assumption); go_simp; (try with_reducible rfl))
      try simp only [Act.put, List.setIfInBounds_toArray, List.set_cons_zero, List.set_cons_succ]
      refine wpAnyH_take (i := 12) (oi := ⟨some 70, _, _, _, _, _⟩) (v := ?_) rfl (by kernel_rfl) (by kernel_rfl) (by kernel_rfl) (fun _ _ _ h => h) (Or.inl ⟨by rfl, ?_⟩) (by assumption) ?_
      rotate_left 1
      · (intro w hSw; (try dsimp only at hSw); go_split_ands; have hcv := HB.out w (by assumption); go_simp; (try with_reducible rfl))
      try simp only [Act.put, List.setIfInBounds_toArray, List.set_cons_zero, List.set_cons_succ]
      refine wpAnyH_take (i := 13) (oi := ⟨some 71, _, _, _, _, _⟩) (v := ?_) rfl (by kernel_rfl) (by kernel_rfl) (by kernel_rfl) (fun _ _ _ h => h) (Or.inl ⟨by rfl, ?_⟩) (by assumption) ?_
      rotate_left 1
      · (intro w hSw; (try dsimp only at hSw); go_split_ands; have hcv := HB.out w (by assumption); go_simp; (try with_reducible rfl))
      try simp only [Act.put, List.setIfInBounds_toArray, List.set_cons_zero, List.set_cons_succ]
      refine wpAnyH_take (i := 14) (oi := ⟨some 72, _, _, _, _, _⟩) (v := ?_) rfl (by kernel_rfl) (by kernel_rfl) (by kernel_rfl) (fun _ _ _ h => h) (Or.inl ⟨by rfl, ?_⟩) (by assumption) ?_
      rotate_left 1
      · (intro w hSw; (try dsimp only at hSw); go_split_ands; have hcv := HB.out w (by assumption); go_simp; (try with_reducible rfl))
      try simp only [Act.put, List.setIfInBounds_toArray, List.set_cons_zero, List.set_cons_succ]
      refine wpAnyH_take (i := 15) (oi := ⟨some 73, _, _, _, _, _⟩) (v := ?_) rfl (by kernel_rfl) (by kernel_rfl) (by kernel_rfl) (fun _ _ _ h => h) (Or.inl ⟨by rfl, ?_⟩) (by assumption) ?_
      rotate_left 1
      · (intro w hSw; (try dsimp only at hSw); go_split_ands; have hcv := HB.out w (by assumption); go_simp; (try with_reducible rfl))
      try simp only [Act.put, List.setIfInBounds_toArray, List.set_cons_zero, List.set_cons_succ]
      refine wpAnyH_take (i := 16) (oi := ⟨some 74, _, _, _, _, _⟩) (v := ?_) rfl (by kernel_rfl) (by kernel_rfl) (by kernel_rfl) (fun _ _ _ h => h) (Or.inl ⟨by rfl, ?_⟩) (by assumption) ?_
      rotate_left 1
      · (intro w hSw; (try dsimp only at hSw); go_split_ands; have hcv := HB.out w (by assumption); go_simp; (try with_reducible rfl))
      try simp only [Act.put, List.setIfInBounds_toArray, List.set_cons_zero, List.set_cons_succ]
      refine wpAnyH_take (i := 17) (oi := ⟨some 75, _, _, _, _, _⟩) (v := ?_) rfl (by kernel_rfl) (by kernel_rfl) (by kernel_rfl) (fun _ _ _ h => h) (Or.inl ⟨by rfl, ?_⟩) (by assumption) ?_
      rotate_left 1
      · (intro w hSw; (try dsimp only at hSw); go_split_ands; have hcv := HB.out w (by assumption); go_simp; (try with_reducible rfl))
      try simp only [Act.put, List.setIfInBounds_toArray, List.set_cons_zero, List.set_cons_succ]
      refine wpAnyH_take (i := 18) (oi := ⟨some 76, _, _, _, _, _⟩) (v := ?_) rfl (by kernel_rfl) (by kernel_rfl) (by kernel_rfl) (fun _ _ _ h => h) (Or.inl ⟨by rfl, ?_⟩) (by assumption) ?_
      rotate_left 1
      · (intro w hSw; (try dsimp only at hSw); go_split_ands; have hcv := HB.out w (by assumption); go_simp; (try with_reducible rfl))
      try simp only [Act.put, List.setIfInBounds_toArray, List.set_cons_zero, List.set_cons_succ]
      refine wpAnyH_take (i := 19) (oi := ⟨some 77, _, _, _, _, _⟩) (v := ?_) rfl (by kernel_rfl) (by kernel_rfl) (by kernel_rfl) (fun _ _ _ h => h) (Or.inl ⟨by rfl, ?_⟩) (by assumption) ?_
      rotate_left 1
      · (intro w hSw; (try dsimp only at hSw); go_split_ands; have hcv := HB.out w (by assumption); go_simp; (try with_reducible rfl))
      try simp only [Act.put, List.setIfInBounds_toArray, List.set_cons_zero, List.set_cons_succ]
      refine wpAnyH_take (i := 20) (oi := ⟨some 78, _, _, _, _, _⟩) (v := ?_) rfl (by kernel_rfl) (by kernel_rfl) (by kernel_rfl) (fun _ _ _ h => h) (Or.inl ⟨by rfl, ?_⟩) (by assumption) ?_
      rotate_left 1
      · (intro w hSw; (try dsimp only at hSw); go_split_ands; have hcv := HB.out w (by assumption); go_simp; (try with_reducible rfl))
      try simp only [Act.put, List.setIfInBounds_toArray, List.set_cons_zero, List.set_cons_succ]
      refine wpAnyH_take (i := 21) (oi := ⟨some 79, _, _, _, _, _⟩) (v := ?_) rfl (by kernel_rfl) (by kernel_rfl) (by kernel_rfl) (fun _ _ _ h => h) (Or.inl ⟨by rfl, ?_⟩) (by assumption) ?_
      rotate_left 1
      · (intro w hSw; (try dsimp only at hSw); go_split_ands; have hcv := HB.out w (by assumption); go_simp; (try with_reducible rfl))
      try simp only [Act.put, List.setIfInBounds_toArray, List.set_cons_zero, List.set_cons_succ]
      refine wpAnyH_ready (rs := [22]) (by kernel_rfl) (by simp) ?_
      refine AllReadyH.cons (o := ⟨some 80, _, _, _, _, _⟩) rfl (fun K hK => ?_) AllReadyH.nil
      go_simp
      refine hK.out _ _ ((Ext.refl _ _).drew.alloc _) (fun _ => ?_)
      clear hK K
      try simp only [Act.put, List.setIfInBounds_toArray, List.set_cons_zero, List.set_cons_succ]
      refine wpAnyH_ready (rs := [23]) (by kernel_rfl) (by simp) ?_
      refine AllReadyH.cons (o := ⟨some 81, _, _, _, _, _⟩) rfl (fun K hK => ?_) AllReadyH.nil
      refine step_app _ rfl (.tmp 58) (.tmp 80) 22 rfl 32 i1 _ 5 12 Try.underlying22 hi hz0 hz1 hz2 rfl (by decide) (.slice va k vc) _ _ rfl (owns_ext hown2 (((Ext.refl [] w2).drew).alloc _) (by simp)) (.slice (some ⟨w2.heap.size, 0, none⟩) 1 1) 1 _ rfl (blk_reads (Blk.new w2.drew 32 #[_, _, _, _, _]) 1 rfl) (by intro u hu; simp at hu; rcases hu with rfl | rfl | rfl | rfl | rfl <;> rfl) (by unfold maxLen; omega) (by omega) ?_
      intro v7 w7 hown7 hgrow7 hfr7 _
      refine hK.out _ _ (((Ext.refl _ _).drew.alloc _).grown hgrow7 (by intro g hg; left; simp [hg])) (fun _ => ?_)
      clear hK K
      try simp only [Act.put, List.setIfInBounds_toArray, List.set_cons_zero, List.set_cons_succ]
      go_simp
      try simp only [Act.put, List.setIfInBounds_toArray, List.set_cons_zero, List.set_cons_succ]
      refine wpAnyH_take (i := 24) (oi := ⟨some 3, _, _, _, _, _⟩) (v := ?_) rfl (by kernel_rfl) (by kernel_rfl) (by kernel_rfl) (fun _ _ _ h => h) (Or.inl ⟨by rfl, ?_⟩) (((Ext.refl _ _).drew.alloc _).grown hgrow7 (by intro g hg; left; simp [hg])) ?_
      rotate_left 1
      · (intro w hSw; (try dsimp only at hSw); go_simp; (try with_reducible rfl))
      try simp only [Act.put, List.setIfInBounds_toArray, List.set_cons_zero, List.set_cons_succ]
      refine wpAnyH_done (by kernel_rfl) ?_ _
      have x7 : Ext [] w w7 := ((x2.drew).alloc _).grown hgrow7 (by intro g hg; exact .inr (hfr g hg))
      have fr7 : ∀ g, v7.ownBlock = some g → w.heap.size ≤ g := rows_fr7 x2 hfr hfr7
      have hown8 : w7.ownsRow 0 32 5 v7 (k + 1) (insV (decN bs (k + 1))) := by rw [hst.out, insV_append, hcl.out]; exact hown7
      clear hown7 hgrow7 hfr7 hstart HB hvb hown2 x2
      go_wp2_with fail
      go_roundw
      case rel => exact ⟨k + 1, by omega, by go_num, hown8, x7, fr7⟩
      case measure => simp [intOf]; omega
    · obtain rfl : k = m := by omega
      have n9 : ¬ (8 * (k : Int) + 8 ≤ 8 * (k : Int)) := by omega
      go_wp2_with fail
      go_ret
      exact ⟨_, rfl, hown, x⟩
end Go.Proofs.Ytipcgebaihndgaa
