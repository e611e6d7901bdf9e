/- Package digest: Hex; the known text's sum. -/
import Derived.Test.YtbjkfgfiifnjoaaDoorJoined
import Derived.Laws.IdiomStrings
import Derived.Lib.SlBytesConst
namespace Go.Proofs.YtbjkfgfiifnjoaaDoor
open Go.RowKit
set_option maxRecDepth 100000

def signs : List UInt8 := [48, 49, 50, 51, 52, 53, 54, 55, 56, 57, 97, 98, 99, 100, 101, 102]
def hexOf (l : List UInt8) : List UInt8 := (l.map fun c => [signs.getD (c.toNat / 16) 0, signs.getD (c.toNat % 16) 0]).flatten

theorem hexOf_snoc (l : List UInt8) (c : UInt8) : hexOf (l ++ [c]) = hexOf l ++ [signs.getD (c.toNat / 16) 0, signs.getD (c.toNat % 16) 0] := by simp [hexOf]
theorem hexOf_take (l : List UInt8) (k : Nat) (hk : k < l.length) : hexOf (l.take (k + 1)) = hexOf (l.take k) ++ [signs.getD ((l.getD k 0).toNat / 16) 0, signs.getD ((l.getD k 0).toNat % 16) 0] := by
  rw [List.take_succ_eq_append_getElem hk, hexOf_snoc]; simp [List.getD, hk]
theorem hexOf_length (l : List UInt8) : (hexOf l).length = 2 * l.length := by
  induction l with
  | nil => rfl
  | cons a l ih => simp [hexOf] at ih ⊢; omega

theorem byte_and15 (c : UInt8) : bits .and .u8 (c.toNat : Int) 15 = ((c.toNat % 16 : Nat) : Int) := by
  have h : ∀ n : Fin 256, bits .and .u8 ((n.val : Nat) : Int) 15 = ((n.val % 16 : Nat) : Int) := by decide +kernel
  exact h ⟨c.toNat, c.toNat_lt⟩

theorem sign_at (k : Nat) (hk : k < 16) (z : Int) (hz : z = (k : Int)) (h : z.toNat < (⟨#[48, 49, 50, 51, 52, 53, 54, 55, 56, 57, 97, 98, 99, 100, 101, 102]⟩ : ByteArray).size) : (⟨#[48, 49, 50, 51, 52, 53, 54, 55, 56, 57, 97, 98, 99, 100, 101, 102]⟩ : ByteArray)[z.toNat] = signs.getD k 0 := by
  subst hz
  have h : ∀ n : Fin 16, (⟨#[48, 49, 50, 51, 52, 53, 54, 55, 56, 57, 97, 98, 99, 100, 101, 102]⟩ : ByteArray)[n.val]'(by have := n.isLt; exact this) = signs.getD n.val 0 := by decide +kernel
  exact h ⟨k, hk⟩

set_option maxHeartbeats 4000000 in
set_option maxRecDepth 100000 in
theorem hex_any (l : List UInt8) (w : World) (hl : l.length = 32) :
    Calls Tryd.prog 45 #[.agg (bytesV l).toArray] w fun e w' => e = .returned (.string ⟨(hexOf l).toArray⟩) ∧ Ext [] w w' := by
  obtain ⟨i0, hi, hz0, hz1, hz2⟩ := info_parts info_byte
  have hidx : ∀ t : Nat, t < 32 → ∀ w, (Instr.index 36 (.agg (bytesV l).toArray) (.int .i64 (t : Int))).run Tryd.prog w = .ok (.int .u8 ((l.getD t 0).toNat : Int)) w := by
    intro t ht w
    refine run_index_arr rfl Tryd.underlying36 Tryd.underlying5 (by kernel_rfl) (bytesV l) t _ ht ?_ w
    unfold bytesV
    simp [List.getD, show t < l.length by omega]
  have HI := Lib.hid hidx
  have hOl : (bytesV l).length = 32 := by rw [bytesV_length, hl]
  have hob : ∀ u ∈ bytesV l, u.oneCell' = true := bytesV_one _
  clear hidx
  obtain ⟨ov, hov⟩ : ∃ ov, ov = bytesV l := ⟨_, rfl⟩
  rw [← hov] at HI hOl hob ⊢
  have HL := Lib.hid hl
  clear hov hl
  go_enter Tryd.func45, Tryd.ntmps45
  go_upto_region 1 with (fail)
  have BO := Blk.new w 36 ov.toArray
  have x1 : Ext [] w (w.alloc (.cells ov.toArray 36)) := (Ext.refl _ _).alloc _
  generalize w.alloc (.cells ov.toArray 36) = w1 at *
  go_upto_region 2 with (fail)
  apply wp_region_lit
  refine wpList_ldpart rfl 36 (.tmp 1) rfl w.heap.size 0 rfl ov _ BO.part Tryd.underlying36 rfl (by rw [hOl]; kernel_rfl) ?_
  obtain ⟨arr, harr⟩ : ∃ arr, arr = ov.toArray := ⟨_, rfl⟩
  have HI2 := HI.out
  rw [← harr] at HI2 ⊢
  have HX := Lib.hid HI2
  clear harr HI HI2 BO hOl hob
  go_wp2_with fail
  go_loopw [3, 7] (fun v i wr => ∃ k : Nat, k ≤ 32 ∧ i = .int .i64 k ∧ wr.ownsRow 0 5 1 v (2 * k) (bytesV (hexOf (l.take k))) ∧ Ext [] w1 wr ∧ ∀ g, v.ownBlock = some g → w1.heap.size ≤ g) (fun _ i _ => 32 - (intOf i).toNat)
  case atStart => exact ⟨0, by omega, rfl, by simpa [bytesV, hexOf] using World.ownsRow_nil _ _ _ _, Ext.refl _ _, fun g h => by cases h⟩
  case round =>
    obtain ⟨k, hk, rfl, hown, x, hfr⟩ := hrel
    obtain ⟨va, vc, rfl⟩ := owns_slice hown
    by_cases hlt : k < 32
    · have hidx := HX.out k hlt
      have hst := Lib.hid (hexOf_take l k (by rw [HL.out]; exact hlt))
      generalize l.getD k 0 = c at *
      have hc : c.toNat < 256 := c.toNat_lt
      go_upto_region 5 with (fail)
      have ha := byte_and15 c
      have hd1 : (0 : Int) ≤ (c.toNat : Int) / 16 := by omega
      have hd2 : (c.toNat : Int) / 16 < 16 := by omega
      have hd3 : (0 : Int) ≤ (c.toNat : Int) % 16 := by omega
      have hd4 : (c.toNat : Int) % 16 < 16 := by omega
      have hs1 := sign_at (c.toNat / 16) (by omega) ((c.toNat : Int) / 16) (by omega)
      have hs2 := sign_at (c.toNat % 16) (by omega) ((c.toNat : Int) % 16) (by omega)
      generalize signs.getD (c.toNat / 16) 0 = q1 at *
      generalize signs.getD (c.toNat % 16) 0 = q2 at *
      go_region_law (refine step_app _ rfl (.tmp 10) (.tmp 17) 39 rfl 5 i0 (.int .u8 0) 1 1 Tryd.underlying39 hi hz0 hz1 hz2 rfl (by decide) (.slice va (2 * k) vc) _ _ rfl (owns_ext hown (((Ext.refl [] wr).alloc _).drew) (by simp)) (.slice (some ⟨wr.heap.size, 0, none⟩) 2 2) 2 [.int .u8 (q1.toNat : Int), .int .u8 (q2.toNat : Int)] rfl (blk_reads (Blk.new wr 5 #[.int .u8 (q1.toNat : Int), .int .u8 (q2.toNat : Int)]).drew 2 rfl) (by intro u hu; simp at hu; rcases hu with rfl | rfl <;> rfl) (by unfold maxLen; omega) (by omega) ?_; intro v7 w7 hown7 hgrow7 hfr7 _)
      all_goals
        go_wp2_with fail
        go_roundw
        case rel =>
          refine ⟨k + 1, by omega, by go_num, ?_, ((x.alloc _).drew).grown hgrow7 (by intro g hg; exact .inr (hfr g hg)), ?_⟩
          · rw [hst.out, bytesV_append, show 2 * (k + 1) = 2 * k + 2 by omega]; exact hown7
          · intro g hg
            have := x.size
            rcases hfr7 with h | ⟨g', h, hle'⟩
            · exact hfr g (h ▸ hg)
            · rw [h] at hg; obtain rfl := Option.some.inj hg; simp at hle'; omega
        case measure => simp [intOf]; omega
    · have hk' : k = 32 := by omega
      have HL2 := HL.out
      rw [hk', ← HL2, List.take_length] at hown
      have hll : 2 * k = (hexOf l).length := by rw [hexOf_length, HL2, hk']
      rw [← hexOf_length] at hown
      obtain ⟨g, cap', cur, he, hblk, -, -, -, htk⟩ := owns_some hown (by rw [hexOf_length, HL2]; omega)
      have hcv : (convert 39 9 (.slice va (2 * k) vc)).run Tryd.prog wr = .ok (.string ⟨(hexOf l).toArray⟩) wr := by
        rw [hll]
        cases he
        refine run_convert_bytes_back wr _ _ 5 ⟨g, 0, none⟩ vc (hexOf l) Tryd.underlying39 Tryd.underlying5 Tryd.underlying9 ?_
        intro j hj
        rw [Addr.add_lit, Nat.zero_add, hown.cellAt j (by omega)]
        unfold bytesV
        simp [hj]
      clear hown hk' hll hblk htk he HL2 hfr
      go_wp2_with fail
      go_ret
      exact ⟨rfl, x1.trans x⟩

def abcText : List UInt8 := [97, 98, 99]
theorem sum_abc : sumOf abcText = [0xba,0x78,0x16,0xbf,0x8f,0x01,0xcf,0xea,0x41,0x41,0x40,0xde,0x5d,0xae,0x22,0x23,0xb0,0x03,0x61,0xa3,0x96,0x17,0x7a,0x9c,0xb4,0x10,0xff,0x61,0xf2,0x00,0x15,0xad] := by decide +kernel
theorem hex_abc : hexOf (sumOf abcText) = [98, 97, 55, 56, 49, 54, 98, 102, 56, 102, 48, 49, 99, 102, 101, 97, 52, 49, 52, 49, 52, 48, 100, 101, 53, 100, 97, 101, 50, 50, 50, 51, 98, 48, 48, 51, 54, 49, 97, 51, 57, 54, 49, 55, 55, 97, 57, 99, 98, 52, 49, 48, 102, 102, 54, 49, 102, 50, 48, 48, 49, 53, 97, 100] := by rw [sum_abc]; decide +kernel

end Go.Proofs.YtbjkfgfiifnjoaaDoor
