/- The document's answer of digest: Hex. -/
import Derived.Test.YtgpegjadjidjmaaDoorRefJ
import Derived.Test.YtgpegjadjidjmaaDoorHex
import Derived.WalkSpells
namespace Go.Proofs.YtgpegjadjidjmaaDoor
open Go.RowKit

theorem sign_cut (j : Nat) (hj : j < 16) : (⟨#[48, 49, 50, 51, 52, 53, 54, 55, 56, 57, 97, 98, 99, 100, 101, 102]⟩ : ByteArray).extract j (j + 1) = ⟨#[signs.getD j 0]⟩ := by
  have h : ∀ n : Fin 16, ((⟨#[48, 49, 50, 51, 52, 53, 54, 55, 56, 57, 97, 98, 99, 100, 101, 102]⟩ : ByteArray).extract n.val (n.val + 1)).data = #[signs.getD n.val 0] := by decide +kernel
  exact ByteArray.ext (h ⟨j, hj⟩)
theorem ba_append (a b : Array UInt8) : (⟨a⟩ : ByteArray) ++ ⟨b⟩ = ⟨a ++ b⟩ := ByteArray.ext (by simp)

set_option maxHeartbeats 4000000 in
set_option maxRecDepth 100000 in
theorem rhex_any (v : Value) (l : List UInt8) (w : World) (hr : Reads w v 1 l.length (bytesV l)) (hl : l.length = 32) :
    Calls Tryd.prog 11 #[v] w fun e w' => e = .returned (.string ⟨(hexOf l).toArray⟩) ∧ Ext [] w w' := by
  obtain ⟨ao, c, rfl, -, hnone, hcells⟩ := hr
  obtain ⟨ad, rfl⟩ : ∃ ad, ao = some ad := by
    cases ao with
    | none => have := (hnone rfl).1; omega
    | some ad => exact ⟨ad, rfl⟩
  have HC := Lib.hid (fun j (hj : j < 32) => (show w.cell? (ad.add j) = some (.int .u8 ((l.getD j 0).toNat : Int)) from hcells ad rfl j _ (by unfold bytesV; simp [List.getD, show j < l.length by omega])))
  clear hnone hcells
  rw [hl]
  have HL := Lib.hid hl
  clear hl
  go_enter Tryd.func11, Tryd.ntmps11
  go_wp2_with fail
  go_loopw [4, 5] (fun s i wr => ∃ k : Nat, k ≤ 32 ∧ i = .int .i64 (k : Int) ∧ s = .string ⟨(hexOf (l.take k)).toArray⟩ ∧ Ext [] w wr ∧ ∃ n, wr = w.drewN n) (fun _ i _ => 32 - (intOf i).toNat)
  case atStart => exact ⟨0, by omega, rfl, by simp [hexOf], Ext.refl _ _, 0, rfl⟩
  case round =>
    obtain ⟨k, hk, rfl, rfl, x, n, rfl⟩ := hrel
    by_cases hlt : k < 32
    · have hcell := HC.out k hlt
      have hst := Lib.hid (hexOf_take l k (by rw [HL.out]; exact hlt))
      have hlen := hexOf_length (l.take k)
      have hlen2 : (l.take k).length ≤ 32 := by simp; omega
      generalize l.getD k 0 = ch at *
      generalize hexOf (l.take k) = pre at *
      have hc : ch.toNat < 256 := ch.toNat_lt
      have hd1 : (0 : Int) ≤ (ch.toNat : Int) / 16 := by omega
      have hd2 : (ch.toNat : Int) / 16 < 16 := by omega
      have hd3 : (0 : Int) ≤ (ch.toNat : Int) % 16 := by omega
      have hd4 : (ch.toNat : Int) % 16 < 16 := by omega
      go_upto_region 6 with (fail)
      go_quiet (fail)
      clear hd1 hd2 hd3 hd4
      go_wp2_with fail
      go_roundw
      case rel =>
        go_light
        refine ⟨k + 1, by omega, by go_num, ?_, (Ext.refl _ _).drewN _, _, rfl⟩
        rw [sign_cut _ (by omega), sign_cut _ (by omega), ba_append, ba_append, hst.out]
        simp
      case measure => simp [intOf]; omega
    · have hk' : k = 32 := by omega
      have hf := Lib.hid (show hexOf (l.take k) = hexOf l by rw [hk', List.take_of_length_le (by rw [HL.out]; omega)])
      clear hk'
      rw [hf.out]
      obtain ⟨hx, hhx⟩ : ∃ hx, hx = hexOf l := ⟨_, rfl⟩
      rw [← hhx]
      have HX := Lib.hid hhx
      clear hf hhx
      go_wp2_with fail
      go_ret
      exact ⟨by rw [← HX.out]; rfl, x⟩
end Go.Proofs.YtgpegjadjidjmaaDoor
