/- Package insn: Decode of a row of the call's own; bytes there and back. -/
import Derived.Test.YtbjkfgfiifnjoaaDoorDec
import Derived.Test.YtbjkfgfiifnjoaaDoorIns
import Derived.Test.YtbjkfgfiifnjoaaDoorHeld
namespace Go.Proofs.YtbjkfgfiifnjoaaDoor
open Go.RowKit
set_option maxRecDepth 100000

/-- What Decode answers. -/
def DecPost (w : World) (bs : List UInt8) (e : Ending) (w' : World) : Prop :=
  if bs.length % 8 = 0 ∧ bs.length ≤ 2048 then ∃ v5, e = .returned (.tuple #[v5, .int .i64 0]) ∧ w'.ownsRow 0 25 5 v5 (bs.length / 8) (insV (decN bs (bs.length / 8))) ∧ Ext [] w w' ∧ ∀ g, v5.ownBlock = some g → w.heap.size ≤ g
  else e = .returned (.tuple #[.slice none 0 0, .int .i64 (if bs.length % 8 = 0 then 7 else 22)]) ∧ Ext [] w w'

set_option maxHeartbeats 2000000 in
theorem decode_own (v : Value) (bs : List UInt8) (w : World) (h : w.ownsRow 0 5 1 v bs.length (bytesV bs)) (hl : bs.length ≤ 100000) :
    Calls Tryd.prog 15 #[v] w (DecPost w bs) := by
  by_cases hok : bs.length % 8 = 0 ∧ bs.length ≤ 2048
  · have hfin : ∀ (e : Ending) (w' : World), (∃ v5, e = .returned (.tuple #[v5, .int .i64 0]) ∧ w'.ownsRow w.heap.size 25 5 v5 (bs.length / 8) (insV (decN bs (bs.length / 8))) ∧ Ext [] w w') → DecPost w bs e w' := by
      rintro e w' ⟨v5, rfl, ⟨h1, h2⟩, x⟩
      unfold DecPost
      rw [if_pos hok]
      refine ⟨v5, rfl, ⟨h1, ?_⟩, x, ?_⟩
      · rcases h2 with h2 | ⟨g, cap, cur, h3, h4, h5, h6⟩
        · exact .inl h2
        · exact .inr ⟨g, cap, cur, h3, Nat.zero_le _, h5, h6⟩
      · intro g hg
        rcases h2 with ⟨rfl, -⟩ | ⟨g', cap, cur, rfl, h4, -⟩
        · cases hg
        · cases hg; exact h4
    by_cases h0 : 0 < bs.length
    · obtain ⟨g, cap, cur, rfl, hb, hc, -, -, -⟩ := owns_some h h0
      refine (decode_ok (some ⟨g, 0, none⟩) bs.length (bs.length / 8) cap g 0 bs w (by omega) (by omega) hc (fun _ => rfl) (fun _ => hb.lt) ?_).mono hfin
      intro j hj
      rw [Nat.zero_add, h.cellAt j (by omega), bytesV_at bs j hj]
    · have e0 : bs = [] := List.eq_nil_of_length_eq_zero (by omega)
      subst e0
      obtain ⟨a, c, rfl⟩ := owns_slice h
      exact (decode_ok a 0 0 c 0 0 [] w rfl (by omega) (Nat.zero_le _) (fun e => by omega) (fun e => by omega) (fun j hj => by omega)).mono hfin
  · have HD := Lib.hid (show ∀ e w', e = .returned (.tuple #[.slice none 0 0, .int .i64 (if bs.length % 8 = 0 then 7 else 22)]) ∧ Ext [] w w' → DecPost w bs e w' from fun e w' h => by unfold DecPost; rw [if_neg hok]; exact h)
    obtain ⟨a, c, rfl⟩ := owns_slice h
    by_cases h8 : bs.length % 8 = 0
    · have h2 : (2048 : Int) < (bs.length : Int) := by omega
      have h8' : ((bs.length : Int) % 8) = 0 := by omega
      rw [if_pos h8] at HD
      go_enter Tryd.func15, Tryd.ntmps15
      go_wp2_with fail
      go_ret2
      exact HD.out _ _ ⟨rfl, Ext.refl _ _⟩
    · have h8' : (((bs.length : Int) % 8) == 0) = false := by rw [beq_eq_false_iff_ne]; omega
      rw [if_neg h8] at HD
      go_enter Tryd.func15, Tryd.ntmps15
      go_wp2_with fail
      go_ret2
      exact HD.out _ _ ⟨rfl, Ext.refl _ _⟩

/-! ### Bytes there and back -/
theorem encI_dec8 (b0 b1 b2 b3 b4 b5 b6 b7 : UInt8) : encI (dec8 b0 b1 b2 b3 b4 b5 b6 b7) = [b0, b1, b2, b3, b4, b5, b6, b7] := by
  have h1 := b1.toNat_lt
  have h2 := b2.toNat_lt
  have h3 := b3.toNat_lt
  have h4 := b4.toNat_lt
  have h5 := b5.toNat_lt
  have h6 := b6.toNat_lt
  have h7 := b7.toNat_lt
  have e : ∀ (b : UInt8) (n : Nat), n % 256 = b.toNat → UInt8.ofNat n = b := fun b n h => UInt8.toNat_inj.1 (by rw [UInt8.toNat_ofNat']; exact h)
  unfold encI dec8
  simp only [UInt8.toNat_ofNat', BitVec.toNat_ofNat]
  rw [e b1 _ (by omega), e b2 _ (by omega), e b3 _ (by omega), e b4 _ (by omega), e b5 _ (by omega), e b6 _ (by omega), e b7 _ (by omega)]
theorem encL_at : ∀ (l : List Ins) (k j : Nat) (hk : k < l.length), j < 8 → (encL l).getD (8 * k + j) 0 = (encI l[k]).getD j 0
  | [], _, _, hk, _ => by simp at hk
  | x :: l, 0, j, _, hj => by
    have e : encL (x :: l) = encI x ++ encL l := by simp [encL]
    rw [e, List.getD_eq_getElem?_getD, List.getElem?_append_left (by rw [encI_length]; omega)]
    simp [List.getD]
  | x :: l, k + 1, j, hk, hj => by
    have e : encL (x :: l) = encI x ++ encL l := by simp [encL]
    rw [e, List.getD_eq_getElem?_getD, List.getElem?_append_right (by rw [encI_length]; omega), encI_length, show 8 * (k + 1) + j - 8 = 8 * k + j by omega, ← List.getD_eq_getElem?_getD, encL_at l k j (by simpa using hk) hj]
    simp
theorem enc_dec (bs : List UInt8) (m : Nat) (hm : bs.length = 8 * m) : encL (decN bs m) = bs := by
  apply List.ext_getElem
  · rw [encL_length, decN_length, hm]
  · intro i h1 h2
    have hi : i = 8 * (i / 8) + i % 8 := by omega
    have hk : i / 8 < (decN bs m).length := by rw [decN_length]; omega
    have h := encL_at (decN bs m) (i / 8) (i % 8) hk (by omega)
    rw [← hi] at h
    have e1 : (encL (decN bs m))[i] = (encL (decN bs m)).getD i 0 := by simp [List.getD, h1]
    have e2 : bs[i] = bs.getD i 0 := by simp [List.getD, h2]
    rw [e1, e2, h, show (decN bs m)[i / 8] = decAt bs (i / 8) by simp [decN]]
    unfold decAt
    rw [encI_dec8]
    have hj : i % 8 < 8 := by omega
    clear h e1 e2 hk
    generalize i % 8 = j at *
    generalize i / 8 = q at *
    rw [hi]
    match j, hj with
    | 0, _ => rfl
    | 1, _ => rfl
    | 2, _ => rfl
    | 3, _ => rfl
    | 4, _ => rfl
    | 5, _ => rfl
    | 6, _ => rfl
    | 7, _ => rfl
theorem dec8_encI (x : Ins) : decAt (encI x) 0 = m16 x := by
  obtain ⟨op, dst, src, off, imm⟩ := x
  have h1 := dst.toNat_lt
  have h2 := src.toNat_lt
  have h3 := off.isLt
  have h4 := imm.isLt
  unfold decAt dec8 encI m16
  simp only [List.getD_cons_zero, List.getD_cons_succ, Nat.mul_zero, Nat.zero_add]
  congr 1
  · congr 1
    rw [UInt8.toNat_ofNat']; omega
  · congr 1
    rw [UInt8.toNat_ofNat']; omega
  · apply BitVec.eq_of_toNat_eq
    simp only [UInt8.toNat_ofNat', BitVec.toNat_ofNat]; omega
  · apply BitVec.eq_of_toNat_eq
    simp only [UInt8.toNat_ofNat', BitVec.toNat_ofNat]; omega
theorem dec_enc (l : List Ins) : decN (encL l) l.length = l.map m16 := by
  apply List.ext_getElem
  · simp [decN]
  · intro k h1 h2
    have hk : k < l.length := by simpa using h2
    rw [List.getElem_map, ← dec8_encI, show (decN (encL l) l.length)[k] = decAt (encL l) k by simp [decN]]
    unfold decAt
    have h0 := encL_at l k 0 hk (by omega)
    rw [Nat.add_zero] at h0
    rw [h0, encL_at l k 1 hk (by omega), encL_at l k 2 hk (by omega), encL_at l k 3 hk (by omega), encL_at l k 4 hk (by omega), encL_at l k 5 hk (by omega), encL_at l k 6 hk (by omega), encL_at l k 7 hk (by omega)]
end Go.Proofs.YtbjkfgfiifnjoaaDoor
