/- The law RegistryFull: the walk. -/
import Derived.Test.YtgcbgeombbohpaaDoorRegM
namespace Go.Proofs.YtgcbgeombbohpaaDoor
open Go.RowKit
set_option maxRecDepth 100000
def KF (i : Nat) : List UInt8 := UInt8.ofNat i :: 1 :: List.replicate 30 0
theorem KF_length (i : Nat) : (KF i).length = 32 := by simp [KF]
theorem KF_ne (i k : Nat) (hi : i < 256) (hk : k < 256) (h : i ≠ k) : KF i ≠ KF k := by
  intro e
  simp [KF] at e
  have := congrArg UInt8.toNat e
  simp [Nat.mod_eq_of_lt hi, Nat.mod_eq_of_lt hk] at this
  exact h this
theorem KF_val (i : Nat) (h : i < 256) : (bytesV (KF i)).toArray = #[.int .u8 (i : Int), .int .u8 1, .int .u8 0, .int .u8 0, .int .u8 0, .int .u8 0, .int .u8 0, .int .u8 0, .int .u8 0, .int .u8 0, .int .u8 0, .int .u8 0, .int .u8 0, .int .u8 0, .int .u8 0, .int .u8 0, .int .u8 0, .int .u8 0, .int .u8 0, .int .u8 0, .int .u8 0, .int .u8 0, .int .u8 0, .int .u8 0, .int .u8 0, .int .u8 0, .int .u8 0, .int .u8 0, .int .u8 0, .int .u8 0, .int .u8 0, .int .u8 0] := by
  simp [KF, bytesV, List.replicate, Nat.mod_eq_of_lt h]
theorem u8_wrap_full (k : Nat) (h : k < 256) : IntKind.u8.wrap (k : Int) = (k : Int) := by
  simp [IntKind.wrap, IntKind.bits, IntKind.signed]; omega

set_option maxHeartbeats 16000000 in
theorem full_walk (a0 a1 : Int) (w : World) (G : DigG w) :
    Calls Tryd.prog 6 #[.int .i64 a0, .int .i64 a1] w fun e w' => e = .returned (.bool true) ∧ Ext [] w w' := by
  have HG := Lib.hid (fun w' (x' : Ext [] w w') => G.ext x' (by simp) (by simp))
  have HADD := Lib.hid (fun (i : Nat) (hi : i < 36) bg v sp n w' (L : RegL w w' bg v (esO KF sp n)) (hn : n ≤ 1000) => (show Calls Tryd.prog 9 #[.pointer (some ⟨bg, 0, none⟩), .agg #[.int .u8 (i : Int), .int .u8 1, .int .u8 0, .int .u8 0, .int .u8 0, .int .u8 0, .int .u8 0, .int .u8 0, .int .u8 0, .int .u8 0, .int .u8 0, .int .u8 0, .int .u8 0, .int .u8 0, .int .u8 0, .int .u8 0, .int .u8 0, .int .u8 0, .int .u8 0, .int .u8 0, .int .u8 0, .int .u8 0, .int .u8 0, .int .u8 0, .int .u8 0, .int .u8 0, .int .u8 0, .int .u8 0, .int .u8 0, .int .u8 0, .int .u8 0, .int .u8 0]] w' fun e w'' => RegPost w' bg v (addE (esO KF sp n) (KF i)) (addL (esO KF sp n) (KF i)) e w'' from by
    have h := radd_any bg v _ (KF i) w' L.at_ (by rw [esO_length]; omega) (KF_length i)
    rw [KF_val i (by omega)] at h
    exact h))
  have HHAS := Lib.hid (fun (i : Nat) (hi : i < 36) bg v sp n w' (L : RegL w w' bg v (esO KF sp n)) (hn : n ≤ 1000) => (show Calls Tryd.prog 15 #[.pointer (some ⟨bg, 0, none⟩), .agg #[.int .u8 (i : Int), .int .u8 1, .int .u8 0, .int .u8 0, .int .u8 0, .int .u8 0, .int .u8 0, .int .u8 0, .int .u8 0, .int .u8 0, .int .u8 0, .int .u8 0, .int .u8 0, .int .u8 0, .int .u8 0, .int .u8 0, .int .u8 0, .int .u8 0, .int .u8 0, .int .u8 0, .int .u8 0, .int .u8 0, .int .u8 0, .int .u8 0, .int .u8 0, .int .u8 0, .int .u8 0, .int .u8 0, .int .u8 0, .int .u8 0, .int .u8 0, .int .u8 0]] w' fun e w'' => e = .returned (.bool (hasM (esO KF sp n) (KF i))) ∧ Ext [] w' w'' from by
    have h := rhas_any bg v _ (KF i) w' L.at_ (by rw [esO_length]; omega) (KF_length i)
    rw [KF_val i (by omega)] at h
    exact h))
  have HSPN := Lib.hid (fun (i : Nat) bg v sp n w' (L : RegL w w' bg v (esO KF sp n)) (hn : n ≤ 1000) => rspend_any bg v _ (i : Int) w' L.at_ (by rw [esO_length]; omega))
  have HA1 := Lib.hid (fun n (hn : n < 32) => esO_add KF n hn (fun i hi => KF_ne i n (by omega) (by omega) (by omega)))
  have HA2 := Lib.hid (fun n (hn : 32 ≤ n ∧ n < 36) => esO_full KF (fun _ => false) (KF n) (fun i hi => KF_ne i n (by omega) (by omega) (by omega)))
  have HA3 := Lib.hid (fun sp n k (hk : k < n) (hn : n ≤ 32) => esO_again KF sp n k hk (fun i hi => KF_ne i k (by omega) (by omega) (by omega)))
  have HH := Lib.hid (fun sp n k (hk : k < n) (hn : n ≤ 32) => esO_has KF sp n k hk (fun i hi => KF_ne i k (by omega) (by omega) (by omega)))
  have HS1 := Lib.hid (fun sp n k hk h => esO_spend KF sp n k hk h)
  have HS2 := Lib.hid (fun sp n k hk h => esO_spent KF sp n k hk h)
  have HEL := Lib.hid (esO_length KF)
  obtain ⟨q, hq, hq6⟩ := mod_nat a0 6 (by omega) (by omega)
  obtain ⟨j, hj, hj30⟩ := mod_nat a1 30 (by omega) (by omega)
  have HQ := Lib.hid hq
  have HJ := Lib.hid hj
  clear hq hj G
  go_enter Tryd.func6, Tryd.ntmps6
  go_wp2_with fail
  refine (rnew_any w).mono ?_
  rintro e w2 ⟨bg, rfl, hR0, x2, hb⟩
  have L2 : RegL w w2 bg (.slice none 0 0) (esO KF (fun _ => false) 0) := ⟨hR0, x2, hb, fun g hg => by cases hg⟩
  clear hR0 x2 hb
  go_wp2_with fail
  refine (keeps_any w2 (HG.out _ L2.x)).mono ?_
  rintro e w3 ⟨rfl, x3⟩
  have L3 := L2.ext0 x3
  clear L2 x3
  go_upto_region 5 with (fail)
  rw [show wrap64 ((IntKind.u64.wrap a0).tmod 6) = (q : Int) from HQ.out, IntWalk.wrap64_in (30 + (q : Int)) (by omega), show 30 + (q : Int) = ((30 + q : Nat) : Int) by omega]
  obtain ⟨k, hk⟩ : ∃ k, k = 30 + q := ⟨_, rfl⟩
  rw [← hk]
  have hk30 : 30 ≤ k := by omega
  have hk36 : k < 36 := by omega
  clear hk HQ hq6
  go_wp2_with fail
  go_loopw [7] (fun i wr => ∃ n v, n ≤ k ∧ i = .int .i64 ((n : Nat) : Int) ∧ RegL w wr bg v (esO KF (fun _ => false) (min n 32))) (fun i _ => k - (intOf i).toNat)
  case atStart => exact ⟨0, _, by omega, rfl, L3⟩
  case round =>
    obtain ⟨n, v, hn, rfl, L⟩ := hrel
    by_cases hlt : n < k
    · have hw1 : IntKind.u8.wrap (n : Int) = (n : Int) := u8_wrap_full n (by omega)
      by_cases h32 : n < 32
      · rw [Nat.min_eq_left (by omega)] at L
        go_wp2_with fail
        refine (HADD.out n (by omega) bg v _ _ wr L (by omega)).mono ?_
        intro e wa hp
        obtain ⟨va, rfl, La, xa⟩ := L.post hp
        rw [(HA1.out n h32).1]
        rw [(HA1.out n h32).2] at La
        clear hp L hw1 xa
        go_wp2_with fail
        go_roundw
        case rel => exact ⟨n + 1, va, by omega, by go_num, by rw [Nat.min_eq_left (by omega)]; exact La⟩
        case measure => simp [intOf]; omega
      · rw [Nat.min_eq_right (by omega)] at L
        go_wp2_with fail
        refine (HADD.out n (by omega) bg v _ _ wr L (by omega)).mono ?_
        intro e wa hp
        obtain ⟨va, rfl, La, xa⟩ := L.post hp
        rw [(HA2.out n (by omega)).1]
        rw [(HA2.out n (by omega)).2] at La
        clear hp L hw1 xa
        go_wp2_with fail
        go_roundw
        case rel => exact ⟨n + 1, va, by omega, by go_num, by rw [Nat.min_eq_right (by omega)]; exact La⟩
        case measure => simp [intOf]; omega
    · obtain rfl : n = k := by omega
      obtain ⟨m, hm⟩ : ∃ m, m = min n 32 := ⟨_, rfl⟩
      rw [← hm] at L
      have hm30 : 30 ≤ m := by omega
      have hm32 : m ≤ 32 := by omega
      have hw1 : IntKind.u8.wrap (j : Int) = (j : Int) := u8_wrap_full j (by omega)
      have HM := Lib.hid hm
      clear hm
      go_upto_region 12 with (fail)
      rw [show wrap64 ((IntKind.u64.wrap a1).tmod 30) = (j : Int) from HJ.out]
      clear HJ
      go_wp2_with fail
      refine (HADD.out j (by omega) bg v _ _ wr L (by omega)).mono ?_
      intro e w4 hp
      obtain ⟨v4, rfl, L4, -⟩ := L.post hp
      rw [(HA3.out _ m j (by omega) hm32).1]
      rw [(HA3.out _ m j (by omega) hm32).2] at L4
      clear hp L
      go_wp2_with fail
      refine (HSPN.out j bg v4 _ _ w4 L4 (by omega)).mono ?_
      intro e w5 hp
      obtain ⟨v5, rfl, L5, -⟩ := L4.post hp
      rw [(HS1.out _ m j (by omega) rfl).1]
      rw [(HS1.out _ m j (by omega) rfl).2] at L5
      clear hp L4
      go_wp2_with fail
      refine (HADD.out j (by omega) bg v5 _ _ w5 L5 (by omega)).mono ?_
      intro e w6 hp
      obtain ⟨v6, rfl, L6, -⟩ := L5.post hp
      rw [(HA3.out _ m j (by omega) hm32).1]
      rw [(HA3.out _ m j (by omega) hm32).2] at L6
      clear hp L5
      go_wp2_with fail
      refine (HSPN.out j bg v6 _ _ w6 L6 (by omega)).mono ?_
      intro e w7 hp
      obtain ⟨v7, rfl, L7, -⟩ := L6.post hp
      rw [(HS2.out _ m j (by omega) (by simp [setB])).1]
      rw [(HS2.out _ m j (by omega) (by simp [setB])).2] at L7
      clear hp L6
      go_wp2_with fail
      refine (HHAS.out j (by omega) bg v7 _ _ w7 L7 (by omega)).mono ?_
      rintro e w8 ⟨rfl, x8⟩
      rw [HH.out _ m j (by omega) hm32, show setB (fun _ => false) j j = true from by simp [setB]]
      have L8 := L7.ext0 x8
      clear x8 L7
      go_wp2_with fail
      refine (rlen_any bg v7 _ w8 L8.at_).mono ?_
      rintro e w9 ⟨rfl, rfl⟩
      rw [HEL.out]
      have X := L8.x
      clear L8
      go_wp2_with fail
      all_goals
        have e := HM.out
        go_ret
        refine ⟨?_, X⟩
        congr 2
        simp
        omega
end Go.Proofs.YtgcbgeombbohpaaDoor
