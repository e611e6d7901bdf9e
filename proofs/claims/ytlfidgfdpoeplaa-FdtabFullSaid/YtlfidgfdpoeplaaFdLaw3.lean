/- The law FdtabFull: the walk. -/
import Derived.Test.YtlfidgfdpoeplaaFdLaw2
namespace Go.Proofs.Ytlfidgfdpoeplaa
open Go.RowKit

/-- After some were closed: those below low are open, low is free (or there is none), each is free or what it was. -/
structure FullInv (n low : Nat) (zs : List Int) : Prop where
  len : zs.length = n
  le : low ≤ n
  below : ∀ j, j < low → zs.getD j 0 = 100 + (j : Int)
  at_ : low < n → zs.getD low 1 = 0
  each : ∀ j, j < n → zs.getD j 0 = 0 ∨ zs.getD j 0 = 100 + (j : Int)

theorem FullInv.start (n : Nat) : FullInv n n (ids 100 n n) :=
  ⟨ids_length _ _ _, Nat.le_refl _, fun j hj => by rw [ids_getD _ _ _ _ _ hj, if_pos hj], fun h => by omega, fun j hj => .inr (by rw [ids_getD _ _ _ _ _ hj, if_pos hj])⟩

theorem getD_set (zs : List Int) (k j : Nat) (v d : Int) (hk : k < zs.length) : (zs.set k v).getD j d = if j = k then v else zs.getD j d := by
  simp only [List.getD_eq_getElem?_getD, List.getElem?_set]
  by_cases h : k = j
  · subst h; simp [hk]
  · rw [if_neg h, if_neg (fun e => h e.symm)]

theorem FullInv.close {n low k : Nat} {zs : List Int} (h : FullInv n low zs) (hk : k < n) : FullInv n (min low k) (zs.set k 0) := by
  have hz : k < zs.length := by rw [h.len]; exact hk
  refine ⟨by simpa using h.len, by omega, fun j hj => ?_, fun _ => ?_, fun j hj => ?_⟩
  · rw [getD_set _ _ _ _ _ hz, if_neg (by omega)]; exact h.below j (by omega)
  · rw [getD_set _ _ _ _ _ hz]
    by_cases e : min low k = k
    · rw [if_pos e]
    · rw [if_neg e]
      have hm : min low k = low := by omega
      rw [hm]; exact h.at_ (by omega)
  · rw [getD_set _ _ _ _ _ hz]
    by_cases e : j = k
    · rw [if_pos e]; exact .inl rfl
    · rw [if_neg e]; exact h.each j hj

theorem FullInv.free {n low k : Nat} {zs : List Int} (h : FullInv n low zs) (hk : k < n) (h0 : zs.getD k 0 = 0) : FullInv n (min low k) zs := by
  have := h.close hk
  have e : zs.set k 0 = zs := by
    apply List.ext_getElem
    · simp
    · intro i h1 h2
      simp only [List.getElem_set]
      split
      · rename_i hik; subst hik; rw [← h0]; simp [h2]
      · rfl
  rwa [e] at this

set_option maxHeartbeats 2000000 in
set_option maxRecDepth 100000 in
theorem full_walk (a0 : Int) (a1 : Option Addr) (len1 cap1 : Nat) (z1 : List Int) (w : World) (r1 : IsRow .i64 w a1 len1 cap1 z1) :
    Calls Try.prog 4 #[.int .i64 a0, .slice a1 len1 cap1] w fun e w' => e = .returned (.bool true) ∧ Below w.heap.size w w' := by
  obtain ⟨hl, hm, -, b, off, hA, hB, hC⟩ := r1.at
  unfold maxLen at hm
  obtain ⟨k, hk, hk16⟩ := mod_nat a0 16 (by omega) (by omega)
  have HK := Lib.hid hk
  clear hk
  have HA := Lib.hid hA
  have HC := Lib.hid hC
  clear hA hC r1
  go_enter Try.func4, Try.ntmps4
  go_wp2_with fail
  rw [show wrap64 ((IntKind.u64.wrap a0).tmod 16) = (k : Int) from HK.out]
  rw [show wrap64 (1 + (k : Int)) = ((1 + k : Nat) : Int) by rw [IntWalk.wrap64_in _ (by omega)]; omega]
  clear HK
  obtain ⟨n, hn⟩ : ∃ n, n = 1 + k := ⟨_, rfl⟩
  rw [← hn]
  have hn1 : 1 ≤ n := by omega
  have hn16 : n ≤ 16 := by omega
  clear hn hk16
  refine (fd_new n w (by omega) (by omega)).mono ?_; rintro e w1 ⟨rfl, H1, x1, -⟩
  go_wp2_with fail
  refine (opens_any _).mono ?_; rintro e w2 ⟨rfl, x2⟩
  go_wp2_with fail
  go_loopw [8] (fun i wr => ∃ m : Nat, m ≤ n ∧ i = .int .i64 m ∧ FdAt wr (w.heap.size + 1) w.heap.size (ids 100 n m) ∧ Ext [] w wr) (fun i _ => n - (intOf i).toNat)
  case atStart => exact ⟨0, Nat.zero_le _, rfl, by rw [ids_zero]; exact H1.ext x2 (by simp) (by simp), x1.trans x2⟩
  case round =>
    clear H1 x1 x2
    obtain ⟨m, hm', rfl, H, x⟩ := hrel
    by_cases hlt : m < n
    · have hc := fd_open _ _ m _ (100 + m) wr H (by omega) (by omega) (by rw [ids_length]; omega) (by rw [ids_getD _ _ _ _ _ (by omega), if_neg (by omega)]) (fun i hi => by rw [ids_getD _ _ _ _ _ (by omega), if_pos hi]; omega)
      rw [ids_set] at hc
      have HO := Lib.hid hc
      clear hc
      go_wp2_with fail
      refine HO.out.mono ?_
      rintro e wa ⟨rfl, Ha, xa, -⟩
      have hf := fd_free _ _ _ wa Ha
      rw [ids_length, usedFrom_ids 100 (by omega) n (m + 1) (by omega)] at hf
      have HF := Lib.hid hf
      clear hf
      go_wp2_with fail
      refine HF.out.mono ?_
      rintro e wb ⟨rfl, xb⟩
      have hbq : (((n - (m + 1) : Nat) : Int) != (n : Int) - 1 - (m : Int)) = false := by rw [bne_eq_false_iff_eq]; omega
      go_wp2_with fail
      go_roundw
      case rel => exact ⟨m + 1, by omega, by go_num, Ha.ext xb (by simp) (by simp), (x.trans' xa (by simp)).trans xb⟩
      case measure => simp [intOf]; omega
    · obtain rfl : m = n := by omega
      clear hlt
      go_wp2_with fail
      refine (fd_full _ _ _ 9 wr H (by omega) ?_).mono ?_
      · intro y hy
        simp only [ids, List.mem_map, List.mem_range] at hy
        obtain ⟨j, hj, rfl⟩ := hy
        rw [if_pos hj]; omega
      rintro e wa ⟨rfl, rfl⟩
      go_wp2_with fail
      go_loopw [13, 14] (fun l i wr => ∃ j low : Nat, ∃ zs, j ≤ len1 ∧ j ≤ 9 ∧ i = .int .i64 j ∧ l = .int .i64 low ∧ FullInv m low zs ∧ FdAt wr (w.heap.size + 1) w.heap.size zs ∧ Ext [] w wr) (fun _ i _ => 9 - (intOf i).toNat)
      case atStart => exact ⟨0, m, _, Nat.zero_le _, by omega, rfl, rfl, FullInv.start m, H, x⟩
      case round =>
        clear H x
        obtain ⟨j, low, zs, hj, hj9, rfl, rfl, I, H, x⟩ := hrel
        have hlow := I.le
        by_cases hlt : j < len1 ∧ j < 9
        · obtain ⟨hlt, h9⟩ := hlt
          obtain rfl := HA.out (by omega)
          have hcell : wr.cell? ⟨b, off + j, none⟩ = some (.int .i64 (z1.getD j 0)) := by
            rw [x.cell (hB (by omega)) (by simp)]; exact HC.out j (by omega)
          obtain ⟨q, hq, hqm⟩ := mod_nat (z1.getD j 0) m (by omega) (by omega)
          have HQ := Lib.hid hq
          clear hq
          generalize z1.getD j 0 = z at *
          go_wp2_with fail
          rw [show wrap64 ((IntKind.u64.wrap z).tmod (m : Int)) = (q : Int) from HQ.out]
          clear HQ
          by_cases h0 : zs.getD q 0 = 0
          · refine (fd_close_free _ _ q _ wr H (by rw [I.len]; exact hqm) (by have := I.len; simpa [show q < zs.length by omega] using h0)).mono ?_
            rintro e wa ⟨rfl, rfl⟩
            have I2 := I.free hqm h0
            clear h0 I
            by_cases hql : low ≤ q
            · rw [show min low q = low by omega] at I2
              go_wp2_with fail
              go_roundw
              case rel => exact ⟨j + 1, low, zs, by omega, by omega, by go_num, by go_num, I2, H, x⟩
              case measure => simp [intOf]; omega
            · rw [show min low q = q by omega] at I2
              go_wp2_with fail
              go_roundw
              case rel => exact ⟨j + 1, q, zs, by omega, by omega, by go_num, by go_num, I2, H, x⟩
              case measure => simp [intOf]; omega
          · have hv := (I.each q hqm).resolve_left h0
            have hc := fd_close _ _ q _ wr H (by rw [I.len]; exact hqm) h0
            rw [hv] at hc
            refine hc.mono ?_
            clear hc hv h0
            rintro e wa ⟨rfl, Ha, xa, -⟩
            have I2 := I.close hqm
            clear I
            by_cases hql : low ≤ q
            · rw [show min low q = low by omega] at I2
              go_wp2_with fail
              go_roundw
              case rel => exact ⟨j + 1, low, _, by omega, by omega, by go_num, by go_num, I2, Ha, x.trans' xa (by simp)⟩
              case measure => simp [intOf]; omega
            · rw [show min low q = q by omega] at I2
              go_wp2_with fail
              go_roundw
              case rel => exact ⟨j + 1, q, _, by omega, by omega, by go_num, by go_num, I2, Ha, x.trans' xa (by simp)⟩
              case measure => simp [intOf]; omega
        · by_cases hlm : low < m
          · have HO := Lib.hid (fd_open _ _ low _ 7 wr H (by omega) (by omega) (by rw [I.len]; omega) (I.at_ hlm) (fun i hi => by rw [I.below i hi]; omega))
            have hlen := I.len
            by_cases hlt' : j < len1
            · obtain rfl : j = 9 := by omega
              clear hlt
              go_wp2_with fail
              refine HO.out.mono ?_
              rintro e wa ⟨rfl, Ha, xa, -⟩
              go_wp2_with fail
              have hg := fd_get _ _ low _ wa Ha (by simp; omega) (by rw [getD_set _ _ _ _ _ (by omega), if_pos rfl]; omega)
              rw [getD_set _ _ _ _ _ (by omega), if_pos rfl] at hg
              refine hg.mono ?_
              clear hg
              rintro e wb ⟨rfl, rfl⟩
              go_wp2_with fail
              go_ret
              exact ⟨rfl, (x.trans' xa (by simp)).below (Nat.le_refl _) (by simp)⟩
            · clear hlt
              go_wp2_with fail
              refine HO.out.mono ?_
              rintro e wa ⟨rfl, Ha, xa, -⟩
              go_wp2_with fail
              have hg := fd_get _ _ low _ wa Ha (by simp; omega) (by rw [getD_set _ _ _ _ _ (by omega), if_pos rfl]; omega)
              rw [getD_set _ _ _ _ _ (by omega), if_pos rfl] at hg
              refine hg.mono ?_
              clear hg
              rintro e wb ⟨rfl, rfl⟩
              go_wp2_with fail
              go_ret
              exact ⟨rfl, (x.trans' xa (by simp)).below (Nat.le_refl _) (by simp)⟩
          · obtain rfl : low = m := by omega
            by_cases hlt' : j < len1
            · obtain rfl : j = 9 := by omega
              clear hlt
              go_wp2_with fail
              go_ret
              exact ⟨rfl, x.below (Nat.le_refl _) (by simp)⟩
            · clear hlt
              go_wp2_with fail
              go_ret
              exact ⟨rfl, x.below (Nat.le_refl _) (by simp)⟩

end Go.Proofs.Ytlfidgfdpoeplaa
