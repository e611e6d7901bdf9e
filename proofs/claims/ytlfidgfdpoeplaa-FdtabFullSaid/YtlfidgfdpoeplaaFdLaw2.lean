/- The laws of layer 8: FdtabRound, FdtabFull: the walks. -/
import Derived.Test.YtlfidgfdpoeplaaFdLaw
namespace Go.Proofs.Ytlfidgfdpoeplaa
open Go.RowKit

/-- n places, the first i of them hold base + 0, base + 1, .. -/
def ids (base : Int) (n i : Nat) : List Int := (List.range n).map fun j => if j < i then base + (j : Int) else 0

theorem ids_length (base : Int) (n i : Nat) : (ids base n i).length = n := by simp [ids]
theorem ids_getD (base : Int) (n i j : Nat) (d : Int) (hj : j < n) : (ids base n i).getD j d = if j < i then base + (j : Int) else 0 := by simp [ids, hj]
theorem ids_zero (base : Int) (n : Nat) : ids base n 0 = List.replicate n 0 := by
  apply List.ext_getElem <;> simp [ids]
theorem ids_set (base : Int) (n i : Nat) : (ids base n i).set i (base + (i : Int)) = ids base n (i + 1) := by
  apply List.ext_getElem
  · simp [ids]
  · intro j h1 h2
    simp only [ids, List.getElem_set, List.getElem_map, List.getElem_range]
    by_cases h : i = j
    · subst h; simp
    · rw [if_neg h]
      by_cases h' : j < i
      · rw [if_pos h', if_pos (by omega)]
      · rw [if_neg h', if_neg (by omega)]

theorem usedFrom_ids (base : Int) (hb : 0 < base) (n i : Nat) (hi : i ≤ n) : (usedFrom (ids base n i) 0).length = i := by
  have key : ∀ (l : List Nat) (k : Nat), (usedFrom (l.map fun j => if j < i then base + (j : Int) else 0) k).length = (l.filter (· < i)).length := by
    intro l
    induction l with
    | nil => intro k; simp [usedFrom]
    | cons y r ih =>
      intro k
      simp only [List.map_cons, usedFrom]
      by_cases h : y < i
      · rw [if_pos h, if_neg (by omega)]; simp [h, ih]
      · rw [if_neg h, if_pos rfl]; simp [h, ih]
  unfold ids
  rw [key, ← List.countP_eq_length_filter]
  have : ∀ m : Nat, List.countP (fun x => decide (x < i)) (List.range m) = min m i := by
    intro m
    induction m with
    | zero => simp
    | succ m ih => rw [List.range_succ, List.countP_append, ih]; simp only [List.countP_singleton]; split <;> simp_all <;> omega
  rw [this]; omega

set_option maxHeartbeats 1000000 in
theorem round_walk (a0 : Int) (a1 : Option Addr) (len1 cap1 : Nat) (z1 : List Int) (w : World) (r1 : IsRow .i64 w a1 len1 cap1 z1) :
    Calls Try.prog 5 #[.int .i64 a0, .slice a1 len1 cap1] w fun e w' => e = .returned (.bool true) ∧ Below w.heap.size w w' := by
  obtain ⟨hl, hm, -, b, off, hA, hB, hC⟩ := r1.at
  unfold maxLen at hm
  obtain ⟨k, hk, hk16⟩ := mod_nat a0 16 (by omega) (by omega)
  have HK := Lib.hid hk
  clear hk
  have HA := Lib.hid hA
  have HC := Lib.hid hC
  clear hA hC r1
  go_enter Try.func5, Try.ntmps5
  go_wp2_with fail
  refine (fd_new 16 w (by omega) (by omega)).mono ?_; rintro e w1 ⟨rfl, H1, x1, -⟩
  go_wp2_with fail
  refine (opens_any _).mono ?_; rintro e w2 ⟨rfl, x2⟩
  go_wp2
  rw [show wrap64 ((IntKind.u64.wrap a0).tmod 16) = (k : Int) from HK.out]
  go_loopw [8] (fun i wr => ∃ n : Nat, n ≤ k ∧ i = .int .i64 n ∧ FdAt wr (w.heap.size + 1) w.heap.size (ids 1 16 n) ∧ Ext [] w wr) (fun i _ => k - (intOf i).toNat)
  case atStart => exact ⟨0, Nat.zero_le _, rfl, by rw [ids_zero]; exact H1.ext x2 (by simp) (by simp), x1.trans x2⟩
  case round =>
    clear H1 x1 x2
    obtain ⟨n, hn, rfl, H, x⟩ := hrel
    by_cases hlt : n < k
    · have hc := fd_open _ _ n _ (1 + n) wr H (by omega) (by omega) (by rw [ids_length]; omega) (by rw [ids_getD _ _ _ _ _ (by omega), if_neg (by omega)]) (fun i hi => by rw [ids_getD _ _ _ _ _ (by omega), if_pos hi]; omega)
      rw [ids_set] at hc
      have HO := Lib.hid hc
      clear hc
      go_wp2_with (go_at_call 14; rw [Int.add_comm]; refine HO.out.mono ?_; rintro e w' ⟨rfl, H2, x2, -⟩)
      go_roundw
      case rel => exact ⟨n + 1, by omega, by go_num, H2, x.trans' x2 (by simp)⟩
      case measure => simp [intOf]; omega
    · obtain rfl : n = k := by omega
      clear hlt
      go_wp2
      go_loopw [9] (fun i wr => ∃ j : Nat, j ≤ len1 ∧ j ≤ 20 ∧ i = .int .i64 j ∧ FdAt wr (w.heap.size + 1) w.heap.size (ids 1 16 n) ∧ Ext [] w wr) (fun i _ => 20 - (intOf i).toNat)
      case atStart => exact ⟨0, Nat.zero_le _, by omega, rfl, H, x⟩
      case round =>
        clear H x
        obtain ⟨j, hj, hj20, rfl, H, x⟩ := hrel
        have FL := Lib.hid (fd_free _ _ _ wr H)
        have FG := Lib.hid (fd_get_free _ _ n _ wr H (by rw [ids_length]; omega) (by rw [ids_getD _ _ _ _ _ (by omega), if_neg (by omega)]))
        by_cases hlt : j < len1
        · by_cases h20 : j < 20
          · obtain rfl := HA.out (by omega)
            have hcell : wr.cell? ⟨b, off + j, none⟩ = some (.int .i64 (z1.getD j 0)) := by
              rw [x.cell (hB (by omega)) (by simp)]; exact HC.out j (by omega)
            obtain ⟨q, hq, hq1000⟩ := mod_nat (z1.getD j 0) 1000 (by omega) (by omega)
            have HQ := Lib.hid hq
            clear hq
            generalize z1.getD j 0 = z at *
            clear FL FG
            go_wp2_with fail
            rw [show wrap64 ((IntKind.u64.wrap z).tmod 1000) = (q : Int) from HQ.out, IntWalk.wrap64_in (1 + (q : Int)) (by omega)]
            clear HQ
            refine (fd_open _ _ n _ (1 + q) wr H (by omega) (by omega) (by rw [ids_length]; omega) (by rw [ids_getD _ _ _ _ _ (by omega), if_neg (by omega)]) (fun i hi => by rw [ids_getD _ _ _ _ _ (by omega), if_pos hi]; omega)).mono ?_
            rintro e wa ⟨rfl, Ha, xa, -⟩
            go_wp2_with fail
            have hc := fd_close _ _ n _ wa Ha (by simp [ids_length]; omega) (by rw [List.getD_eq_getElem?_getD, List.getElem?_set_self (by rw [ids_length]; omega)]; simp; omega)
            rw [show ((ids 1 16 n).set n (1 + (q : Int))).getD n 0 = 1 + q by rw [List.getD_eq_getElem?_getD, List.getElem?_set_self (by rw [ids_length]; omega)]; rfl, List.set_set, show (ids 1 16 n).set n 0 = ids 1 16 n by
              apply List.ext_getElem
              · simp
              · intro i h1 h2; simp only [List.getElem_set]; split
                · rename_i h; subst h; simp [ids]
                · rfl] at hc
            refine hc.mono ?_
            clear hc
            rintro e wb ⟨rfl, Hb, xb, -⟩
            go_wp2
            go_roundw
            case rel => exact ⟨j + 1, by omega, by omega, by go_num, Hb, (x.trans' xa (by simp)).trans' xb (by simp)⟩
            case measure => simp [intOf]; omega
          · obtain rfl : j = 20 := by omega
            go_wp2_with fail
            refine FG.out.mono ?_
            rintro e wa ⟨rfl, rfl⟩
            go_wp2_with fail
            rw [ids_length, usedFrom_ids 1 (by omega) 16 n (by omega)] at FL
            refine FL.out.mono ?_
            rintro e wb ⟨rfl, xb⟩
            go_wp2_with fail
            go_ret
            refine ⟨?_, (x.trans xb).below (Nat.le_refl _) (by simp)⟩
            simp; omega
        · go_wp2_with fail
          refine FG.out.mono ?_
          rintro e wa ⟨rfl, rfl⟩
          go_wp2_with fail
          rw [ids_length, usedFrom_ids 1 (by omega) 16 n (by omega)] at FL
          refine FL.out.mono ?_
          rintro e wb ⟨rfl, xb⟩
          go_wp2_with fail
          go_ret
          refine ⟨?_, (x.trans xb).below (Nat.le_refl _) (by simp)⟩
          simp; omega

end Go.Proofs.Ytlfidgfdpoeplaa
