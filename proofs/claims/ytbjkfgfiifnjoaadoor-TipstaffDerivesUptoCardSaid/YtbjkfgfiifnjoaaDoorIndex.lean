/- slices.Index and slices.Contains at []int: the first place of a number, or -1. -/
import Derived.Test.YtbjkfgfiifnjoaaDoorBase
import Derived.Test.YtbjkfgfiifnjoaaDoorRows
namespace Go.Proofs.YtbjkfgfiifnjoaaDoor
open Go.RowKit
set_option maxRecDepth 100000

/-- The first place of x from place k on; -1: there is none. -/
def idxFrom (x : Int) : List Int → Nat → Int
  | [], _ => -1
  | y :: r, k => if x = y then (k : Int) else idxFrom x r (k + 1)

theorem idxFrom_hit (x : Int) (zs : List Int) (k : Nat) (hk : k < zs.length) (h : x = zs[k]) : idxFrom x (zs.drop k) k = k := by
  rw [List.drop_eq_getElem_cons hk]; simp [idxFrom, h]

theorem idxFrom_miss (x : Int) (zs : List Int) (k : Nat) (hk : k < zs.length) (h : x ≠ zs[k]) : idxFrom x (zs.drop k) k = idxFrom x (zs.drop (k + 1)) (k + 1) := by
  rw [List.drop_eq_getElem_cons hk]; simp [idxFrom, h]

theorem idxFrom_first (x : Int) (zs : List Int) : ∀ (d k j : Nat), j = k + d → (hj : j < zs.length) → zs[j] = x → (∀ i (hi : i < zs.length), k ≤ i → i < j → zs[i] ≠ x) → idxFrom x (zs.drop k) k = j
  | 0, k, j, e, hj, h, _ => by
    have e' : k = j := by omega
    rw [e']
    exact idxFrom_hit x zs j hj h.symm
  | d + 1, k, j, e, hj, h, hm => by
    have hk : k < zs.length := by omega
    rw [idxFrom_miss x zs k hk (fun e' => hm k hk (Nat.le_refl _) (by omega) e'.symm)]
    exact idxFrom_first x zs d (k + 1) j (by omega) hj h fun i hi h1 h2 => hm i hi (by omega) h2

theorem idxFrom_none (x : Int) : ∀ (zs : List Int) (k : Nat), (∀ y ∈ zs, y ≠ x) → idxFrom x zs k = -1
  | [], _, _ => rfl
  | y :: r, k, h => by
    simp only [idxFrom]
    rw [if_neg (fun e => h y (by simp) e.symm)]
    exact idxFrom_none x r (k + 1) fun z hz => h z (by simp [hz])

theorem idxFrom_ge (x : Int) : ∀ (zs : List Int) (k : Nat), -1 ≤ idxFrom x zs k ∧ idxFrom x zs k < (k : Int) + zs.length
  | [], k => by simp [idxFrom]; omega
  | y :: r, k => by
    simp only [idxFrom]
    have := idxFrom_ge x r (k + 1)
    split <;> simp only [List.length_cons] <;> omega

theorem idxFrom_nonneg (x : Int) : ∀ (zs : List Int) (k : Nat), 0 ≤ idxFrom x zs k ↔ x ∈ zs
  | [], k => by simp [idxFrom]
  | y :: r, k => by
    simp only [idxFrom]
    by_cases h : x = y
    · simp [h]
    · simp [h, idxFrom_nonneg x r (k + 1)]

set_option maxHeartbeats 400000 in
theorem index_any (b off cap : Nat) (zs : List Int) (x : Int) (w : World) (hm : zs.length ≤ 9223372036854775807)
    (hc : ∀ i, i < zs.length → w.cell? ⟨b, off + i, none⟩ = some (.int .i64 (zs.getD i 0))) :
    Calls Tryd.prog 70 #[.slice (some ⟨b, off, none⟩) zs.length cap, .int .i64 x] w fun e w' => e = .returned (.int .i64 (idxFrom x zs 0)) ∧ w = w' := by
  go_enter Tryd.func70, Tryd.ntmps70
  go_wp2
  go_loop [5, 8] (fun _ i => ∃ k : Nat, k ≤ zs.length ∧ i = .int .i64 k ∧ idxFrom x zs 0 = idxFrom x (zs.drop k) k) (fun _ i => zs.length - (intOf i).toNat)
  case atStart => exact ⟨0, Nat.zero_le _, rfl, rfl⟩
  case round =>
    obtain ⟨k, hk, rfl, hi⟩ := hrel
    have HI := Lib.hid hi
    clear hi
    by_cases hlt : k < zs.length
    · have hcell : w.cell? ⟨b, off + k, none⟩ = some (.int .i64 (zs.getD k 0)) := hc k hlt
      clear hc
      go_wp2
      · go_ret
        refine ⟨ret_int ?_, rfl⟩
        rw [HI.out]
        exact (idxFrom_hit x zs k hlt (by have h : (x == zs[k]) = true := by assumption
                                          simpa using h)).symm
      · go_round
        case rel =>
          refine ⟨k + 1, by omega, by go_num, ?_⟩
          rw [HI.out]
          exact idxFrom_miss x zs k hlt (by have h : (x == zs[k]) = false := by assumption
                                            simpa using h)
        case measure => simp [intOf]; omega
    · clear hc
      go_wp2
      go_ret
      refine ⟨ret_int ?_, rfl⟩
      rw [HI.out, List.drop_of_length_le (by omega)]
      rfl

theorem index_blk (b cap : Nat) (zs : List Int) (x : Int) (w : World) (hm : zs.length ≤ 9223372036854775807) (h : Blk w b 3 (zs.map (Value.int .i64))) :
    Calls Tryd.prog 70 #[.slice (some ⟨b, 0, none⟩) zs.length cap, .int .i64 x] w fun e w' => e = .returned (.int .i64 (idxFrom x zs 0)) ∧ w = w' :=
  index_any b 0 cap zs x w hm fun i hi => by rw [Nat.zero_add, h.cell]; simp [hi]

end Go.Proofs.YtbjkfgfiifnjoaaDoor
