/- The law SpaceDeep: the walk. -/
import Derived.Test.YtlfidgfdpoeplaaSpaceLaw
namespace Go.Proofs.Ytlfidgfdpoeplaa
open Go.RowKit

theorem Tree.OK.inside_zero {T : Tree} (h : T.OK) (n : Nat) (hn : n < T.len) : T.inside n 0 = true := by
  have h0 := h.head n hn
  have hm : 0 ∈ T.ps n := List.mem_of_getElem? h0
  unfold Tree.inside
  simp only [Int.toNat_natCast, Bool.and_eq_true, decide_eq_true_eq]
  exact ⟨⟨by omega, by omega⟩, List.mem_map.2 ⟨0, hm, rfl⟩⟩

/-- A tree whose last one lies at its end's depth. -/
structure Chain (T : Tree) (m : Nat) : Prop where
  len : T.len = m + 1
  depth : T.depth m = m

theorem Chain.push {T : Tree} {m : Nat} (h : Chain T m) (ok : T.OK) : Chain (T.push m) (m + 1) := by
  have hl := h.len
  have hd := h.depth
  refine ⟨by simp [Tree.push, hl], ?_⟩
  have := ok.len_eq m (by omega)
  simp only [Tree.push, Tree.depth, hl, if_true, List.length_append, List.length_singleton]
  omega

theorem push_depth (T : Tree) (u : Nat) (ok : T.OK) (hu : u < T.len) : (T.push u).depth T.len = T.depth u + 1 := by
  have := ok.len_eq u hu
  simp only [Tree.push, Tree.depth, if_true, List.length_append, List.length_singleton]
  omega
theorem push_up (T : Tree) (u : Nat) : (T.push u).up T.len = u := by simp [Tree.push]

set_option maxHeartbeats 4000000 in
set_option maxRecDepth 100000 in
theorem deep_walk (a0 : Int) (w : World) :
    Calls Try.prog 7 #[.int .i64 a0] w fun e w' => e = .returned (.bool true) ∧ Below w.heap.size w w' := by
  obtain ⟨k, hk, hk9⟩ := mod_nat a0 9 (by omega) (by omega)
  have HK := Lib.hid hk
  clear hk
  go_enter Try.func7, Try.ntmps7
  go_wp2_with fail
  refine (tree_new w).mono ?_
  rintro e w1 ⟨rfl, T1, x1, hz1⟩
  go_wp2_with fail
  refine (within_any w1).mono ?_
  rintro e w2 ⟨rfl, x2⟩
  go_wp2_with fail
  rw [show wrap64 ((IntKind.u64.wrap a0).tmod 9) = (k : Int) from HK.out]
  clear HK
  go_loopw [5, 6] (fun at_ i wr => ∃ (j m bl c : Nat) (T : Tree), j ≤ k ∧ m ≤ j ∧ m ≤ 4 ∧ (j < 4 → m = j) ∧ (4 ≤ j → m = 4) ∧ i = .int .i64 ((j : Int) + 1) ∧ at_ = .int .i64 m ∧ Chain T m ∧ TreeAt wr (w.heap.size + 1) bl c T ∧ w.heap.size ≤ bl ∧ Ext [] w wr) (fun _ i _ => k + 1 - (intOf i).toNat)
  case atStart =>
    exact ⟨0, 0, _, _, _, Nat.zero_le _, Nat.zero_le _, by omega, by omega, by omega, rfl, rfl, ⟨rfl, rfl⟩, T1.ext x2 (by simp) (by simp), by omega, x1.trans x2⟩
  case round =>
    clear T1 x1 x2 hz1
    obtain ⟨j, m, bl, c, T, hj, hm, hm4, hmj, hmj4, rfl, rfl, C, H, hbl, x⟩ := hrel
    have HMJ := Lib.hid hmj
    have HMJ4 := Lib.hid hmj4
    clear hmj hmj4
    have hsz := x.size
    have l1 := H.lt1
    have l2 := H.lt2
    have HC := Lib.hid C
    have hcl := C.len
    have hcd := C.depth
    clear C
    by_cases hlt : j < k
    · by_cases hj4 : j < 4
      · have hmj := HMJ.out hj4
        have hc := make_push _ _ _ m T wr H (by omega) (by omega) (by omega)
        have HU := Lib.hid (push_up T m)
        have HD := Lib.hid (push_depth T m H.ok (by omega))
        rw [hcl] at hc HU HD
        rw [hcd] at HD
        have HCC := Lib.hid (HC.out.push H.ok)
        have HP := Lib.hid hc
        have hpl : m + 1 < (T.push m).len := by have := HCC.out.len; omega
        clear hcl hcd hc
        obtain rfl := hmj
        go_wp2_with fail
        refine HP.out.mono ?_
        rintro e w3 ⟨bl', c', rfl, T3, x3, hb3⟩
        have hdep := depth_of _ _ _ _ _ w3 (find_ok _ _ _ (m + 1) _ w3 T3 hpl)
        rw [HD.out] at hdep
        have HDD := Lib.hid hdep
        clear hdep
        go_wp2_with fail
        refine HDD.out.mono ?_
        rintro e w4 ⟨rfl, x4⟩
        have T4 := T3.ext x4 (by simp) (by simp)
        have hup := up_of _ _ _ _ _ w4 (find_ok _ _ _ (m + 1) _ w4 T4 hpl)
        rw [HU.out] at hup
        have HUU := Lib.hid hup
        clear hup
        go_wp2_with fail
        refine HUU.out.mono ?_
        rintro e w5 ⟨rfl, x5⟩
        have T5 := T4.ext x5 (by simp) (by simp)
        have hin := inside_any _ _ _ ((m + 1 : Nat) : Int) 0 _ w5 T5
        rw [T5.ok.inside_zero (m + 1) hpl] at hin
        have HI := Lib.hid hin
        clear hin
        go_wp2_with fail
        refine HI.out.mono ?_
        rintro e w6 ⟨rfl, x6⟩
        go_wp2_with fail
        go_roundw
        case rel =>
          refine ⟨m + 1, m + 1, bl', c', _, by omega, by omega, by omega, by omega, by omega, by go_num, by go_num, HCC.out, T5.ext x6 (by simp) (by simp), by omega, ?_⟩
          exact (((x.trans' x3 (by intro i hi; simp at hi; omega)).trans x4).trans x5).trans x6
        case measure => simp [intOf]; omega
      · have hmj4 := HMJ4.out (by omega)
        subst hmj4
        have HD := Lib.hid (make_deep _ _ _ 4 T wr H (by omega) hcd)
        clear hcl hcd
        go_wp2_with fail
        refine HD.out.mono ?_
        rintro e w3 ⟨rfl, x3⟩
        go_wp2_with fail
        go_roundw
        case rel => exact ⟨j + 1, 4, bl, c, T, by omega, by omega, by omega, by omega, by omega, by go_num, by go_num, HC.out, H.ext x3 (by simp) (by simp), hbl, x.trans x3⟩
        case measure => simp [intOf]; omega
    · have hl8 := H.ok.le
      clear hcl hcd
      go_wp2_with fail
      go_loopg [13] (8 - T.len) (fun g _ wr => ∃ (bl c : Nat) (T : Tree), T.len + g = 8 ∧ TreeAt wr (w.heap.size + 1) bl c T ∧ w.heap.size ≤ bl ∧ Ext [] w wr)
      case atStart => exact ⟨bl, c, T, by omega, H, hbl, x⟩
      case round =>
        clear H hbl x hsz l1 l2 HC hl8 HMJ HMJ4 hlt hj hm hm4
        obtain ⟨bl, c, T, hT, H, hbl, x⟩ := hrel
        have HT := Lib.hid hT
        clear hT
        have hsz := x.size
        have l1 := H.lt1
        have l2 := H.lt2
        have HL := Lib.hid (len_ok _ _ _ T wr H)
        have hp := H.ok.pos
        have hr := H.ok.depth_root
        by_cases hg : 0 < gk
        · have hl8 : T.len < 8 := by have := HT.out; omega
          have HP := Lib.hid (make_push _ _ _ 0 T wr H (by omega) (by omega) hl8)
          clear hr
          go_wp2_with fail
          refine HL.out.mono ?_
          rintro e w3 ⟨rfl, rfl⟩
          go_wp2_with fail
          refine HP.out.mono ?_
          rintro e w4 ⟨bl', c', rfl, T4, x4, hb4⟩
          go_wp2_with fail
          go_roundg (gk - 1)
          case measure => omega
          case rel =>
            have hT := HT.out
            exact ⟨bl', c', _, by simp [Tree.push]; omega, T4, by omega, x.trans' x4 (by intro i hi; simp at hi; omega)⟩
        · have hl8 : T.len = 8 := by have := HT.out; omega
          have HF := Lib.hid (make_full _ _ _ 0 T wr H (by omega) (by omega) hl8)
          have hnl : ¬ T.len < 8 := by omega
          clear hr hl8
          go_wp2_with fail
          refine HL.out.mono ?_
          rintro e w3 ⟨rfl, rfl⟩
          go_wp2_with fail
          refine HF.out.mono ?_
          rintro e w4 ⟨rfl, x4⟩
          go_wp2_with fail
          go_ret
          exact ⟨rfl, (x.trans x4).below (Nat.le_refl _) (by simp)⟩

end Go.Proofs.Ytlfidgfdpoeplaa
