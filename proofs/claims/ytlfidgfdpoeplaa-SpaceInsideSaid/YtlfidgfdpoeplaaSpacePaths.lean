/- The law SpacePaths: the walk. -/
import Derived.Test.YtlfidgfdpoeplaaSpaceDeep
namespace Go.Proofs.Ytlfidgfdpoeplaa
open Go.RowKit

theorem Tree.OK.path_step {T : Tree} (h : T.OK) : ∀ n, n < T.len → ∀ i (hi : i < (T.ps n).length), 0 < i → (T.ps n)[i] < T.len ∧ T.up ((T.ps n)[i]) = (T.ps n)[i - 1] := by
  intro n
  induction n using Nat.strongRecOn with
  | _ n ih =>
    intro hn i hi h0
    by_cases hz : n = 0
    · subst hz
      have : (T.ps 0).length = 1 := by rw [h.root]; rfl
      omega
    · have h1 := h.step n (by omega) hn
      have hu : T.up n < T.len := by omega
      have hl := h.len_eq _ hu
      have hlast := h.last _ hu
      have hps := h1.2
      have e1 : (T.ps n)[i]? = (T.ps (T.up n) ++ [n])[i]? := by rw [hps]
      have e2 : (T.ps n)[i - 1]? = (T.ps (T.up n) ++ [n])[i - 1]? := by rw [hps]
      have hlen : (T.ps n).length = (T.ps (T.up n)).length + 1 := by rw [hps]; simp
      by_cases hie : i = (T.ps (T.up n)).length
      · rw [List.getElem?_append_right (by omega)] at e1
        rw [List.getElem?_append_left (by omega)] at e2
        have hx : (T.ps n)[i] = n := by
          rw [List.getElem?_eq_getElem hi] at e1
          simpa [hie] using e1
        have hy : (T.ps n)[i - 1] = T.up n := by
          rw [show (T.ps (T.up n))[i - 1]? = some (T.up n) from by rw [show i - 1 = T.depth (T.up n) by omega]; exact hlast, List.getElem?_eq_getElem (by omega)] at e2
          simpa using e2
        rw [hx, hy]; exact ⟨hn, rfl⟩
      · rw [List.getElem?_append_left (by omega)] at e1
        rw [List.getElem?_append_left (by omega)] at e2
        have hx : (T.ps n)[i] = (T.ps (T.up n))[i]'(by omega) := by
          rw [List.getElem?_eq_getElem hi, List.getElem?_eq_getElem (by omega)] at e1; simpa using e1
        have hy : (T.ps n)[i - 1] = (T.ps (T.up n))[i - 1]'(by omega) := by
          rw [List.getElem?_eq_getElem (by omega), List.getElem?_eq_getElem (by omega)] at e2; simpa using e2
        rw [hx, hy]
        exact ih _ h1.1 hu i (by omega) h0

theorem Tree.OK.inside_mem {T : Tree} (_h : T.OK) (n : Nat) (hn : n < T.len) (x : Nat) (hx : x ∈ T.ps n) : T.inside n x = true := by
  unfold Tree.inside
  simp only [Int.toNat_natCast, Bool.and_eq_true, decide_eq_true_eq]
  exact ⟨⟨by omega, by omega⟩, List.mem_map.2 ⟨x, hx, rfl⟩⟩

set_option maxHeartbeats 4000000 in
set_option maxRecDepth 100000 in
theorem paths_walk (a1 : Option Addr) (len1 cap1 : Nat) (z1 : List Int) (w : World) (r1 : IsRow .i64 w a1 len1 cap1 z1) :
    Calls Try.prog 8 #[.slice a1 len1 cap1] w fun e w' => e = .returned (.bool true) ∧ Below w.heap.size w w' := by
  have HB := Lib.hid (build_any a1 len1 cap1 z1 w r1)
  clear r1
  go_enter Try.func8, Try.ntmps8
  go_wp2_with fail
  refine HB.out.mono ?_
  rintro e w1 ⟨bt, bl, c, bw, bu, c', T, rfl, P, x1⟩
  go_wp2_with fail
  refine (within_any w1).mono ?_
  rintro e w2 ⟨rfl, x2⟩
  go_wp2_with fail
  have hb1 := P.f1
  have hb2 := P.f2
  go_loopw [6] (fun i wr => ∃ n : Nat, n ≤ T.len ∧ i = .int .i64 n ∧ TreeAt wr bt bl c T ∧ Ext [] w wr) (fun i _ => 8 - (intOf i).toNat)
  case atStart => exact ⟨0, Nat.zero_le _, rfl, P.t.ext x2 (by simp) (by simp), x1.trans x2⟩
  case round =>
    clear P x1 x2
    obtain ⟨n, hn, rfl, H, x⟩ := hrel
    have hl8 := H.ok.le
    have HL := Lib.hid (len_ok _ _ _ T wr H)
    by_cases hlt : n < T.len
    · have HP := Lib.hid (path_ok _ _ _ n T wr H hlt)
      have hd4 := H.ok.depth_le n hlt
      have hle := Lib.hid (H.ok.len_eq n hlt)
      have hl1 := H.ok.len_pos n hlt
      go_wp2_with fail
      refine HL.out.mono ?_
      rintro e w3 ⟨rfl, rfl⟩
      go_wp2_with fail
      refine HP.out.mono ?_
      rintro e w3 ⟨b, cb, rfl, hown, x3, hb⟩
      have H3 := H.ext x3 (by simp) (by simp)
      have HD := Lib.hid (depth_of _ _ _ _ _ w3 (find_ok _ _ _ n _ w3 H3 hlt))
      have hlb : b < w3.heap.size := owns_lt hown rfl
      have HW := Lib.hid (fun i (hi : i < (T.ps n).length) => (show w3.cell? ⟨b, i, none⟩ = some (.int .i64 (((T.ps n)[i] : Nat) : Int)) by
        rw [hown.cellAt i (by omega)]; simp [nats, hi]))
      have hfz := Lib.hid (hown.frozenAt 0)
      clear hown
      go_wp2_with fail
      refine HD.out.mono ?_
      rintro e w4 ⟨rfl, x4⟩
      have hc0 : w4.cell? ⟨b, 0, none⟩ = some (.int .i64 0) := by
        rw [x4.cell hlb (by simp), HW.out 0 hl1]
        have := H.ok.head n hlt
        rw [List.getElem?_eq_getElem hl1] at this
        simp at this; rw [this]; rfl
      have hcd : w4.cell? ⟨b, T.depth n, none⟩ = some (.int .i64 (n : Int)) := by
        rw [x4.cell hlb (by simp), HW.out (T.depth n) (by have := hle.out; omega)]
        have := H.ok.last n hlt
        rw [List.getElem?_eq_getElem (by have := hle.out; omega)] at this
        simp at this; rw [this]
      have hin1 : T.depth n < (T.ps n).length := by have := hle.out; omega
      have hlb' : (((T.ps n).length : Int) != (T.depth n : Int) + 1) = false := by rw [bne_eq_false_iff_eq]; have := hle.out; omega
      have h5 := H.ok.deep n hlt
      go_wp2_with fail
      go_loopw [10] (fun i ws => ∃ j : Nat, 1 ≤ j ∧ j ≤ (T.ps n).length ∧ i = .int .i64 j ∧ Ext [] w4 ws) (fun i _ => 5 - (intOf i).toNat)
      case atStart => exact ⟨1, Nat.le_refl _, hl1, rfl, Ext.refl _ _⟩
      case round =>
        obtain ⟨j, hj1, hj, rfl, xs⟩ := hrel
        have xx : Ext [] w3 _ := x4.trans xs
        clear hc0 hcd hlb'
        by_cases hjl : j < (T.ps n).length
        · have hcj := (xx.cell (p := ⟨b, j, none⟩) hlb (by simp)).trans (HW.out j hjl)
          have hst := H.ok.path_step n hlt j hjl (by omega)
          have hmem := H.ok.inside_mem n hlt ((T.ps n)[j]) (List.getElem_mem _)
          have HS2 := Lib.hid hst.2
          have hstl := hst.1
          have HM := Lib.hid hmem
          have H5 := H3.ext xx (by simp) (by simp)
          have hup := up_of _ _ _ _ _ _ (find_ok _ _ _ ((T.ps n)[j]) _ _ H5 hstl)
          rw [hst.2] at hup
          have HU := Lib.hid hup
          have HWj := Lib.hid (HW.out (j - 1) (by omega))
          clear hst hmem hup
          go_wp2_with fail
          refine HU.out.mono ?_
          rintro e w6 ⟨rfl, x6⟩
          have xy := xx.trans x6
          have hcj' := (xy.cell (p := ⟨b, j, none⟩) hlb (by simp)).trans (HW.out j hjl)
          have hcj1 := (xy.cell (p := ⟨b, j - 1, none⟩) hlb (by simp)).trans HWj.out
          have hin := inside_any _ _ _ (n : Int) (((T.ps n)[j] : Nat) : Int) _ w6 (H5.ext x6 (by simp) (by simp))
          rw [HM.out] at hin
          have HI := Lib.hid hin
          clear hin
          go_wp2_with fail
          refine HI.out.mono ?_
          rintro e w7 ⟨rfl, x7⟩
          go_wp2_with fail
          go_roundw
          case rel => exact ⟨j + 1, by omega, by omega, by go_num, (xs.trans x6).trans x7⟩
          case measure => simp [intOf]; omega
        · have hc0 : World.cell? _ ⟨b, 0, none⟩ = _ := (xx.cell (p := ⟨b, 0, none⟩) hlb (by simp)).trans (HW.out 0 hl1)
          have hf0 : World.frozen? _ ⟨b, 0, none⟩ = _ := (xx.frozen (p := ⟨b, 0, none⟩) hlb (by simp)).trans hfz.out
          have l1 := H.lt1
          have l2 := H.lt2
          have HX := Lib.hid xx
          have hb0 : bt ≠ b := by omega
          have hb1 : bl ≠ b := by omega
          go_wp2_with fail
          have xset : Ext [b] wr (wr.setCell ⟨b, 0, none⟩ (.int .i64 5)) := (Ext.refl [b] wr).setCell (.inl (by simp)) _
          have H6 := (H3.ext xx (by simp) (by simp)).ext xset (by simp [hb0]) (by simp [hb1])
          have HP2 := Lib.hid (path_ok _ _ _ n T _ H6 hlt)
          refine HP2.out.mono ?_
          rintro e w7 ⟨b7, c7, rfl, hown7, x7, hb7⟩
          have hq : w7.cell? ⟨b7, 0, none⟩ = some (.int .i64 0) := by
            rw [hown7.cellAt 0 (by omega)]
            have := H.ok.head n hlt
            simp [nats, this]
          clear hown7
          go_wp2_with fail
          go_roundw
          case rel =>
            refine ⟨n + 1, by omega, by go_num, H6.ext x7 (by simp) (by simp), ?_⟩
            have hsx := x.size
            exact (((x.trans x3).trans xx).trans' xset (by simp; omega)).trans x7
          case measure => simp [intOf]; omega
    · obtain rfl : n = T.len := by omega
      go_wp2_with fail
      refine HL.out.mono ?_
      rintro e w3 ⟨rfl, rfl⟩
      go_wp2_with fail
      go_ret
      exact ⟨rfl, x.below (Nat.le_refl _) (by simp)⟩

end Go.Proofs.Ytlfidgfdpoeplaa
