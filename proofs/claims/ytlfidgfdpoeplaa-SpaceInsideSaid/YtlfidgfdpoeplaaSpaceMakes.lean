/- The law SpaceMakes: the walk. -/
import Derived.Test.YtlfidgfdpoeplaaSpacePaths
namespace Go.Proofs.Ytlfidgfdpoeplaa
open Go.RowKit

theorem none10 (w : World) : Calls Try.prog 18 #[] w fun e w' => e = .returned (.pointer none) ∧ w = w' := by
  go_enter Try.func18, Try.ntmps18
  go_wp2_with fail
  go_ret
  exact ⟨rfl, rfl⟩

theorem TreeAt.drewN {w : World} {bt bl cap : Nat} {T : Tree} (h : TreeAt w bt bl cap T) (n : Nat) : TreeAt (w.drewN n) bt bl cap T := ⟨h.t, h.a, h.ne, h.ok⟩
theorem RefAt.drewN {w : World} {bt bl cap : Nat} {T : Tree} (h : RefAt w bt bl cap T) (n : Nat) : RefAt (w.drewN n) bt bl cap T := ⟨h.t, h.a, h.ne, h.ok⟩

set_option maxHeartbeats 4000000 in
set_option maxRecDepth 100000 in
theorem makes_walk (a1 : Option Addr) (len1 cap1 : Nat) (z1 : List Int) (n o : Int) (w : World) (r1 : IsRow .i64 w a1 len1 cap1 z1) :
    Calls Try.prog 6 #[.slice a1 len1 cap1, .int .i64 n, .int .i64 o] w fun e w' => e = .returned (.bool true) ∧ Below w.heap.size w w' := by
  obtain ⟨hl, hm, -, b, off, hA, hB, hC⟩ := r1.at
  have HR := Lib.hid r1
  clear r1 hA hB hC hm hl
  go_enter Try.func6, Try.ntmps6
  go_wp2_with fail
  refine (none10 w).mono ?_; rintro e w0 ⟨rfl, rfl⟩; go_wp2_with fail
  refine (make_nil 0 w).mono ?_; rintro e w1 ⟨rfl, x1⟩; go_wp2_with fail
  refine (none10 w1).mono ?_; rintro e w0 ⟨rfl, rfl⟩; go_wp2_with fail
  refine (up_of _ _ _ _ _ _ (find_nil 0 w1)).mono ?_; rintro e w2 ⟨rfl, x2⟩; go_wp2_with fail
  refine (none10 w2).mono ?_; rintro e w0 ⟨rfl, rfl⟩; go_wp2_with fail
  refine (depth_of _ _ _ _ _ _ (find_nil 0 w2)).mono ?_; rintro e w3 ⟨rfl, x3⟩; go_wp2_with fail
  refine (within_any w3).mono ?_; rintro e w4 ⟨rfl, x4⟩; go_wp2_with fail
  refine (none10 w4).mono ?_; rintro e w0 ⟨rfl, rfl⟩; go_wp2_with fail
  refine (inside_nil 0 0 w4).mono ?_; rintro e w5 ⟨rfl, x5⟩; go_wp2_with fail
  refine (none10 w5).mono ?_; rintro e w0 ⟨rfl, rfl⟩; go_wp2_with fail
  refine (len_nil w5).mono ?_; rintro e w0 ⟨rfl, rfl⟩; go_wp2_with fail
  refine (none10 w5).mono ?_; rintro e w0 ⟨rfl, rfl⟩; go_wp2_with fail
  refine (path_nil 0 w5).mono ?_; rintro e w6 ⟨rfl, x6⟩; go_wp2_with fail
  have xa : Ext [] w w6 := ((((x1.trans x2).trans x3).trans x4).trans x5).trans x6
  clear x1 x2 x3 x4 x5 x6
  have r6 : IsRow .i64 w6 a1 len1 cap1 z1 := HR.out.ext xa
  refine (build_any a1 len1 cap1 z1 w6 r6).mono ?_
  rintro e w7 ⟨bt, bl, c, bw, bu, c', T, rfl, P, x7⟩
  have xb := xa.trans x7
  clear xa x7 r6
  have ht := P.r.t.cell 0
  simp only [List.getElem?_cons_zero] at ht
  go_wp2_with fail
  go_quiet ((go_at_call 22; exact quiet_left (len_ok _ _ _ T _ (P.t.drewN _))))
  rename_i nq
  go_wp2_with fail
  have T7 := P.t.drewN nq
  have R7 := P.r.drewN nq
  have xc : Ext [] w (w7.drewN nq) := xb.drewN nq
  clear xb ht P
  generalize w7.drewN nq = w8 at *
  have hl8 := T7.ok.le
  by_cases hn : 0 ≤ n ∧ n < T.len
  · obtain ⟨m, rfl⟩ := Int.eq_ofNat_of_zero_le hn.1
    have hm : m < T.len := by omega
    have hhas : ∀ W, RefAt W bw bu c' T → Calls Try.prog 25 #[.pointer (some ⟨bw, 0, none⟩), .int .i64 m] W fun e w' => e = .returned (.bool true) ∧ W = w' := by
      intro W R
      have h := has_any bw bu c' m T W R
      rwa [show decide (0 ≤ (m : Int) ∧ (m : Int) < T.len) = true by simp; omega] at h
    have HH := Lib.hid hhas
    have hd4 := T7.ok.depth_le m hm
    have hle := Lib.hid (T7.ok.len_eq m hm)
    clear hhas hn
    refine (up_of _ _ _ _ _ w8 (find_ok _ _ _ m T w8 T7 hm)).mono ?_; rintro e w9 ⟨rfl, y1⟩; go_wp2_with fail
    have T9 := T7.ext y1 (by simp) (by simp)
    refine (depth_of _ _ _ _ _ w9 (find_ok _ _ _ m T w9 T9 hm)).mono ?_; rintro e w10 ⟨rfl, y2⟩; go_wp2_with fail
    have T10 := T9.ext y2 (by simp) (by simp)
    refine (path_ok _ _ _ m T w10 T10 hm).mono ?_; rintro e w11 ⟨b1, c1, rfl, hown1, y3, hb1⟩; go_wp2_with fail
    have R11 := ((R7.ext y1 (by simp) (by simp)).ext y2 (by simp) (by simp)).ext y3 (by simp) (by simp)
    refine (rpath_ok _ _ _ m T w11 R11 hm).mono ?_; rintro e w12 ⟨b2, c2, rfl, hown2, y4, hb2⟩; go_wp2_with fail
    have R12 := R11.ext y4 (by simp) (by simp)
    have T12 := (T10.ext y3 (by simp) (by simp)).ext y4 (by simp) (by simp)
    have xd : Ext [] w w12 := (((xc.trans y1).trans y2).trans y3).trans y4
    have hown1' := owns_ext hown1 y4 (by simp)
    clear T7 R7 T9 T10 R11 xc y1 y2 y3 hown1 hb1 hb2 y4
    refine (HH.out w12 R12).mono ?_; rintro e w0 ⟨rfl, rfl⟩; go_wp2_with fail
    refine (HH.out w12 R12).mono ?_; rintro e w0 ⟨rfl, rfl⟩
    have ht := R12.t.cell 0
    simp only [List.getElem?_cons_zero] at ht
    have hcu := R12.up m hm
    have hbq : ((T.depth m : Int) != ((T.ps m).length : Int) - 1) = false := by rw [bne_eq_false_iff_eq]; have := hle.out; omega
    have hpos := T12.ok.len_pos m hm
    have h5 := T12.ok.deep m hm
    go_wp2_with fail
    have HC1 := Lib.hid (fun i (hi : i < (T.ps m).length) => (show w12.cell? ⟨b1, i, none⟩ = some (.int .i64 (((T.ps m)[i] : Nat) : Int)) by
      rw [hown1'.cellAt i (by omega)]; simp [nats, hi]))
    have HC2 := Lib.hid (fun i (hi : i < (T.ps m).length) => (show w12.cell? ⟨b2, i, none⟩ = some (.int .i64 (((T.ps m)[i] : Nat) : Int)) by
      rw [hown2.cellAt i (by omega)]; simp [nats, hi]))
    have hlt1 := owns_lt hown1' rfl
    have hlt2 := owns_lt hown2 rfl
    clear hown1' hown2 hbq ht hcu HH
    go_loopw [22] (fun i wr => ∃ k : Nat, k ≤ (T.ps m).length ∧ i = .int .i64 k ∧ Ext [] w12 wr) (fun i _ => 5 - (intOf i).toNat)
    case atStart => exact ⟨0, Nat.zero_le _, rfl, Ext.refl _ _⟩
    case round =>
      obtain ⟨k, hk, rfl, y⟩ := hrel
      by_cases hlt : k < (T.ps m).length
      · have q1 := (y.cell (p := ⟨b1, k, none⟩) hlt1 (by simp)).trans (HC1.out k hlt)
        have q2 := (y.cell (p := ⟨b2, k, none⟩) hlt2 (by simp)).trans (HC2.out k hlt)
        go_wp2_with fail
        go_quiet (fail)
        rename_i nq2
        go_wp2_with fail
        go_roundw
        case rel => exact ⟨k + 1, by omega, by go_num, y.drewN _⟩
        case measure => simp [intOf]; omega
      · have T13 := T12.ext y (by simp) (by simp)
        have R13 := R12.ext y (by simp) (by simp)
        go_wp2_with fail
        refine (inside_any _ _ _ (m : Int) o T _ T13).mono ?_; rintro e w14 ⟨rfl, y5⟩; go_wp2_with fail
        refine (rinside_any _ _ _ (m : Int) o T _ (R13.ext y5 (by simp) (by simp))).mono ?_; rintro e w15 ⟨rfl, y6⟩; go_wp2_with fail
        go_ret
        exact ⟨by simp, (((xd.trans y).trans y5).trans y6).below (Nat.le_refl _) (by simp)⟩
  · have hn' : n < 0 ∨ (T.len : Int) ≤ n := by omega
    have hhas : ∀ W, RefAt W bw bu c' T → Calls Try.prog 25 #[.pointer (some ⟨bw, 0, none⟩), .int .i64 n] W fun e w' => e = .returned (.bool false) ∧ W = w' := by
      intro W R
      have h := has_any bw bu c' n T W R
      rwa [show decide (0 ≤ n ∧ n < T.len) = false by simp; omega] at h
    have HH := Lib.hid hhas
    have HN := Lib.hid hn'
    clear hhas hn hn'
    refine (up_of _ _ _ _ _ w8 (find_no _ _ _ n T w8 T7 HN.out)).mono ?_; rintro e w9 ⟨rfl, y1⟩; go_wp2_with fail
    have T9 := T7.ext y1 (by simp) (by simp)
    refine (depth_of _ _ _ _ _ w9 (find_no _ _ _ n T w9 T9 HN.out)).mono ?_; rintro e w10 ⟨rfl, y2⟩; go_wp2_with fail
    have T10 := T9.ext y2 (by simp) (by simp)
    refine (path_no _ _ _ n T w10 T10 HN.out).mono ?_; rintro e w11 ⟨rfl, y3⟩; go_wp2_with fail
    have R11 := ((R7.ext y1 (by simp) (by simp)).ext y2 (by simp) (by simp)).ext y3 (by simp) (by simp)
    have T11 := T10.ext y3 (by simp) (by simp)
    refine (rpath_no _ _ _ n T w11 R11 HN.out).mono ?_; rintro e w12 ⟨rfl, rfl⟩; go_wp2_with fail
    have xd : Ext [] w w11 := ((xc.trans y1).trans y2).trans y3
    refine (HH.out w11 R11).mono ?_; rintro e w0 ⟨rfl, rfl⟩; go_wp2_with fail
    refine (HH.out w11 R11).mono ?_; rintro e w0 ⟨rfl, rfl⟩; go_wp2_with fail
    refine wp_loop_rounds 1 ?_
    rw [rounds_succ]
    go_wp2_with fail
    refine (inside_any _ _ _ n o T _ T11).mono ?_; rintro e w14 ⟨rfl, y5⟩; go_wp2_with fail
    refine (rinside_any _ _ _ n o T _ (R11.ext y5 (by simp) (by simp))).mono ?_; rintro e w15 ⟨rfl, y6⟩; go_wp2_with fail
    go_ret
    exact ⟨by simp, ((xd.trans y5).trans y6).below (Nat.le_refl _) (by simp)⟩

end Go.Proofs.Ytlfidgfdpoeplaa
