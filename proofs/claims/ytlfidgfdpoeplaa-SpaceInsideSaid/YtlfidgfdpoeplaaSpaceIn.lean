/- The law SpaceInside: the walk. -/
import Derived.Test.YtlfidgfdpoeplaaSpaceMakes
import Derived.Test.YtlfidgfdpoeplaaFlat
namespace Go.Proofs.Ytlfidgfdpoeplaa
open Go.RowKit

theorem Tree.OK.prefix {T : Tree} (h : T.OK) (b : Nat) : ∀ a, a < T.len → b ∈ T.ps a → ∃ rest, T.ps a = T.ps b ++ rest := by
  intro a
  induction a using Nat.strongRecOn with
  | _ a ih =>
    intro ha hb
    by_cases hz : a = 0
    · subst hz
      rw [h.root] at hb
      obtain rfl : b = 0 := by simpa using hb
      exact ⟨[], by simp⟩
    · have h1 := h.step a (by omega) ha
      by_cases e : b = a
      · subst e; exact ⟨[], by simp⟩
      · rw [h1.2] at hb
        simp only [List.mem_append, List.mem_singleton] at hb
        obtain ⟨rest, hr⟩ := ih _ h1.1 (by omega) (hb.resolve_right e)
        exact ⟨rest ++ [a], by rw [h1.2, hr]; simp⟩

theorem Tree.inside_iff (T : Tree) (a b : Nat) (ha : a < T.len) : T.inside a b = true ↔ b ∈ T.ps a := by
  unfold Tree.inside nats
  simp only [Int.toNat_natCast, Bool.and_eq_true, decide_eq_true_eq, List.mem_map]
  constructor
  · rintro ⟨-, x, hx, hxb⟩
    have : x = b := by omega
    subst this; exact hx
  · intro h; exact ⟨⟨by omega, by omega⟩, b, h, rfl⟩

theorem Tree.OK.trans {T : Tree} (h : T.OK) {a b c : Nat} (ha : a < T.len) (hb : b < T.len) (h1 : T.inside a b = true) (h2 : T.inside b c = true) : T.inside a c = true := by
  rw [T.inside_iff a b ha] at h1
  rw [T.inside_iff b c hb] at h2
  rw [T.inside_iff a c ha]
  obtain ⟨rest, hr⟩ := h.prefix b a ha h1
  rw [hr]; simp [h2]

theorem Tree.OK.antisymm {T : Tree} (h : T.OK) {a b : Nat} (ha : a < T.len) (hb : b < T.len) (h1 : T.inside a b = true) (h2 : T.inside b a = true) : a = b := by
  rw [T.inside_iff a b ha] at h1
  rw [T.inside_iff b a hb] at h2
  have := h.mem_lt a ha b h1
  have := h.mem_lt b hb a h2
  omega

theorem Tree.OK.self {T : Tree} (h : T.OK) {a : Nat} (ha : a < T.len) : T.inside a a = true := by
  rw [T.inside_iff a a ha]
  exact List.mem_of_getElem? (h.last a ha)

set_option maxHeartbeats 4000000 in
set_option maxRecDepth 100000 in
theorem in_walk (a1 : Option Addr) (len1 cap1 : Nat) (z1 : List Int) (l0 l1 l2 : Int) (w : World) (r1 : IsRow .i64 w a1 len1 cap1 z1) :
    Calls Try.prog 3 #[.slice a1 len1 cap1, .agg #[.int .i64 l0, .int .i64 l1, .int .i64 l2]] w fun e w' => e = .returned (.bool true) ∧ Below w.heap.size w w' := by
  have HR := Lib.hid r1
  clear r1
  go_enter Try.func3, Try.ntmps3
  go_wp2_with fail
  have x0 : Ext [] w (w.alloc (.cells #[.int .i64 l0, .int .i64 l1, .int .i64 l2] 23)) := (Ext.refl _ _).alloc _
  have hblk := Blk.new w 23 #[.int .i64 l0, .int .i64 l1, .int .i64 l2]
  refine (build_any a1 len1 cap1 z1 _ (HR.out.ext x0)).mono ?_
  rintro e w1 ⟨bt, bl, c, bw, bu, c', T, rfl, P, x1⟩
  go_wp2_with fail
  refine (within_any w1).mono ?_; rintro e w2 ⟨rfl, x2⟩; go_wp2_with fail
  have B2 := (hblk.ext x1 (by simp)).ext x2 (by simp)
  have k0 := B2.cell 0
  have k1 := B2.cell 1
  have k2 := B2.cell 2
  simp only [List.getElem?_cons_zero, List.getElem?_cons_succ] at k0 k1 k2
  have R2 := P.r.ext x2 (by simp) (by simp)
  have T2 := P.t.ext x2 (by simp) (by simp)
  have ht := R2.t.cell 0
  have hp := R2.ok.pos
  have h8 := R2.ok.le
  simp only [List.getElem?_cons_zero] at ht
  have xa : Ext [] w w2 := (x0.trans x1).trans x2
  have hlen0 : ((T.len : Int) == 0) = false := by rw [beq_eq_false_iff_ne]; omega
  clear x0 x1 x2 B2 hblk P
  go_quiet (fail)
  rename_i nq
  go_wp2_with fail
  have T3 := T2.drewN nq
  have xb : Ext [] w (w2.drewN nq) := xa.drewN nq
  generalize w2.drewN nq = w3 at *
  clear T2 R2 xa k0 k1 k2 ht
  obtain ⟨a, ha, hal⟩ := mod_nat l0 T.len (by omega) (by omega)
  obtain ⟨b, hb, hbl⟩ := mod_nat l1 T.len (by omega) (by omega)
  obtain ⟨d, hd, hdl⟩ := mod_nat l2 T.len (by omega) (by omega)
  rw [ha, hb, hd]
  clear ha hb hd
  have ok := T3.ok
  have I : ∀ (x y : Nat) (v : Bool), T.inside x y = v → ∀ W, TreeAt W bt bl c T → Calls Try.prog 11 #[.pointer (some ⟨bt, 0, none⟩), .int .i64 x, .int .i64 y] W fun e w' => e = .returned (.bool v) ∧ Ext [] W w' := by
    intro x y v hv W hW
    have := inside_any bt bl c x y T W hW
    rwa [hv] at this
  have HI := Lib.hid I
  clear I
  have hz := Lib.hid (ok.inside_zero a hal)
  have hs := Lib.hid (ok.self hal)
  have htr := Lib.hid (fun h1 h2 => ok.trans hal hbl h1 h2 (c := d))
  have han := Lib.hid (fun h1 h2 => ok.antisymm hal hbl h1 h2)
  clear hal hbl hdl ok
  cases hp' : T.inside a b
  · have HP := Lib.hid hp'
    clear hp'
    refine (HI.out a b false HP.out w3 T3).mono ?_; rintro e w4 ⟨rfl, y1⟩; go_wp2_with fail
    have T4 := T3.ext y1 (by simp) (by simp)
    refine (HI.out a 0 true hz.out _ T4).mono ?_; rintro e w5 ⟨rfl, y2⟩; go_wp2_with fail
    have T5 := T4.ext y2 (by simp) (by simp)
    refine (HI.out a a true hs.out _ T5).mono ?_; rintro e w6 ⟨rfl, y3⟩; go_wp2_with fail
    have T6 := T5.ext y3 (by simp) (by simp)
    refine (HI.out a b false HP.out _ T6).mono ?_; rintro e w7 ⟨rfl, y4⟩; go_wp2_with fail
    go_ret
    exact ⟨rfl, ((((xb.trans y1).trans y2).trans y3).trans y4).below (Nat.le_refl _) (by simp)⟩
  · have HP := Lib.hid hp'
    clear hp'
    refine (HI.out a b true HP.out w3 T3).mono ?_; rintro e w4 ⟨rfl, y1⟩; go_wp2_with fail
    have T4 := T3.ext y1 (by simp) (by simp)
    cases hq' : T.inside b d
    · have HQ := Lib.hid hq'
      clear hq'
      refine (HI.out b d false HQ.out _ T4).mono ?_; rintro e w5 ⟨rfl, y2⟩; go_wp2_with fail
      have T5 := T4.ext y2 (by simp) (by simp)
      refine (HI.out a 0 true hz.out _ T5).mono ?_; rintro e w6 ⟨rfl, y3⟩; go_wp2_with fail
      have T6 := T5.ext y3 (by simp) (by simp)
      refine (HI.out a a true hs.out _ T6).mono ?_; rintro e w7 ⟨rfl, y4⟩; go_wp2_with fail
      have T7 := T6.ext y4 (by simp) (by simp)
      refine (HI.out a b true HP.out _ T7).mono ?_; rintro e w8 ⟨rfl, y5⟩; go_wp2_with fail
      have T8 := T7.ext y5 (by simp) (by simp)
      have xz := ((((xb.trans y1).trans y2).trans y3).trans y4).trans y5
      cases hs' : T.inside b a
      · have HS := Lib.hid hs'
        clear hs'
        refine (HI.out b a false HS.out _ T8).mono ?_; rintro e w9 ⟨rfl, y6⟩; go_wp2_with fail
        go_ret
        exact ⟨rfl, (xz.trans y6).below (Nat.le_refl _) (by simp)⟩
      · have he := han.out HP.out hs'
        have HS := Lib.hid hs'
        clear hs'
        have hbq : ((a : Int) == (b : Int)) = true := by rw [beq_iff_eq]; omega
        clear he
        refine (HI.out b a true HS.out _ T8).mono ?_; rintro e w9 ⟨rfl, y6⟩; go_wp2_with fail
        go_ret
        exact ⟨rfl, (xz.trans y6).below (Nat.le_refl _) (by simp)⟩
    · have HT := Lib.hid (htr.out HP.out hq')
      have HQ := Lib.hid hq'
      clear hq'
      refine (HI.out b d true HQ.out _ T4).mono ?_; rintro e w5 ⟨rfl, y2⟩; go_wp2_with fail
      have T5 := T4.ext y2 (by simp) (by simp)
      refine (HI.out a d true HT.out _ T5).mono ?_; rintro e w5 ⟨rfl, y2'⟩; go_wp2_with fail
      have T5 := T5.ext y2' (by simp) (by simp)
      refine (HI.out a 0 true hz.out _ T5).mono ?_; rintro e w6 ⟨rfl, y3⟩; go_wp2_with fail
      have T6 := T5.ext y3 (by simp) (by simp)
      refine (HI.out a a true hs.out _ T6).mono ?_; rintro e w7 ⟨rfl, y4⟩; go_wp2_with fail
      have T7 := T6.ext y4 (by simp) (by simp)
      refine (HI.out a b true HP.out _ T7).mono ?_; rintro e w8 ⟨rfl, y5⟩; go_wp2_with fail
      have T8 := T7.ext y5 (by simp) (by simp)
      have xz := (((((xb.trans y1).trans y2).trans y2').trans y3).trans y4).trans y5
      cases hs' : T.inside b a
      · have HS := Lib.hid hs'
        clear hs'
        refine (HI.out b a false HS.out _ T8).mono ?_; rintro e w9 ⟨rfl, y6⟩; go_wp2_with fail
        go_ret
        exact ⟨rfl, (xz.trans y6).below (Nat.le_refl _) (by simp)⟩
      · have he := han.out HP.out hs'
        have HS := Lib.hid hs'
        clear hs'
        have hbq : ((a : Int) == (b : Int)) = true := by rw [beq_iff_eq]; omega
        clear he
        refine (HI.out b a true HS.out _ T8).mono ?_; rintro e w9 ⟨rfl, y6⟩; go_wp2_with fail
        go_ret
        exact ⟨rfl, (xz.trans y6).below (Nat.le_refl _) (by simp)⟩

theorem in_flat (a1 : Option Addr) (len1 cap1 : Nat) (z1 : List Int) (cs : Array Value) (w : World) (r1 : IsRow .i64 w a1 len1 cap1 z1) (h : Flat [.int .i64, .int .i64, .int .i64] cs.toList) :
    Calls Try.prog 3 #[.slice a1 len1 cap1, .agg cs] w fun e w' => e = .returned (.bool true) ∧ Below w.heap.size w w' := by
  obtain ⟨_, r, e, ⟨l0, rfl, -⟩, _, r', rfl, ⟨l1, rfl, -⟩, _, r'', rfl, ⟨l2, rfl, -⟩, rfl⟩ := h
  obtain rfl : cs = #[.int .i64 l0, .int .i64 l1, .int .i64 l2] := by
    apply Array.toList_inj.1; exact e
  exact in_walk a1 len1 cap1 z1 l0 l1 l2 w r1

end Go.Proofs.Ytlfidgfdpoeplaa
