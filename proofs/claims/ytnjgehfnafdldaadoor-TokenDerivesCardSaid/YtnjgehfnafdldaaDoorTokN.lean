/- Package tipstafflaw12: may; the reference: More. -/
import Derived.Test.YtnjgehfnafdldaaDoorTokK
import Derived.Test.YtnjgehfnafdldaaDoorTokL
namespace Go.Proofs.YtnjgehfnafdldaaDoor
open Go.RowKit
set_option maxRecDepth 100000

theorem shr_one (x : BitVec 16) (k : Nat) : (bits .and .u16 ((x.toNat : Int) / 2 ^ k) 1 == 1) = x.getLsbD k := by
  rw [bv16_shr, show (1 : Int) = ((1 : Nat) : Int) from rfl, u16_and_nat _ _ (x >>> k).isLt (by decide), BitVec.getLsbD, Nat.testBit, BitVec.toNat_ushiftRight, Nat.and_comm]
  rw [Nat.and_comm, Nat.and_one_is_mod]
  rcases Nat.mod_two_eq_zero_or_one (x.toNat >>> k) with h | h <;> rw [h] <;> rfl

theorem may_any (x : BitVec 16) (n : Int) (w : World) :
    Calls Tryd.prog 27 #[.int .i64 (hasE x n), .int .u16 (x.toNat : Int), .int .i64 n] w fun e w' => e = .returned (.bool true) ∧ w = w' := by
  obtain ⟨E, hE⟩ : ∃ E, E = hasE x n := ⟨_, rfl⟩
  rw [← hE]
  unfold hasE at hE
  by_cases h0 : n < 0
  · rw [if_pos (Or.inl h0)] at hE
    subst hE
    go_enter Tryd.func27, Tryd.ntmps27
    go_wp2_with fail
    go_ret
    exact ⟨rfl, rfl⟩
  · by_cases h1 : 16 ≤ n
    · rw [if_pos (Or.inr h1)] at hE
      subst hE
      have h2 : 15 < n := by omega
      go_enter Tryd.func27, Tryd.ntmps27
      go_wp2_with fail
      go_ret
      exact ⟨rfl, rfl⟩
    · obtain ⟨k, rfl⟩ := Int.eq_ofNat_of_zero_le (by omega : 0 ≤ n)
      rw [if_neg (by omega), Int.toNat_natCast] at hE
      have h2 : ¬ 15 < (k : Int) := by omega
      have hb := shr_one x k
      cases hq : x.getLsbD k with
      | false =>
        rw [hq] at hb hE
        simp only [Bool.false_eq_true, if_false] at hE
        subst hE
        go_enter Tryd.func27, Tryd.ntmps27
        go_wp2_with fail
        go_ret
        exact ⟨rfl, rfl⟩
      | true =>
        rw [hq] at hb hE
        simp only [if_true] at hE
        subst hE
        go_enter Tryd.func27, Tryd.ntmps27
        go_wp2_with fail
        go_ret
        exact ⟨rfl, rfl⟩
def stV (l : List Tk) : List Value := (l.map stCells).flatten
theorem stV_cons (x : Tk) (l : List Tk) : stV (x :: l) = stCells x ++ stV l := by simp [stV]
theorem stV_append (a b : List Tk) : stV (a ++ b) = stV a ++ stV b := by simp [stV]
theorem stV_one (x : Tk) : stV [x] = stCells x := by simp [stV]
theorem stCells_length (x : Tk) : (stCells x).length = 7 := rfl
theorem stV_length : ∀ (l : List Tk), (stV l).length = l.length * 7
  | [] => rfl
  | x :: l => by rw [stV_cons, List.length_append, stV_length l, stCells_length, List.length_cons]; omega
theorem stV_at : ∀ (l : List Tk) (i j : Nat) (hi : i < l.length), j < 7 → (stV l)[i * 7 + j]? = (stCells l[i])[j]?
  | [], i, _, hi, _ => by simp at hi
  | x :: l, 0, j, _, hj => by
    rw [stV_cons, List.getElem?_append_left (by rw [stCells_length]; omega)]; simp
  | x :: l, i + 1, j, hi, hj => by
    rw [stV_cons, List.getElem?_append_right (by rw [stCells_length]; omega), stCells_length, show (i + 1) * 7 + j - 7 = i * 7 + j by omega, stV_at l i j (by simpa using hi) hj]; simp

def moreE (T : Tree) (ch : List Tk) (s : Tk) : Int := match ch with
  | [] => rootE T s.1 s.2
  | x :: xs => derE T x (xs.length + 1) s.1 s.2

set_option maxHeartbeats 16000000 in
theorem rmore_any (bw bu c' : Nat) (T : Tree) (v : Value) (n : Nat) (chs : List Tk) (s : Tk) (w : World) (HR0 : RefAt w bw bu c' T) (hown : w.ownsRow 0 52 7 v n (stV chs)) (hn : n = chs.length) (h9 : n ≤ 100) :
    Calls Tryd.prog 26 #[.pointer (some ⟨bw, 0, none⟩), v, .agg (stCells s).toArray] w fun e w' => e = .returned (.int .i64 (moreE T chs.reverse s)) ∧ Ext [] w w' := by
  obtain ⟨sa, sr⟩ := s
  obtain ⟨va, vc, rfl⟩ := owns_slice hown
  rw [show (stCells (sa, sr)).toArray = #[.int .i64 sa, .int .u16 (sr.c.toNat : Int), .int .u16 (sr.p.toNat : Int), .int .u16 (sr.m.toNat : Int), .int .u16 (sr.h.toNat : Int), .bool sr.v, .bool sr.s] from rfl]
  obtain ⟨w6, hw6⟩ : ∃ w6, w6 = w.alloc (.cells #[.int .i64 sa, .int .u16 (sr.c.toNat : Int), .int .u16 (sr.p.toNat : Int), .int .u16 (sr.m.toNat : Int), .int .u16 (sr.h.toNat : Int), .bool sr.v, .bool sr.s] 52) := ⟨_, rfl⟩
  have BS : Blk w6 w.heap.size 52 (stCells (sa, sr)) := by rw [hw6]; exact Blk.new _ _ _
  have X6 : Ext [] w w6 := by rw [hw6]; exact (Ext.refl _ _).alloc _
  have HBS := Lib.hid (fun w' (x' : Ext [] w6 w') => BS.ext x' (by simp))
  have HR := Lib.hid (fun w' (x' : Ext [] w6 w') => HR0.ext (X6.trans x') (by simp) (by simp))
  have HHAS := Lib.hid (fun w' (x' : Ext [] w6 w') => has_any bw bu c' sa T w' (HR.out _ x'))
  rw [show decide (0 ≤ sa ∧ sa < (T.len : Int)) = inR T sa from rfl] at HHAS
  have HRA := Lib.hid rall_any
  have HRW := Lib.hid (fun b w' => rwithin_any sr b w')
  obtain ⟨E, hE⟩ : ∃ E, E = moreE T chs.reverse (sa, sr) := ⟨_, rfl⟩
  rw [← hE]
  unfold moreE at hE
  unfold Rt.val at HRW HRA
  go_enter Tryd.func26, Tryd.ntmps26
  go_upto_region 1 with (fail)
  rw [← hw6]
  clear hw6 BS HR0
  generalize w.heap.size = ns at *
  have X0 := Ext.refl [] w6
  obtain ⟨p0, p1, p2, p3, p4, p5, p6, p7⟩ := st_cells (HBS.out _ X0)
  by_cases h0 : n = 0
  · obtain rfl : chs = [] := List.length_eq_zero_iff.1 (by omega)
    rw [List.reverse_nil] at hE
    dsimp only at hE
    unfold rootE at hE
    have hn0 : ((n : Int) == 0) = true := by simp [h0]
    clear h0 hown
    cases hh : inR T sa with
    | false =>
      rw [hh] at hE HHAS
      simp only [Bool.false_eq_true, if_false] at hE
      subst hE
      go_wp2_with fail
      refine (HHAS.out _ X0).mono ?_
      rintro e w7 ⟨rfl, rfl⟩
      go_wp2_with fail
      go_ret
      exact ⟨rfl, X6⟩
    | true =>
      rw [hh] at hE HHAS
      simp only [if_true] at hE
      go_wp2_with fail
      refine (HHAS.out _ X0).mono ?_
      rintro e w7 ⟨rfl, rfl⟩
      clear p0 p1 p2 p3 p4 p5 p6
      go_upto_region 4 with (fail)
      have zz : Ext [] w6 w6.drew := (Ext.refl _ _).drew
      refine wp_region_held_drew (S := fun w' => Ext [] w6 w') (by kernel_rfl) zz (fun hS => ?_)
      generalize hqw : sr.within Rt.all = qw at *
      have HRW0 := Lib.hid (fun w' => HRW.out Rt.all w')
      rw [hqw] at HRW0
      clear HRW hqw
      unfold Rt.all at HRW0
      dsimp only at HRW0
      refine wpAnyH_take (i := 0) (oi := ⟨some 16, _, _, _, _, _⟩) (v := ?_) rfl (by kernel_rfl) (by kernel_rfl) (by kernel_rfl) (fun _ _ _ h => h) (Or.inl ⟨by rfl, ?_⟩) (by assumption) ?_
      rotate_left 1
      · (intro w hSw; (try dsimp only at hSw); go_split_ands; (try go_simp); (try with_reducible rfl))
      try simp only [Act.put, List.setIfInBounds_toArray, List.set_cons_zero, List.set_cons_succ]
      refine wpAnyH_take (i := 1) (oi := ⟨some 17, _, _, _, _, _⟩) (v := ?_) rfl (by kernel_rfl) (by kernel_rfl) (by kernel_rfl) (fun _ _ _ h => h) (Or.inl ⟨by rfl, ?_⟩) (by assumption) ?_
      rotate_left 1
      · (intro w hSw; (try dsimp only at hSw); go_split_ands; obtain ⟨p0, p1, p2, p3, p4, p5, p6, p7⟩ := st_cells (HBS.out _ hSw); (try go_simp); (try with_reducible rfl))
      try simp only [Act.put, List.setIfInBounds_toArray, List.set_cons_zero, List.set_cons_succ]
      refine wpAnyH_ready (rs := [2]) (by kernel_rfl) (by simp) ?_
      refine AllReadyH.cons (o := ⟨some 18, _, _, _, _, _⟩) rfl (fun K hK => ?_) AllReadyH.nil
      go_simp
      refine (HRA.out _).mono ?_
      rintro e W2 ⟨rfl, x6⟩
      go_simp
      have hk := hS.trans x6
      refine hK.out _ _ hk (fun hS => ?_)
      clear hK K
      try simp only [Act.put, List.setIfInBounds_toArray, List.set_cons_zero, List.set_cons_succ]
      generalize W2 = wd at *
      refine wpAnyH_ready (rs := [3]) (by kernel_rfl) (by simp) ?_
      refine AllReadyH.cons (o := ⟨some 19, _, _, _, _, _⟩) rfl (fun K hK => ?_) AllReadyH.nil
      go_simp
      refine (HRW0.out _).mono ?_
      rintro e W3 ⟨rfl, x7⟩
      go_simp
      have hk := hS.trans x7
      refine hK.out _ _ hk (fun hS => ?_)
      clear hK K
      try simp only [Act.put, List.setIfInBounds_toArray, List.set_cons_zero, List.set_cons_succ]
      generalize W3 = wx at *
      refine wpAnyH_take (i := 4) (oi := ⟨some 20, _, _, _, _, _⟩) (v := ?_) rfl (by kernel_rfl) (by kernel_rfl) (by kernel_rfl) (fun _ _ _ h => h) (Or.inl ⟨by rfl, ?_⟩) (by assumption) ?_
      rotate_left 1
      · (intro w hSw; (try dsimp only at hSw); go_split_ands; (try go_simp); (try with_reducible rfl))
      try simp only [Act.put, List.setIfInBounds_toArray, List.set_cons_zero, List.set_cons_succ]
      refine wpAnyH_done (by kernel_rfl) ?_ _
      cases qw with
      | false =>
        simp only [Bool.false_eq_true, if_false] at hE
        subst hE
        go_wp2_with fail
        go_ret
        exact ⟨rfl, X6.trans hS⟩
      | true =>
        simp only [if_true] at hE
        subst hE
        go_wp2_with fail
        go_ret
        exact ⟨rfl, X6.trans hS⟩
  · obtain ⟨m, rfl⟩ : ∃ m, n = m + 1 := ⟨n - 1, by omega⟩
    have hml : m < chs.length := by omega
    obtain ⟨⟨ta, tr⟩, hs⟩ : ∃ s, chs[m] = s := ⟨_, rfl⟩
    have hrev : chs.reverse = (ta, tr) :: (chs.take m).reverse := by
      rw [← hs, ← take_rev chs m hml, List.take_of_length_le (by omega)]
    have hrl : (chs.take m).reverse.length + 1 = m + 1 := by rw [List.length_reverse, List.length_take]; omega
    rw [hrev] at hE
    dsimp only at hE
    rw [hrl] at hE
    unfold derE underB at hE
    obtain ⟨g, cap', cur, hv, hgb, -, -, -, -⟩ := owns_some hown (by omega)
    simp only [Value.slice.injEq, true_and] at hv
    obtain ⟨rfl, rfl⟩ := hv
    have hgl := hgb.lt
    have HU := Lib.hid (fun w' (x' : Ext [] w6 w') => st_here (w := w') (b := g) (o := 0) (k := m) (x := (ta, tr)) (fun j hj => by
      rw [Nat.zero_add, ((X6.trans x').cell hgl (by simp)), hown.cellAt (m * 7 + j) (by omega), stV_at _ _ _ hml hj, hs]))
    have hgl6 := Nat.lt_of_lt_of_le hgl X6.size
    have HI := Lib.hid (fun w' (x' : Ext [] w6 w') => rinside_any bw bu c' sa ta T w' (HR.out _ x'))
    clear hrev hrl hs hown hgb hgl HRA h0 hn hml
    simp only [Nat.zero_add] at HU
    cases hh : inR T sa with
    | false =>
      rw [hh] at hE HHAS
      simp only [Bool.false_eq_true, if_false] at hE
      subst hE
      go_wp2_with fail
      refine (HHAS.out _ X0).mono ?_
      rintro e w7 ⟨rfl, rfl⟩
      go_wp2_with fail
      go_ret
      exact ⟨rfl, X6⟩
    | true =>
      rw [hh] at hE HHAS
      simp only [if_true] at hE
      go_wp2_with fail
      refine (HHAS.out _ X0).mono ?_
      rintro e w7' ⟨rfl, rfl⟩
      obtain ⟨w7, hw7⟩ : ∃ w7, w7 = w6.alloc (.cells #[.int .i64 ta, .int .u16 (tr.c.toNat : Int), .int .u16 (tr.p.toNat : Int), .int .u16 (tr.m.toNat : Int), .int .u16 (tr.h.toNat : Int), .bool tr.v, .bool tr.s] 52) := ⟨_, rfl⟩
      have BU : Blk w7 w6.heap.size 52 (stCells (ta, tr)) := by rw [hw7]; exact Blk.new _ _ _
      have X7 : Ext [] w6 w7 := by rw [hw7]; exact (Ext.refl _ _).alloc _
      have HBU := Lib.hid (fun w' (x' : Ext [] w7 w') => BU.ext x' (by simp))
      have hd6 := HU.out w6 X0
      obtain ⟨d0, d1, d2, d3, d4, d5, d6⟩ := hd6
      go_upto_region 8 with (fail)
      rw [← hw7]
      clear hw7 BU d0 d1 d2 d3 d4 d5 d6 p0 p1 p2 p3 p4 p5 p6 p7
      generalize w6.heap.size = nu at *
      obtain ⟨p0, p1, p2, p3, p4, p5, p6, p7⟩ := st_cells (HBS.out _ X7)
      obtain ⟨r0, r1, r2, r3, r4, r5, r6, r7⟩ := st_cells (HBU.out _ (Ext.refl _ _))
      go_wp2_with fail
      refine (HI.out _ X7).mono ?_
      rintro e w8 ⟨rfl, x8⟩
      clear p0 p1 p2 p3 p4 p5 p6 p7 r0 r1 r2 r3 r4 r5 r6 r7
      cases hqi : T.inside sa ta with
      | false =>
        rw [hqi] at hE
        simp only [Bool.false_and, Bool.false_eq_true, if_false] at hE
        subst hE
        go_wp2_with fail
        go_ret
        exact ⟨rfl, X6.trans (X7.trans x8)⟩
      | true =>
        rw [hqi] at hE
        simp only [Bool.true_and] at hE
        obtain ⟨p0, p1, p2, p3, p4, p5, p6, p7⟩ := st_cells (HBS.out _ (X7.trans x8))
        obtain ⟨r0, r1, r2, r3, r4, r5, r6, r7⟩ := st_cells (HBU.out _ x8)
        go_wp2_with fail
        refine (HRW.out tr _).mono ?_
        rintro e w9 ⟨rfl, x9⟩
        clear p0 p1 p2 p3 p4 p5 p6 p7 r0 r1 r2 r3 r4 r5 r6 r7
        have X9 := X6.trans (X7.trans (x8.trans x9))
        generalize sr.within tr = qw at *
        cases qw with
        | false =>
          simp only [Bool.false_eq_true, if_false] at hE
          subst hE
          go_wp2_with fail
          go_ret
          exact ⟨rfl, X9⟩
        | true =>
          simp only [if_true] at hE
          by_cases h4 : 4 ≤ m + 1
          · rw [if_pos h4] at hE
            subst hE
            have h4i : (4 : Int) ≤ (m : Int) + 1 := by omega
            go_wp2_with fail
            go_ret
            exact ⟨rfl, X9⟩
          · rw [if_neg h4] at hE
            subst hE
            have h4i : ¬ (4 : Int) ≤ (m : Int) + 1 := by omega
            go_wp2_with fail
            go_ret
            exact ⟨rfl, X9⟩
end Go.Proofs.YtnjgehfnafdldaaDoor
