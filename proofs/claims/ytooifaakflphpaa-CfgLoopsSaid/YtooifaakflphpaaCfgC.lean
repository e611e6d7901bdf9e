/- Package cfg: behind, Next. -/
import Derived.Test.YtooifaakflphpaaCfgB
namespace Go.Proofs.Ytooifaakflphpaa
open Go.RowKit
set_option maxRecDepth 100000

set_option maxHeartbeats 8000000 in
theorem behind_any (k : Nat) (x : Ins) (w : World) (hk : k ≤ 1000000) :
    Calls Try.prog 19 #[.int .i64 (k : Int), .agg x.cells.toArray] w (IntsPost w (behindM (k : Int) x)) := by
  have HK := Lib.hid (fun w' => ckind_any x w')
  have HT := Lib.hid (fun w' => target_any (k : Int) x w' (by omega))
  have ho1 : -32768 ≤ x.off.toInt := by have := x.off.le_toInt; simpa using this
  have ho2 : x.off.toInt ≤ 32767 := by have := x.off.toInt_lt; simp at this; omega
  obtain ⟨zs, hzs⟩ : ∃ zs, zs = behindM (k : Int) x := ⟨_, rfl⟩
  have HM := Lib.hid hzs
  rw [← hzs]
  clear hzs
  unfold behindM at HM
  generalize kindM x = kx at HK HM
  obtain ⟨t, ht⟩ : ∃ t, t = (k : Int) + x.off.toInt + 1 := ⟨_, rfl⟩
  rw [← ht] at HT HM
  have ht1 : -40000 ≤ t := by omega
  have ht2 : t ≤ 2000000 := by omega
  clear ht ho1 ho2
  go_enter Try.func19, Try.ntmps19
  go_upto_region 1 with (fail)
  have B := Blk.new w 31 x.cells.toArray
  have x1 : Ext [] w (w.alloc (.cells x.cells.toArray 31)) := (Ext.refl _ _).alloc _
  show Code.wp _ _ _ _ (w.alloc (.cells x.cells.toArray 31))
  have hlt := B.lt
  obtain ⟨bx, hbx⟩ : ∃ b, b = w.heap.size := ⟨_, rfl⟩
  have hbs : w.heap.size ≤ bx := by omega
  rw [← hbx] at B hlt
  rw [← hbx]
  clear hbx
  generalize w.alloc (.cells x.cells.toArray 31) = w1 at *
  have c0 := B.cell 0
  have c1 := B.cell 1
  have c2 := B.cell 2
  have c3 := B.cell 3
  have c4 := B.cell 4
  simp only [Ins.cells, List.getElem?_cons_zero, List.getElem?_cons_succ] at c0 c1 c2 c3 c4
  go_wp2_with fail
  refine (HK.out w1).mono ?_
  rintro e w2 ⟨rfl, x2⟩
  have B2 := B.ext x2 (by simp)
  have x02 := x1.trans x2
  clear c0 c1 c2 c3 c4 B x1 x2 HK hlt
  have c0 := B2.cell 0
  have c1 := B2.cell 1
  have c2 := B2.cell 2
  have c3 := B2.cell 3
  have c4 := B2.cell 4
  have hlt := B2.lt
  simp only [Ins.cells, List.getElem?_cons_zero, List.getElem?_cons_succ] at c0 c1 c2 c3 c4
  have hsz := x02.size
  rcases (show (kx = 0 ∨ kx = 5 ∨ kx = 10) ∨ kx = 3 ∨ kx = 2 ∨ kx = 9 ∨ (kx ≠ 0 ∧ kx ≠ 5 ∧ kx ≠ 10 ∧ kx ≠ 3 ∧ kx ≠ 2 ∧ kx ≠ 9) by omega) with h | rfl | rfl | rfl | h
  · have HZ := Lib.hid (show zs = [] by rw [HM.out, if_pos h])
    clear HM c0 c1 c2 c3 c4
    rcases h with rfl | rfl | rfl
    all_goals
      go_wp2_with fail
      go_ret
      refine ⟨_, rfl, ?_, x02, fun g h => by cases h⟩
      rw [HZ.out]
      exact World.ownsRow_nil _ _ _ _
  · have HZ := Lib.hid (show zs = [t] by rw [HM.out]; rfl)
    clear HM
    go_wp2_with fail
    refine (HT.out w2).mono ?_
    rintro e w3 ⟨rfl, x3⟩
    go_wp2_with fail
    go_ret
    refine ⟨_, rfl, ?_, (x02.trans x3).alloc _, fun g h => by cases h; exact (x02.trans x3).size⟩
    rw [HZ.out]
    exact (Blk.new w3 3 #[.int .i64 t]).owns rfl (by unfold maxLen; omega)
  · have HZ := Lib.hid (show zs = (if t = (k : Int) + 1 then [(k : Int) + 1] else if t < (k : Int) + 1 then [t, (k : Int) + 1] else [(k : Int) + 1, t]) by rw [HM.out]; rfl)
    clear HM
    go_wp2_with fail
    refine (HT.out w2).mono ?_
    rintro e w3 ⟨rfl, x3⟩
    have x03 := x02.trans x3
    clear c0 c1 c2 c3 c4 HT B2 hlt
    go_wp2_with fail
    have BK := Blk.new w3 3 #[.int .i64 ((k : Int) + 1), .int .i64 t]
    have x4 : Ext [] w (w3.alloc (.cells #[.int .i64 ((k : Int) + 1), .int .i64 t] 3)) := x03.alloc _
    have hg : w.heap.size ≤ w3.heap.size := x03.size
    generalize w3.alloc (.cells #[.int .i64 ((k : Int) + 1), .int .i64 t] 3) = w4 at *
    generalize w3.heap.size = g at *
    clear x3 x03 x02 hsz
    refine (sort2_any g _ _ w4 BK).mono ?_
    rintro e w5 ⟨rfl, B5, x5⟩
    have x05 := x4.trans' x5 (by simp; omega)
    obtain ⟨a, b, hab⟩ : ∃ a b, two ((k : Int) + 1) t = [a, b] := by
      unfold two; split
      · exact ⟨_, _, rfl⟩
      · exact ⟨_, _, rfl⟩
    have HAB := Lib.hid hab
    rw [hab] at B5
    clear hab BK x4 x5
    go_wp2_with fail
    refine (compact2_any g a b w5 B5).mono ?_
    rintro e w6 ⟨n, ys, rfl, hn, hys, hown, x6⟩
    have HN := Lib.hid hn
    have HY := Lib.hid hys
    have x06 := x05.trans' x6 (by simp; omega)
    clear hn hys B5 x05 x6
    go_wp2_with fail
    go_ret
    have e : ys = zs := by
      rw [HZ.out, HY.out]
      have h := HAB.out
      unfold two at h
      by_cases h1 : (k : Int) + 1 ≤ t
      · rw [if_pos h1] at h
        cases h
        by_cases h2 : (k : Int) + 1 = t
        · rw [if_pos h2, if_pos h2.symm]
        · rw [if_neg h2, if_neg (fun e => h2 e.symm), if_neg (by omega)]
      · rw [if_neg h1] at h
        cases h
        rw [if_neg (by omega), if_neg (by omega), if_pos (by omega)]
    refine ⟨_, rfl, ?_, x06, fun q h => by cases h; exact hg⟩
    rw [← e, HN.out]
    exact hown
  · have HZ := Lib.hid (show zs = [(k : Int) + 2] by rw [HM.out]; rfl)
    clear HM c0 c1 c2 c3 c4
    go_wp2_with fail
    go_ret
    refine ⟨_, rfl, ?_, x02.alloc _, fun g h => by cases h; omega⟩
    rw [HZ.out]
    exact (Blk.new w2 3 #[.int .i64 ((k : Int) + 2)]).owns rfl (by unfold maxLen; omega)
  · obtain ⟨k0, k5, k10, k3, k2, k9⟩ := h
    have HZ := Lib.hid (show zs = [(k : Int) + 1] by rw [HM.out, if_neg (by omega), if_neg k3, if_neg k2, if_neg k9])
    have e0 : ((kx : Int) == 0) = false := by rw [beq_eq_false_iff_ne]; omega
    have e5 : ((kx : Int) == 5) = false := by rw [beq_eq_false_iff_ne]; omega
    have e10 : ((kx : Int) == 10) = false := by rw [beq_eq_false_iff_ne]; omega
    have e3 : ((kx : Int) == 3) = false := by rw [beq_eq_false_iff_ne]; omega
    have e2 : ((kx : Int) == 2) = false := by rw [beq_eq_false_iff_ne]; omega
    have e9 : ((kx : Int) == 9) = false := by rw [beq_eq_false_iff_ne]; omega
    clear HM c0 c1 c2 c3 c4 k0 k5 k10 k3 k2 k9
    go_wp2_with fail
    go_ret
    refine ⟨_, rfl, ?_, x02.alloc _, fun g h => by cases h; omega⟩
    rw [HZ.out]
    exact (Blk.new w2 3 #[.int .i64 ((k : Int) + 1)]).owns rfl (by unfold maxLen; omega)

/-- The places that may come behind whatever one is asked for. -/
def nxA (l : List Ins) (at' : Int) : List Int := if 0 ≤ at' then nxL l at'.toNat else []

set_option maxHeartbeats 4000000 in
theorem next_any (v : Value) (l : List Ins) (k : Int) (w : World) (hr : Reads w v 5 l.length (insV l)) (hl : l.length ≤ 100000) :
    Calls Try.prog 9 #[v, .int .i64 k] w (IntsPost w (nxA l k)) := by
  have HR := Lib.hid (fun (h0 : 0 < l.length) ao c (he : v = .slice ao l.length c) => ins_lit (he ▸ hr) h0)
  obtain ⟨ao, c, rfl, -, -, -⟩ := hr
  obtain ⟨zs, hzs⟩ : ∃ zs, zs = nxA l k := ⟨_, rfl⟩
  have HM := Lib.hid hzs
  rw [← hzs]
  clear hzs
  by_cases hk : 0 ≤ k ∧ k < (l.length : Int)
  · obtain ⟨k, rfl⟩ : ∃ n : Nat, k = (n : Int) := ⟨k.toNat, by omega⟩
    have hkl : k < l.length := by omega
    obtain ⟨bb, oo, rfl, hbb, hcells⟩ := HR.out (by omega) ao c rfl
    have hc := fun j (hj : j < 5) => hcells k hkl j hj
    have HZ := Lib.hid (show zs = (behindM (k : Int) l[k]).filter (inL l.length) by
      rw [HM.out]; unfold nxA nxL; rw [if_pos (by omega), Int.toNat_natCast, List.getElem?_eq_getElem hkl])
    have HBE := Lib.hid (fun w' => behind_any k l[k] w' (by omega))
    have HLN := Lib.hid (behindM_len (k : Int) l[k])
    generalize l[k] = x at *
    clear HR hcells HM hk
    go_enter Try.func9, Try.ntmps9
    go_upto_region 1 with (fail)
    have B := Blk.new w 22 #[.slice (some ⟨bb, oo, none⟩) l.length c]
    have x1 : Ext [] w (w.alloc (.cells #[.slice (some ⟨bb, oo, none⟩) l.length c] 22)) := (Ext.refl _ _).alloc _
    have hc1 := fun j (hj : j < 5) => (x1.cell (p := ⟨bb, oo + k * 5 + j, none⟩) hbb (by simp)).trans (hc j hj)
    have hlt := B.lt
    obtain ⟨bl, hbl⟩ : ∃ b, b = w.heap.size := ⟨_, rfl⟩
    have hbs : w.heap.size ≤ bl := by omega
    rw [← hbl] at B hlt
    rw [← hbl]
    clear hbl hc
    generalize w.alloc (.cells #[.slice (some ⟨bb, oo, none⟩) l.length c] 22) = w1 at *
    have c0 := hc1 0 (by omega)
    have c1 := hc1 1 (by omega)
    have c2 := hc1 2 (by omega)
    have c3 := hc1 3 (by omega)
    have c4 := hc1 4 (by omega)
    have d0 := B.cell 0
    simp only [Ins.cells, List.getElem?_cons_zero, List.getElem?_cons_succ, Nat.add_zero] at c0 c1 c2 c3 c4 d0
    clear hc1
    go_wp2_with fail
    refine (HBE.out w1).mono ?_
    rintro e w2 ⟨u, rfl, hown, x2, hfr⟩
    clear c0 c1 c2 c3 c4 d0 HBE
    have B2 := B.ext x2 (by simp)
    have x02 := x1.trans x2
    have hsz1 := x1.size
    obtain ⟨ys, hys⟩ : ∃ ys, ys = behindM (k : Int) x := ⟨_, rfl⟩
    rw [← hys] at HZ HLN hown
    have hyl : ys.length ≤ 1000 := by have := HLN.out; omega
    have HD := Lib.hid (ndel_any u ys bl (some ⟨bb, oo, none⟩) l.length c w2 hown hyl B2 (fun e => by have := hfr bl e; omega))
    have HFR := Lib.hid hfr
    obtain ⟨ua, uc, rfl⟩ := owns_slice hown
    clear hys HLN hown hfr B B2 hyl x1
    go_wp2_with fail
    refine HD.out.mono ?_
    rintro e w3 ⟨u', rfl, hown', x3, hob⟩
    clear HD
    go_wp2_with fail
    go_ret
    have x03 : Ext [] w w3 := x02.trans' x3 (by
      intro i hi
      simp at hi
      have := HFR.out i hi
      omega)
    refine ⟨_, rfl, ?_, x03, fun g hg => ?_⟩
    · rw [HZ.out]; exact hown'
    · have := HFR.out g (hob ▸ hg); omega
  · have HZ := Lib.hid (show zs = [] by
      rw [HM.out]; unfold nxA nxL
      split
      · rw [List.getElem?_eq_none (by omega)]
      · rfl)
    clear HM HR
    by_cases h0 : k < 0
    · clear hk
      go_enter Try.func9, Try.ntmps9
      go_wp2_with fail
      go_ret
      refine ⟨_, rfl, ?_, (Ext.refl _ _).alloc _, fun g h => by cases h⟩
      rw [HZ.out]
      exact World.ownsRow_nil _ _ _ _
    · have h1 : (l.length : Int) ≤ k := by omega
      clear hk
      go_enter Try.func9, Try.ntmps9
      go_wp2_with fail
      go_ret
      refine ⟨_, rfl, ?_, (Ext.refl _ _).alloc _, fun g h => by cases h⟩
      rw [HZ.out]
      exact World.ownsRow_nil _ _ _ _
end Go.Proofs.Ytooifaakflphpaa
