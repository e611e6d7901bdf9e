/- Package cfg: walked, Loops, Reach. -/
import Derived.Test.YtooifaakflphpaaCfgD
namespace Go.Proofs.Ytooifaakflphpaa
open Go.RowKit
set_option maxRecDepth 100000

theorem info_intC : (Try.prog.info? 3).map (fun i => (i.zero, i.size, i.bytes)) = some (some (.int .i64 0), 1, 8) := by kernel_rfl
theorem info_boolC : (Try.prog.info? 4).map (fun i => (i.zero, i.size, i.bytes)) = some (some (.bool false), 1, 1) := by kernel_rfl

/-- A walk that was walked. -/
def WalkedPost (v : Value) (l : List Ins) (w : World) (e : Ending) (w' : World) : Prop :=
  ∃ bw bc, e = .returned (.pointer (some ⟨bw, 0, none⟩)) ∧ WalkAt w' bw bc v l.length (walkM l) ∧ Ext [] w w' ∧ w.heap.size ≤ bw ∧ w.heap.size ≤ bc

set_option maxHeartbeats 4000000 in
theorem walked_any (v : Value) (l : List Ins) (w : World) (hr : Reads w v 5 l.length (insV l)) (hl : l.length ≤ 100000) :
    Calls Try.prog 22 #[v] w (WalkedPost v l w) := by
  have HR := Lib.hid (fun w' (x : Ext [] w w') => hr.ext x)
  obtain ⟨i0, hi, hz0, hz1, hz2⟩ := info_parts info_intC
  obtain ⟨la, lc, rfl⟩ : ∃ la lc, v = .slice la l.length lc := by
    obtain ⟨la, lc, e, -⟩ := hr
    exact ⟨la, lc, e⟩
  clear hr
  go_enter Try.func22, Try.ntmps22
  go_upto_if 12 with (at_make; refine wpList_mk _ rfl _ _ _ rfl 3 i0 (.int .i64 0) Try.underlying24 hi hz0 hz1 rfl .i64 .i64 _ _ l.length rfl rfl rfl rfl (by rw [hz2]; omega) (by unfold maxLen; omega) ?_)
  have BC := Blk.new w 3 (Array.replicate l.length (.int .i64 0))
  have x1 : Ext [] w (w.alloc (.cells (Array.replicate l.length (.int .i64 0)) 3)) := (Ext.refl _ _).alloc _
  have hz : (w.alloc (.cells (Array.replicate l.length (.int .i64 0)) 3)).heap.size = w.heap.size + 1 := by simp
  rw [← hz]
  obtain ⟨bc, hbc⟩ : ∃ b, b = w.heap.size := ⟨_, rfl⟩
  have hbs : w.heap.size ≤ bc := by omega
  have hlt := BC.lt
  rw [← hbc] at BC hlt
  rw [← hbc]
  clear hz hbc
  generalize w.alloc (.cells (Array.replicate l.length (.int .i64 0)) 3) = w1 at *
  have BW := Blk.new w1 50 #[.slice la l.length lc, .slice (some ⟨bc, 0, none⟩) l.length l.length, .bool false]
  have x2 : Ext [] w (w1.alloc (.cells #[.slice la l.length lc, .slice (some ⟨bc, 0, none⟩) l.length l.length, .bool false] 50)) := x1.alloc _
  have BC2 := BC.alloc (.cells #[.slice la l.length lc, .slice (some ⟨bc, 0, none⟩) l.length l.length, .bool false] 50)
  have hw1 := x1.size
  generalize w1.alloc (.cells #[.slice la l.length lc, .slice (some ⟨bc, 0, none⟩) l.length l.length, .bool false] 50) = w2 at *
  generalize w1.heap.size = bw at *
  have P : WalkAt w2 bw bc (.slice la l.length lc) l.length (List.replicate l.length 0, false) :=
    ⟨BW, by rw [List.map_replicate]; simpa using BC2, by simp, by omega⟩
  clear BW BC2 BC x1
  by_cases h0 : l.length = 0
  · have HW := Lib.hid (show walkM l = (List.replicate l.length 0, false) by unfold walkM; rw [if_pos h0, h0]; rfl)
    have h0' : ¬ 0 < l.length := by omega
    clear h0
    go_wp2_with fail
    go_ret
    exact ⟨bw, bc, rfl, by rw [HW.out]; exact P, x2, by omega, hbs⟩
  · have h0' : 0 < l.length := by omega
    have HW := Lib.hid (show walkM l = Cf.visF (nxM l) l.length 0 (List.replicate l.length 0, false) by unfold walkM; rw [if_neg h0])
    have gz : ∀ i, (List.replicate l.length 0).getD i 0 = 0 := by
      intro i
      rw [List.getD_eq_getElem?_getD, List.getElem?_replicate]
      split <;> rfl
    have HV := Lib.hid (visit_any l hl bw bc (.slice la l.length lc) l.length 0 (List.replicate l.length 0, false) w2 P
      (fun w' x' => HR.out w' (x2.trans' x' (by simp; omega))) (fun i => by show (List.replicate l.length 0).getD i 0 ≤ 2; rw [gz]; omega) h0' (gz 0) (by show Cf.fresh (List.replicate l.length 0) ≤ l.length; simp [Cf.fresh]))
    clear h0 gz P
    go_wp2_with fail
    refine HV.out.mono ?_
    rintro e w3 ⟨rfl, P3, x3⟩
    clear HV
    go_wp2_with fail
    go_ret
    exact ⟨bw, bc, rfl, by rw [HW.out]; exact P3, x2.trans' x3 (by simp; omega), by omega, hbs⟩

set_option maxHeartbeats 1000000 in
theorem loops_any (v : Value) (l : List Ins) (w : World) (hr : Reads w v 5 l.length (insV l)) (hl : l.length ≤ 100000) :
    Calls Try.prog 16 #[v] w fun e w' => e = .returned (.bool (loopsB l)) ∧ Ext [] w w' := by
  have HW := Lib.hid (walked_any v l w hr hl)
  have HB := Lib.hid (show loopsB l = (walkM l).2 from rfl)
  obtain ⟨la, lc, rfl⟩ : ∃ la lc, v = .slice la l.length lc := by
    obtain ⟨la, lc, e, -⟩ := hr
    exact ⟨la, lc, e⟩
  clear hr
  go_enter Try.func16, Try.ntmps16
  go_wp2_with fail
  refine HW.out.mono ?_
  rintro e w1 ⟨bw, bc, rfl, P, x1, -, -⟩
  have c2 := P.h.cell 2
  have hlt := P.h.lt
  simp only [List.getElem?_cons_zero, List.getElem?_cons_succ] at c2
  go_wp2_with fail
  go_ret
  exact ⟨by rw [HB.out]; rfl, x1⟩

/-- A row of Booleans of the call's own, fresh. -/
def BoolsPost (w : World) (bs : List Bool) (e : Ending) (w' : World) : Prop :=
  ∃ u, e = .returned u ∧ w'.ownsRow 0 4 1 u bs.length (bs.map Value.bool) ∧ Ext [] w w' ∧ ∀ g, u.ownBlock = some g → w.heap.size ≤ g

/-- So far. -/
def rowB (l : List Ins) (k : Nat) : List Value := (List.range l.length).map fun j => Value.bool (if j < k then rchM l j else false)
theorem rowB_len (l : List Ins) (k : Nat) : (rowB l k).length = l.length := by simp [rowB]
theorem rowB_at (l : List Ins) (k j : Nat) (hj : j < l.length) : (rowB l k)[j]? = some (.bool (if j < k then rchM l j else false)) := by
  unfold rowB
  rw [List.getElem?_map, List.getElem?_range hj]; rfl
theorem rowB_zero (l : List Ins) : rowB l 0 = List.replicate l.length (.bool false) := by
  apply List.ext_getElem (by simp [rowB])
  intro i h1 h2
  simp [rowB]
theorem rowB_set (l : List Ins) (k : Nat) (hk : k < l.length) (b : Bool) : ((rowB l k).set k (.bool b)).set k (.bool (rchM l k)) = rowB l (k + 1) := by
  rw [List.set_set]
  apply List.ext_getElem? 
  intro i
  rw [List.getElem?_set]
  by_cases hi : i < l.length
  · rw [rowB_at l (k + 1) i hi]
    by_cases h : k = i
    · subst h
      rw [if_pos rfl, if_pos (by rw [rowB_len]; exact hk), if_pos (by omega)]
    · rw [if_neg h, rowB_at l k i hi]
      by_cases h2 : i < k
      · rw [if_pos h2, if_pos (by omega)]
      · rw [if_neg h2, if_neg (by omega)]
  · rw [if_neg (by omega), List.getElem?_eq_none (by rw [rowB_len]; omega), List.getElem?_eq_none (by rw [rowB_len]; omega)]
theorem rowB_set1 (l : List Ins) (k : Nat) (hk : k < l.length) : (rowB l k).set k (.bool (rchM l k)) = rowB l (k + 1) := by
  have := rowB_set l k hk false
  rwa [List.set_set] at this
theorem rowB_all (l : List Ins) : rowB l l.length = (reachL l).map Value.bool := by
  unfold rowB reachL
  rw [List.map_map]
  refine List.map_congr_left fun j hj => ?_
  rw [if_pos (List.mem_range.1 hj)]
  rfl

set_option maxHeartbeats 8000000 in
theorem reach_any (v : Value) (l : List Ins) (w : World) (hr : Reads w v 5 l.length (insV l)) (hl : l.length ≤ 100000) :
    Calls Try.prog 11 #[v] w (BoolsPost w (reachL l)) := by
  have HW := Lib.hid (walked_any v l w hr hl)
  obtain ⟨i0, hi, hz0, hz1, hz2⟩ := info_parts info_boolC
  have HR := Lib.hid (fun (h0 : 0 < l.length) ao c (he : v = .slice ao l.length c) => ins_lit (he ▸ hr) h0)
  obtain ⟨la, lc, rfl⟩ : ∃ la lc, v = .slice la l.length lc := by
    obtain ⟨la, lc, e, -⟩ := hr
    exact ⟨la, lc, e⟩
  clear hr
  go_enter Try.func11, Try.ntmps11
  go_wp2_with fail
  refine HW.out.mono ?_
  rintro e w1 ⟨bw, bc, rfl, P, x1, hbw, hbc⟩
  clear HW
  have c1 := P.h.cell 1
  have hlt := P.h.lt
  simp only [List.getElem?_cons_zero, List.getElem?_cons_succ] at c1
  go_upto_region 3 with (at_make; refine wpList_mk _ rfl _ _ _ rfl 4 i0 (.bool false) Try.underlying26 hi hz0 hz1 rfl .i64 .i64 _ _ l.length rfl rfl rfl rfl (by rw [hz2]; omega) (by unfold maxLen; omega) ?_)
  have BO := Blk.new w1 4 (Array.replicate l.length (.bool false))
  have x2 : Ext [] w1 (w1.alloc (.cells (Array.replicate l.length (.bool false)) 4)) := (Ext.refl _ _).alloc _
  have P2 := P.ext x2
  have hbo : bw < w1.heap.size ∧ bc < w1.heap.size := ⟨P.h.lt, P.c.lt⟩
  have hws := x1.size
  clear c1 hlt P
  generalize w1.alloc (.cells (Array.replicate l.length (.bool false)) 4) = w2 at *
  generalize w1.heap.size = bo at *
  have BO' : Blk w2 bo 4 (rowB l 0) := by rw [rowB_zero]; simpa using BO
  have x02 := x1.trans x2
  have c1 := P2.h.cell 1
  have hlt := P2.h.lt
  simp only [List.getElem?_cons_zero, List.getElem?_cons_succ] at c1
  clear BO x1 x2
  go_wp2_with fail
  go_loopw [5, 6, 17] (fun _ _ i wr => ∃ k : Nat, k ≤ l.length ∧ i = .int .i64 (k : Int) ∧ WalkAt wr bw bc (.slice la l.length lc) l.length (walkM l) ∧ Blk wr bo 4 (rowB l k) ∧ Ext [] w wr) (fun _ _ i _ => l.length - (intOf i).toNat)
  case atStart => exact ⟨0, Nat.zero_le _, rfl, P2, BO', x02⟩
  case round =>
    clear P2 BO' x02 c1 hlt
    obtain ⟨k, hk, rfl, P, BO, x⟩ := hrel
    by_cases hlt : k < l.length
    · have hck := P.cell k hlt
      have hob := BO.cell k
      rw [rowB_at l k k hlt] at hob
      rw [if_neg (by omega)] at hob
      have hof := BO.frozen k
      have hbl := BO.lt
      have hcl := P.c.lt
      obtain ⟨rb, hrb⟩ : ∃ rb, rb = reachB l k := ⟨_, rfl⟩
      obtain ⟨cv, hcv⟩ : ∃ cv, cv = (walkM l).1.getD k 0 := ⟨_, rfl⟩
      have hq : ((cv : Int) == 2) = rb := by
        rw [hrb]; unfold reachB
        rw [← hcv, Bool.eq_iff_iff]; simp; omega
      rw [← hcv] at hck
      clear hcv
      have HRB := Lib.hid hrb
      have B1 := BO.set k (.bool rb)
      have x1 : Ext [] w (wr.setCell ⟨bo, k, none⟩ (.bool rb)) := x.setCell (.inr hws) _
      have P1 : WalkAt (wr.setCell ⟨bo, k, none⟩ (.bool rb)) bw bc (.slice la l.length lc) l.length (walkM l) := ⟨P.h.setOther (by simp; omega) _, P.c.setOther (by simp; omega) _, P.len, P.ne⟩
      have HS1 := Lib.hid (rowB_set1 l k hlt)
      have HS2 := Lib.hid (rowB_set l k hlt rb)
      obtain ⟨bb, oo, rfl, hbb, hcells⟩ := HR.out (by omega) la lc rfl
      have HCE := Lib.hid hcells
      clear hcells hrb P BO
      go_upto_region 7 with (fail)
      change Code.wp _ _ _ _ (wr.setCell ⟨bo, k, none⟩ (.bool rb))
      clear hck hob hof hbl hcl hq x
      generalize wr.setCell ⟨bo, k, none⟩ (.bool rb) = w3 at *
      by_cases hk0 : k = 0
      · subst hk0
        have HR0 := Lib.hid (show rchM l 0 = rb from HRB.out.symm)
        go_wp2_with fail
        go_roundw
        case rel => exact ⟨1, by omega, by go_num, P1, by rw [← HS1.out, HR0.out]; exact B1, x1⟩
        case measure => simp [intOf]; omega
      · have hk1 : 0 < k := by omega
        have hkm : k - 1 < l.length := by omega
        have HRK := Lib.hid (show rchM l k = (rb || (secB l (k - 1) && rchM l (k - 1))) by
          obtain ⟨m, rfl⟩ : ∃ m, k = m + 1 := ⟨k - 1, by omega⟩
          rw [HRB.out]; rfl)
        have HSE := Lib.hid (show secB l (k - 1) = (decide (kindM l[k] = 10) && decide (kindM l[k - 1] = 9)) by
          unfold secB
          rw [List.getElem?_eq_getElem hkm]
          have : k - 1 + 1 = k := by omega
          rw [this, List.getElem?_eq_getElem hlt])
        have hcy := fun w' (x' : Ext [] w w') j (hj : j < 5) => (x'.cell (p := ⟨bb, oo + k * 5 + j, none⟩) hbb (by simp)).trans (HCE.out k hlt j hj)
        have hcp := fun w' (x' : Ext [] w w') j (hj : j < 5) => (x'.cell (p := ⟨bb, oo + (k - 1) * 5 + j, none⟩) hbb (by simp)).trans (HCE.out (k - 1) hkm j hj)
        generalize l[k] = y at *
        generalize l[k - 1] = z at *
        have HCY := Lib.hid hcy
        have HCP := Lib.hid hcp
        have HKY := Lib.hid (fun w' => ckind_any y w')
        have HKZ := Lib.hid (fun w' => ckind_any z w')
        have y0 := hcy w3 x1 0 (by omega)
        have y1 := hcy w3 x1 1 (by omega)
        have y2 := hcy w3 x1 2 (by omega)
        have y3 := hcy w3 x1 3 (by omega)
        have y4 := hcy w3 x1 4 (by omega)
        simp only [Ins.cells, List.getElem?_cons_zero, List.getElem?_cons_succ, Nat.add_zero] at y0 y1 y2 y3 y4
        clear hcy hcp hk0
        go_wp2_with fail
        refine (HKY.out w3).mono ?_
        rintro e w4 ⟨rfl, x4⟩
        clear y0 y1 y2 y3 y4 HKY
        have x04 := x1.trans x4
        have P4 := P1.ext x4
        have B4 := B1.ext x4 (by simp)
        clear P1 B1 x1 x4
        generalize kindM y = ky at *
        by_cases h10 : ky = 10
        · subst h10
          have y0 := HCP.out w4 x04 0 (by omega)
          have y1 := HCP.out w4 x04 1 (by omega)
          have y2 := HCP.out w4 x04 2 (by omega)
          have y3 := HCP.out w4 x04 3 (by omega)
          have y4 := HCP.out w4 x04 4 (by omega)
          simp only [Ins.cells, List.getElem?_cons_zero, List.getElem?_cons_succ, Nat.add_zero] at y0 y1 y2 y3 y4
          have hb4 : bb < w4.heap.size := Nat.lt_of_lt_of_le hbb x04.size
          go_wp2_with fail
          refine (HKZ.out w4).mono ?_
          rintro e w5 ⟨rfl, x5⟩
          clear y0 y1 y2 y3 y4 HKZ
          have x05 := x04.trans x5
          have P5 := P4.ext x5
          have B5 := B4.ext x5 (by simp)
          clear P4 B4 x04 x5
          generalize kindM z = kz at *
          by_cases h9 : kz = 9
          · subst h9
            have HRR := Lib.hid (show rchM l k = (rb || rchM l (k - 1)) by rw [HRK.out, HSE.out]; rfl)
            have d0 := B5.cell k
            have d1 := B5.cell (k - 1)
            rw [List.getElem?_set, if_pos rfl, if_pos (by rw [rowB_len]; exact hlt)] at d0
            rw [List.getElem?_set, if_neg (by omega), rowB_at l k (k - 1) hkm, if_pos (by omega)] at d1
            have df := B5.frozen k
            have dl := B5.lt
            have B6 := B5.set k (.bool (rb || rchM l (k - 1)))
            have HS3 : ((rowB l k).set k (.bool rb)).set k (.bool (rb || rchM l (k - 1))) = rowB l (k + 1) := by rw [← HRR.out]; exact HS2.out
            rw [HS3] at B6
            have n2 : ((k : Int) - 1).toNat = k - 1 := by omega
            clear B5 HS3
            cases rb
            all_goals
              go_wp2_with fail
              go_roundw
              case rel => exact ⟨k + 1, by omega, by go_num, ⟨P5.h.setOther (by simp; omega) _, P5.c.setOther (by simp; omega) _, P5.len, P5.ne⟩, B6, x05.setCell (.inr hws) _⟩
              case measure => simp [intOf]; omega
          · have e9 : ((kz : Int) == 9) = false := by rw [beq_eq_false_iff_ne]; omega
            have HRR := Lib.hid (show rchM l k = rb by rw [HRK.out, HSE.out, decide_eq_false h9, Bool.and_false, Bool.false_and, Bool.or_false])
            clear h9
            go_wp2_with fail
            go_roundw
            case rel => exact ⟨k + 1, by omega, by go_num, P5, by rw [← HS1.out, HRR.out]; exact B5, x05⟩
            case measure => simp [intOf]; omega
        · have e10 : ((ky : Int) == 10) = false := by rw [beq_eq_false_iff_ne]; omega
          have HRR := Lib.hid (show rchM l k = rb by rw [HRK.out, HSE.out, decide_eq_false h10, Bool.false_and, Bool.false_and, Bool.or_false])
          clear h10
          go_wp2_with fail
          go_roundw
          case rel => exact ⟨k + 1, by omega, by go_num, P4, by rw [← HS1.out, HRR.out]; exact B4, x04⟩
          case measure => simp [intOf]; omega
    · obtain rfl : k = l.length := by omega
      rw [rowB_all] at BO
      have hll : (reachL l).length = l.length := by simp [reachL]
      have HO := Lib.hid (show wr.ownsRow 0 4 1 (.slice (some ⟨bo, 0, none⟩) l.length l.length) (reachL l).length ((reachL l).map Value.bool) from by
        rw [hll]
        exact BO.owns (by rw [List.length_map, hll]; omega) (by unfold maxLen; omega))
      clear BO hll P
      go_wp2_with fail
      go_ret
      exact ⟨_, rfl, HO.out, x, fun g h => by cases h; exact hws⟩
end Go.Proofs.Ytooifaakflphpaa
