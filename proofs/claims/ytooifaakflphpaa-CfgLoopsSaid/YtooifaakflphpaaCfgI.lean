/- The reference of layer 16: steps, Reach, Loops, Check. -/
import Derived.Test.YtooifaakflphpaaCfgH
import Derived.Test.YtooifaakflphpaaCfgF
import Derived.Test.YtooifaakflphpaaShQ
namespace Go.Proofs.Ytooifaakflphpaa
open Go.RowKit
set_option maxRecDepth 100000

theorem walk_facts (l : List Ins) (h0 : 0 < l.length) : (∀ i, i < l.length → (reachB l i = true ↔ Cf.Rch (nxM l) 0 i)) ∧ (loopsB l = true ↔ Cf.Cyc (nxM l) 0) := by
  have h := Cf.walk_fresh (nxM l) l.length h0 (nxM_lt l)
  have e : walkM l = Cf.visF (nxM l) l.length 0 (List.replicate l.length 0, false) := by unfold walkM; rw [if_neg (by omega)]
  refine ⟨fun i hi => ?_, ?_⟩
  · unfold reachB
    rw [e, decide_eq_true_iff]
    exact h.2.2.1 i hi
  · unfold loopsB
    rw [e]
    exact h.2.2.2
theorem rch_lt (l : List Ins) (h0 : 0 < l.length) : ∀ (k i : Nat), Cf.RchN (nxM l) 0 k i → i < l.length
  | 0, i, h => by rw [← show 0 = i from h]; exact h0
  | _ + 1, i, ⟨b, _, hm⟩ => nxM_lt l b i hm

def StepsPost (l : List Ins) (w : World) (e : Ending) (w' : World) : Prop :=
  ∃ u : Value, e = .returned u ∧ w'.ownsRow 0 4 1 u l.length ((List.range l.length).map fun j => Value.bool (reachB l j)) ∧ Ext [] w w' ∧ ∀ q, u.ownBlock = some q → w.heap.size ≤ q

theorem blk_readsB {w : World} {b : Nat} {cs : List Value} {n : Nat} (h : Blk w b 4 cs) (hn : cs.length = n) : Reads w (.slice (some ⟨b, 0, none⟩) n n) 1 n cs := blk_reads h n (by rw [hn]; omega)

theorem steps_map (l : List Ins) (g : List Bool) (hl : g.length = l.length) (hg : ∀ j, j < l.length → (g.getD j false = true ↔ reachB l j = true)) : g.map Value.bool = (List.range l.length).map fun j => Value.bool (reachB l j) := by
  apply List.ext_getElem (by simp [hl])
  intro i h1 h2
  have hi : i < l.length := by simpa using h2
  simp only [List.getElem_map, List.getElem_range]
  congr 1
  have := hg i hi
  rw [List.getD_eq_getElem?_getD, List.getElem?_eq_getElem (by omega), Option.getD_some] at this
  cases h3 : g[i] <;> cases h4 : reachB l i <;> simp [h3, h4] at this ⊢

set_option maxHeartbeats 4000000 in
theorem steps_any (v : Value) (l : List Ins) (w : World) (hr : Reads w v 5 l.length (insV l)) (hl : l.length ≤ 100000) :
    Calls Try.prog 24 #[v] w (StepsPost l w) := by
  obtain ⟨i0, hi, hz0, hz1, hz2⟩ := info_parts info_boolC
  have HSP := Lib.hid (fun w' (x' : Ext [] w w') v1 fr hf h1 => spread_any v v1 l fr w' (hr.ext x') hl hf h1)
  obtain ⟨la, lc, rfl⟩ : ∃ la lc, v = .slice la l.length lc := by
    obtain ⟨la, lc, e, -⟩ := hr
    exact ⟨la, lc, e⟩
  clear hr
  go_enter Try.func24, Try.ntmps24
  go_upto_region 2 with (at_make; refine wpList_mk _ rfl _ _ _ rfl 4 i0 (.bool false) Try.underlying26 hi hz0 hz1 rfl .i64 .i64 _ _ l.length rfl rfl rfl rfl (by rw [hz2]; omega) (by unfold maxLen; omega) ?_)
  have B := Blk.new w 4 (Array.replicate l.length (.bool false))
  have x1 : Ext [] w (w.alloc (.cells (Array.replicate l.length (.bool false)) 4)) := (Ext.refl _ _).alloc _
  obtain ⟨bo, hbo⟩ : ∃ b, b = w.heap.size := ⟨_, rfl⟩
  have hbs : w.heap.size ≤ bo := by omega
  have hlt := B.lt
  rw [← hbo] at B hlt
  rw [← hbo]
  clear hbo
  generalize w.alloc (.cells (Array.replicate l.length (.bool false)) 4) = w1 at *
  have B1 : Blk w1 bo 4 ((List.replicate l.length false).map Value.bool) := by rw [List.map_replicate]; simpa using B
  clear B
  by_cases h0 : l.length = 0
  · have h0' : ¬ 0 < l.length := by omega
    have H0 := Lib.hid h0
    clear h0
    have HS := Lib.hid (HSP.out w1 x1 (.slice (some ⟨bo, 0, none⟩) l.length l.length) (List.replicate l.length false) (by simp) (blk_readsB B1 (by simp)))
    go_wp2_with fail
    refine HS.out.mono ?_
    rintro e w2 ⟨u, g, rfl, hg, -, hown, x2, hfr⟩
    have HO := Lib.hid hown
    obtain ⟨ua, uc, rfl⟩ := owns_slice hown
    have hsz := x1.size
    clear hown HS
    go_wp2_with fail
    go_ret
    refine ⟨_, rfl, ?_, x1.trans x2, fun q hq => by have := hfr q hq; omega⟩
    have h1 := HO.out
    have hgn : g = [] := List.eq_nil_of_length_eq_zero (by rw [hg]; exact H0.out)
    rw [hgn] at h1
    rw [show (List.range l.length).map (fun j => Value.bool (reachB l j)) = [] from by rw [H0.out]; rfl]
    exact h1
  · have h0' : 0 < l.length := by omega
    have c0 := B1.cell 0
    have hc0 : ((List.replicate l.length false).map Value.bool)[0]? = some (.bool false) := by simp [h0']
    rw [hc0] at c0
    have f0 := B1.frozen 0
    have B2 := B1.set 0 (.bool true)
    rw [show ((List.replicate l.length false).map Value.bool).set 0 (.bool true) = ((List.replicate l.length false).set 0 true).map Value.bool from by rw [List.map_set]] at B2
    have x2 : Ext [] w (w1.setCell ⟨bo, 0, none⟩ (.bool true)) := x1.setCell (.inr hbs) _
    have HS := Lib.hid (HSP.out _ x2 (.slice (some ⟨bo, 0, none⟩) l.length l.length) ((List.replicate l.length false).set 0 true) (by simp) (blk_readsB B2 (by simp)))
    clear h0 hc0 B1 B2
    go_wp2_with fail
    refine HS.out.mono ?_
    rintro e w3 ⟨u, g, rfl, hg, hgi, hown, x3, hfr⟩
    have HO := Lib.hid hown
    have HGI := Lib.hid hgi
    have HG := Lib.hid hg
    obtain ⟨ua, uc, rfl⟩ := owns_slice hown
    have hsz := x2.size
    clear hown HS hgi hg
    go_wp2_with fail
    go_ret
    refine ⟨_, rfl, ?_, x2.trans x3, fun q hq => by have := hfr q hq; omega⟩
    rw [← steps_map l g HG.out (fun j hj => ?_)]
    · exact HO.out
    · rw [HGI.out j, (walk_facts l h0').1 j hj]
      constructor
      · rintro ⟨i, hi, hr⟩
        rw [getD_setB] at hi
        split at hi
        · rename_i e; rw [← e.1] at hr; exact hr
        · rw [List.getD_eq_getElem?_getD, List.getElem?_replicate] at hi
          split at hi <;> cases hi
      · intro hr
        refine ⟨0, ?_, hr⟩
        rw [getD_setB, if_pos ⟨rfl, by simpa using h0'⟩]

/-- So far. -/
def rowS (l : List Ins) (k : Nat) : List Value := (List.range l.length).map fun j => Value.bool (if j < k then rchM l j else reachB l j)
theorem rowS_len (l : List Ins) (k : Nat) : (rowS l k).length = l.length := by simp [rowS]
theorem rowS_at (l : List Ins) (k j : Nat) (hj : j < l.length) : (rowS l k)[j]? = some (.bool (if j < k then rchM l j else reachB l j)) := by
  unfold rowS
  rw [List.getElem?_map, List.getElem?_range hj]; rfl
theorem rowS_one (l : List Ins) : ((List.range l.length).map fun j => Value.bool (reachB l j)) = rowS l 1 := by
  unfold rowS
  refine List.map_congr_left fun j _ => ?_
  by_cases h : j < 1
  · obtain rfl : j = 0 := by omega
    rfl
  · rw [if_neg h]
theorem rowS_skip (l : List Ins) (k : Nat) (h : rchM l k = reachB l k) : rowS l (k + 1) = rowS l k := by
  unfold rowS
  refine List.map_congr_left fun j _ => ?_
  by_cases h1 : j = k
  · subst h1; rw [if_pos (by omega), if_neg (by omega), h]
  · by_cases h2 : j < k
    · rw [if_pos (by omega), if_pos h2]
    · rw [if_neg (by omega), if_neg h2]
theorem rowS_set (l : List Ins) (k : Nat) (h : rchM l k = true) : (rowS l k).set k (.bool true) = rowS l (k + 1) := by
  apply List.ext_getElem?
  intro i
  rw [List.getElem?_set]
  by_cases hi : i < l.length
  · rw [rowS_at l (k + 1) i hi]
    by_cases h1 : k = i
    · subst h1
      rw [if_pos rfl, if_pos (by rw [rowS_len]; exact hi), if_pos (by omega), h]
    · rw [if_neg h1, rowS_at l k i hi]
      by_cases h2 : i < k
      · rw [if_pos h2, if_pos (by omega)]
      · rw [if_neg h2, if_neg (by omega)]
  · rw [List.getElem?_eq_none (l := rowS l (k + 1)) (by rw [rowS_len]; omega)]
    by_cases h1 : k = i
    · rw [if_pos h1, if_neg (by rw [rowS_len]; omega)]
    · rw [if_neg h1, List.getElem?_eq_none (by rw [rowS_len]; omega)]
theorem rowS_all (l : List Ins) (k : Nat) (h : l.length ≤ k) : rowS l k = (reachL l).map Value.bool := by
  unfold rowS reachL
  rw [List.map_map]
  refine List.map_congr_left fun j hj => ?_
  rw [if_pos (by have := List.mem_range.1 hj; omega)]
  rfl

set_option maxHeartbeats 8000000 in
theorem rreach_any (v : Value) (l : List Ins) (w : World) (hr : Reads w v 5 l.length (insV l)) (hl : l.length ≤ 100000) :
    Calls Try.prog 12 #[v] w (BoolsPost w (reachL l)) := by
  have hfk := fun (k : Int) (b c d e : Value) (w : World) => (show (Instr.field 45 (.agg #[.int .i64 k, b, c, d, e]) 0).run Try.prog w = .ok (.int .i64 k) w from by kernel_rfl)
  have HW := Lib.hid (steps_any v l w hr hl)
  have HR := Lib.hid (fun (h0 : 0 < l.length) ao c (he : v = .slice ao l.length c) => ins_lit (he ▸ hr) h0)
  obtain ⟨la, lc, rfl⟩ : ∃ la lc, v = .slice la l.length lc := by
    obtain ⟨la, lc, e, -⟩ := hr
    exact ⟨la, lc, e⟩
  clear hr
  go_enter Try.func12, Try.ntmps12
  go_wp2_with fail
  refine HW.out.mono ?_
  rintro e w1 ⟨u, rfl, hown, x1, hfr⟩
  rw [rowS_one] at hown
  obtain ⟨ua, uc, rfl⟩ := owns_slice hown
  have HFR := Lib.hid hfr
  clear HW hfr
  go_wp2_with fail
  go_loopw [4] (fun i wr => ∃ k : Nat, 1 ≤ k ∧ (k ≤ l.length ∨ k = 1) ∧ i = .int .i64 (k : Int) ∧ wr.ownsRow 0 4 1 (.slice ua l.length uc) l.length (rowS l k) ∧ Ext [] w wr) (fun i _ => l.length - (intOf i).toNat)
  case atStart => exact ⟨1, Nat.le_refl _, .inr rfl, rfl, hown, x1⟩
  case round =>
    clear hown x1
    obtain ⟨k, hk1, hk, rfl, hown, x⟩ := hrel
    by_cases hlt : k < l.length
    · obtain ⟨ob, rfl, hobl, hck, hfk'⟩ := owns_get hown k hlt
      have hkm : k - 1 < l.length := by omega
      obtain ⟨ob', he, -, hcm, -⟩ := owns_get hown (k - 1) hkm
      cases he
      rw [rowS_at l k k hlt, if_neg (by omega)] at hck
      rw [rowS_at l k (k - 1) hkm, if_pos (by omega)] at hcm
      have hob : w.heap.size ≤ ob := HFR.out ob rfl
      have HRK := Lib.hid (show rchM l k = (reachB l k || (secB l (k - 1) && rchM l (k - 1))) by
        obtain ⟨m, rfl⟩ : ∃ m, k = m + 1 := ⟨k - 1, by omega⟩
        rfl)
      have HSE := Lib.hid (show secB l (k - 1) = (decide (kindM l[k] = 10) && decide (kindM l[k - 1] = 9)) by
        unfold secB
        rw [List.getElem?_eq_getElem hkm]
        have : k - 1 + 1 = k := by omega
        rw [this, List.getElem?_eq_getElem hlt])
      have HSK := Lib.hid (rowS_skip l k)
      have HST := Lib.hid (rowS_set l k)
      obtain ⟨bb, oo, rfl, hbb, hcells⟩ := HR.out (by omega) la lc rfl
      have hcy := fun w' (x' : Ext [] w w') => (x'.cell (p := ⟨bb, oo + k * 5 + 0, none⟩) hbb (by simp)).trans (hcells k hlt 0 (by omega))
      have hcp := fun w' (x' : Ext [] w w') => (x'.cell (p := ⟨bb, oo + (k - 1) * 5 + 0, none⟩) hbb (by simp)).trans (hcells (k - 1) hkm 0 (by omega))
      simp only [Ins.cells, List.getElem?_cons_zero, Nat.add_zero] at hcy hcp
      generalize l[k] = y at *
      generalize l[k - 1] = z at *
      have HKY := Lib.hid (show kindM y = (partsN y.op.toNat).kind from rfl)
      have HKZ := Lib.hid (show kindM z = (partsN z.op.toNat).kind from rfl)
      have HOY := Lib.hid (fun w' => rof_any y.op.toNat y.op.toNat_lt w')
      have HOZ := Lib.hid (fun w' => rof_any z.op.toNat z.op.toNat_lt w')
      have y0 := hcy wr x
      have HCP := Lib.hid hcp
      have HOWN := Lib.hid (fun w' (x' : Ext [] wr w') => owns_ext hown x' (by simp))
      have HCM := Lib.hid (fun w' (x' : Ext [] wr w') => (x'.cell (p := ⟨ob, k - 1, none⟩) hobl (by simp)).trans hcm)
      have HCK := Lib.hid (fun w' (x' : Ext [] wr w') => (x'.cell (p := ⟨ob, k, none⟩) hobl (by simp)).trans hck)
      have HFK := Lib.hid (fun w' (x' : Ext [] wr w') => (x'.frozen (p := ⟨ob, k, none⟩) hobl (by simp)).trans hfk')
      clear hcy hcp hcells hck hcm hfk' hown
      generalize partsN y.op.toNat = py at *
      generalize partsN z.op.toNat = pz at *
      obtain ⟨ky, y1, y2, y3, y4⟩ := py
      obtain ⟨kz, z1, z2, z3, z4⟩ := pz
      simp only [Prt.cells] at HOY HOZ
      dsimp only at HKY HKZ
      go_wp2_with fail
      refine (HOY.out wr).mono ?_
      rintro e w4 ⟨rfl, x4⟩
      clear y0 HOY
      have x04 := x.trans x4
      by_cases h10 : ky = 10
      · subst h10
        have z0 := HCP.out w4 x04
        have n2 : ((k : Int) - 1).toNat = k - 1 := by omega
        have hb4 : bb < w4.heap.size := Nat.lt_of_lt_of_le hbb x04.size
        go_wp2_with fail
        refine (HOZ.out w4).mono ?_
        rintro e w5 ⟨rfl, x5⟩
        clear z0 HOZ
        have x45 := x4.trans x5
        have x05 := x04.trans x5
        by_cases h9 : kz = 9
        · subst h9
          have HRR := Lib.hid (show rchM l k = (reachB l k || rchM l (k - 1)) by rw [HRK.out, HSE.out, HKY.out, HKZ.out]; rfl)
          have hcm := HCM.out w5 x45
          obtain ⟨c, hc⟩ : ∃ c, rchM l (k - 1) = c := ⟨_, rfl⟩
          rw [hc] at hcm HRR
          clear hc
          cases c with
          | true =>
            have hO := owns_set (HOWN.out w5 x45) k hlt (.bool true)
            rw [HST.out (by rw [HRR.out, Bool.or_true])] at hO
            have hck := HCK.out w5 x45
            have hfk' := HFK.out w5 x45
            have hob5 : ob < w5.heap.size := Nat.lt_of_lt_of_le hobl x45.size
            go_wp2_with fail
            go_roundw
            case rel => exact ⟨k + 1, by omega, by omega, by go_num, hO, x05.setCell (.inr hob) _⟩
            case measure => simp [intOf]; omega
          | false =>
            have hO := HOWN.out w5 x45
            rw [← HSK.out (by rw [HRR.out, Bool.or_false])] at hO
            go_wp2_with fail
            go_roundw
            case rel => exact ⟨k + 1, by omega, by omega, by go_num, hO, x05⟩
            case measure => simp [intOf]; omega
        · have e9 : ((kz : Int) == 9) = false := by rw [beq_eq_false_iff_ne]; omega
          have hO := HOWN.out w5 x45
          rw [← HSK.out (by rw [HRK.out, HSE.out, HKZ.out, decide_eq_false h9, Bool.and_false, Bool.false_and, Bool.or_false])] at hO
          clear h9
          go_wp2_with fail
          go_roundw
          case rel => exact ⟨k + 1, by omega, by omega, by go_num, hO, x05⟩
          case measure => simp [intOf]; omega
      · have e10 : ((ky : Int) == 10) = false := by rw [beq_eq_false_iff_ne]; omega
        have hO := HOWN.out w4 x4
        rw [← HSK.out (by rw [HRK.out, HSE.out, HKY.out, decide_eq_false h10, Bool.false_and, Bool.false_and, Bool.or_false])] at hO
        clear h10
        go_wp2_with fail
        go_roundw
        case rel => exact ⟨k + 1, by omega, by omega, by go_num, hO, x04⟩
        case measure => simp [intOf]; omega
    · rw [rowS_all l k (by omega)] at hown
      have HO := Lib.hid (show wr.ownsRow 0 4 1 (.slice ua l.length uc) (reachL l).length ((reachL l).map Value.bool) from by
        rw [show (reachL l).length = l.length from by simp [reachL]]; exact hown)
      clear hown
      go_wp2_with fail
      go_ret
      exact ⟨_, rfl, HO.out, x, HFR.out⟩
end Go.Proofs.Ytooifaakflphpaa
