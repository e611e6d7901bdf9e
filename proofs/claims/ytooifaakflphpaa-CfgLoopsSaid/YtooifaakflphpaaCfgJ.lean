/- The reference of layer 16: Loops, Check. -/
import Derived.Test.YtooifaakflphpaaCfgI
namespace Go.Proofs.Ytooifaakflphpaa
open Go.RowKit
set_option maxRecDepth 100000

/-- A place that may be come to again. -/
def LoopAt (l : List Ins) (i : Nat) : Prop := Cf.Rch (nxM l) 0 i ∧ ∃ v ∈ nxM l i, Cf.Rch (nxM l) v i
theorem loops_of (l : List Ins) (h0 : 0 < l.length) (i : Nat) (h : LoopAt l i) : loopsB l = true :=
  (walk_facts l h0).2.2 ⟨i, h.1, h.2⟩
theorem no_loops (l : List Ins) (h : ∀ j, j < l.length → ¬ LoopAt l j) : loopsB l = false := by
  by_cases h0 : 0 < l.length
  · cases hb : loopsB l with
    | false => rfl
    | true =>
      obtain ⟨u, hu, hv⟩ := (walk_facts l h0).2.1 hb
      obtain ⟨k, hk⟩ := hu
      exact absurd ⟨⟨k, hk⟩, hv⟩ (h u (rch_lt l h0 k u hk))
  · unfold loopsB walkM
    rw [if_pos (by omega)]

set_option maxHeartbeats 8000000 in
theorem rloops_any (v : Value) (l : List Ins) (w : World) (hr : Reads w v 5 l.length (insV l)) (hl : l.length ≤ 100000) :
    Calls Try.prog 17 #[v] w fun e w' => e = .returned (.bool (loopsB l)) ∧ Ext [] w w' := by
  obtain ⟨i0, hi, hz0, hz1, hz2⟩ := info_parts info_boolC
  have HW := Lib.hid (steps_any v l w hr hl)
  have HSP := Lib.hid (fun w' (x' : Ext [] w w') v1 fr hf h1 => spread_any v v1 l fr w' (hr.ext x') hl hf h1)
  have HNX := Lib.hid (fun w' (x' : Ext [] w w') k => rnext_any v l k w' (hr.ext x') hl)
  have HL1 := Lib.hid (loops_of l)
  have HL2 := Lib.hid (no_loops l)
  obtain ⟨R, hR⟩ : ∃ R, R = loopsB l := ⟨_, rfl⟩
  rw [← hR] at HL1 HL2 ⊢
  clear hR
  obtain ⟨la, lc, rfl⟩ : ∃ la lc, v = .slice la l.length lc := by
    obtain ⟨la, lc, e, -⟩ := hr
    exact ⟨la, lc, e⟩
  clear hr
  go_enter Try.func17, Try.ntmps17
  go_wp2_with fail
  refine HW.out.mono ?_
  rintro e w1 ⟨u, rfl, hown, x1, -⟩
  obtain ⟨ua, uc, rfl⟩ := owns_slice hown
  have HOW := Lib.hid (fun w' (x' : Ext [] w1 w') => owns_ext hown x' (by simp))
  clear HW hown
  go_wp2_with fail
  go_loopw [4, 5, 6, 7] (fun i _ _ _ wr => ∃ k : Nat, k ≤ l.length ∧ i = .int .i64 (k : Int) ∧ Ext [] w1 wr ∧ Hid (∀ j, j < k → ¬ LoopAt l j)) (fun i _ _ _ _ => l.length - (intOf i).toNat)
  case atStart => exact ⟨0, Nat.zero_le _, rfl, Ext.refl _ _, Lib.hid (fun j hj => by omega)⟩
  case round =>
    obtain ⟨k, hk, rfl, x, HNO⟩ := hrel
    by_cases hlt : k < l.length
    · obtain ⟨ub, rfl, hubl, hck, -⟩ := owns_get (HOW.out wr x) k hlt
      rw [List.getElem?_map, List.getElem?_range hlt] at hck
      simp only [Option.map_some] at hck
      have hwf := (walk_facts l (by omega)).1 k hlt
      have HWF := Lib.hid hwf
      obtain ⟨c, hc⟩ : ∃ c, reachB l k = c := ⟨_, rfl⟩
      rw [hc] at hck HWF
      clear hwf hc
      cases c with
      | false =>
        have HNO2 := Lib.hid (show ∀ j, j < k + 1 → ¬ LoopAt l j from fun j hj h => by
          by_cases h' : j < k
          · exact HNO.out j h' h
          · obtain rfl : j = k := by omega
            exact absurd (HWF.out.2 h.1) (by simp))
        go_wp2_with fail
        go_roundw
        case rel => exact ⟨k + 1, by omega, by go_num, x, HNO2⟩
        case measure => simp [intOf]; omega
      | true =>
        have HRK := Lib.hid (show Cf.Rch (nxM l) 0 k from HWF.out.1 rfl)
        clear HWF
        go_upto_region 7 with (at_make; refine wpList_mk _ rfl _ _ _ rfl 4 i0 (.bool false) Try.underlying26 hi hz0 hz1 rfl .i64 .i64 _ _ l.length rfl rfl rfl rfl (by rw [hz2]; omega) (by unfold maxLen; omega) ?_)
        have B := Blk.new wr 4 (Array.replicate l.length (.bool false))
        have x2 : Ext [] w1 (wr.alloc (.cells (Array.replicate l.length (.bool false)) 4)) := x.alloc _
        have hbs : w1.heap.size ≤ wr.heap.size := x.size
        generalize wr.alloc (.cells (Array.replicate l.length (.bool false)) 4) = w2 at *
        generalize wr.heap.size = bo at *
        have B1 : Blk w2 bo 4 ((List.replicate l.length false).map Value.bool) := by rw [List.map_replicate]; simpa using B
        have hN := HNX.out w2 (x1.trans x2) (k : Int)
        have hnx : nxA l (k : Int) = nxL l k := by unfold nxA; rw [if_pos (by omega), Int.toNat_natCast]
        rw [hnx] at hN
        have HN := Lib.hid hN
        clear hN hnx B hck
        go_wp2_with fail
        refine HN.out.mono ?_
        rintro e w3 ⟨u, rfl, hrow, x3, hfr⟩
        clear HN
        rw [nxL_nat, show (nxL l k).length = (nxM l k).length from by unfold nxM; rw [List.length_map]] at hrow
        have hne : ∀ q, u.ownBlock = some q → q ≠ bo := by intro q hq; have := hfr q hq; have := B1.lt; omega
        have HOR := Lib.hid (fun w' (x' : Ext [bo] w3 w') => owns_ext hrow x' (by intro q hq; have := hne q hq; simp; omega))
        have hnl : (nxM l k).length ≤ 2 := by have := nxL_len l k; unfold nxM; rw [List.length_map]; exact this
        have HLT := Lib.hid (nxM_lt l k)
        have HDEF := Lib.hid (show LoopAt l k ↔ ∃ v ∈ nxM l k, Cf.Rch (nxM l) v k from ⟨fun h => h.2, fun h => ⟨HRK.out, h⟩⟩)
        obtain ⟨ua2, uc2, rfl⟩ := owns_slice hrow
        obtain ⟨ns, hns⟩ : ∃ ns, ns = nxM l k := ⟨_, rfl⟩
        rw [← hns] at HOR hnl HLT HDEF
        rw [← hns]
        have B3 := B1.ext x3 (by simp)
        have x03 := x2.trans x3
        clear hns hrow hfr hne B1 x2 x3 x
        go_wp2_with fail
        go_loopw [7] (fun s7 wx => ∃ (q : Nat) (g : List Bool), q ≤ ns.length ∧ s7 = .int .i64 (q : Int) ∧ Blk wx bo 4 (g.map Value.bool) ∧ Ext [bo] w3 wx ∧ Hid (g.length = l.length ∧ ∀ m, g.getD m false = true ↔ m ∈ ns.take q)) (fun s7 _ => ns.length - (intOf s7).toNat)
        case atStart => exact ⟨0, List.replicate l.length false, Nat.zero_le _, rfl, B3, Ext.refl _ _, Lib.hid ⟨by simp, fun m => by
          rw [List.getD_eq_getElem?_getD, List.getElem?_replicate]
          split <;> simp⟩⟩
        case round =>
          clear B3
          obtain ⟨q, g, hq, rfl, BG, x, HG⟩ := hrel
          by_cases hlt3 : q < ns.length
          · obtain ⟨rg, uc', he, hrgl, hcy⟩ := nat_at wr _ ns (HOR.out wr x) q hlt3
            cases he
            have hyl := HLT.out ns[q] (List.getElem_mem hlt3)
            have HTK := Lib.hid (show ns.take (q + 1) = ns.take q ++ [ns[q]] from List.take_succ_eq_append_getElem hlt3)
            generalize ns[q] = y at *
            have hcm := BG.cell y
            have hgl : y < g.length := by rw [HG.out.1]; exact hyl
            have hg3y : (g.map Value.bool)[y]? = some (.bool g[y]) := by
              rw [List.getElem?_map, List.getElem?_eq_getElem hgl]; rfl
            rw [hg3y] at hcm
            have hfm := BG.frozen y
            have hbl := BG.lt
            have BG2 := BG.set y (.bool true)
            rw [show (g.map Value.bool).set y (.bool true) = (g.set y true).map Value.bool from by rw [List.map_set]] at BG2
            have HG2 := Lib.hid (show (g.set y true).length = l.length ∧ ∀ m, (g.set y true).getD m false = true ↔ m ∈ ns.take (q + 1) from ⟨by rw [List.length_set]; exact HG.out.1, fun m => by
              rw [getD_setB, HTK.out, List.mem_append]
              by_cases hm : y = m
              · rw [if_pos ⟨hm, by omega⟩]; simp [hm]
              · rw [if_neg (fun e => hm e.1), HG.out.2 m]
                simp
                exact fun e => absurd e.symm hm⟩)
            clear hg3y BG
            go_wp2_with fail
            go_roundw
            case rel => exact ⟨q + 1, g.set y true, by omega, by go_num, BG2, x.setCell (.inl (by simp)) _, HG2⟩
            case measure => simp [intOf]; omega
          · obtain rfl : q = ns.length := by omega
            have x04 : Ext [] w1 wr := x03.trans' x (by intro i hi; simp at hi; subst hi; exact .inr hbs)
            have HS := Lib.hid (HSP.out wr (x1.trans x04) (.slice (some ⟨bo, 0, none⟩) l.length l.length) g HG.out.1 (blk_readsB BG (by rw [List.length_map]; exact HG.out.1)))
            clear BG
            go_wp2_with fail
            refine HS.out.mono ?_
            rintro e w5 ⟨u5, g5, rfl, hg5, hc5, hown5, x5, -⟩
            clear HS
            obtain ⟨u5a, u5c, rfl⟩ := owns_slice hown5
            obtain ⟨ob, rfl, hobl, hck, -⟩ := owns_get hown5 k hlt
            have hk5 : (g5.map Value.bool)[k]? = some (.bool (g5.getD k false)) := by
              have : k < g5.length := by omega
              rw [List.getElem?_map, List.getElem?_eq_getElem this]
              simp [this]
            rw [hk5] at hck
            have HC5 := Lib.hid (show g5.getD k false = true ↔ LoopAt l k from by
              rw [hc5 k, HDEF.out]
              constructor
              · rintro ⟨i, hi, hr⟩
                rw [HG.out.2 i, List.take_length] at hi
                exact ⟨i, hi, hr⟩
              · rintro ⟨i, hi, hr⟩
                exact ⟨i, by rw [HG.out.2 i, List.take_length]; exact hi, hr⟩)
            obtain ⟨c, hc⟩ : ∃ c, g5.getD k false = c := ⟨_, rfl⟩
            rw [hc] at hck HC5
            have x05 := x04.trans x5
            clear hk5 hc hc5 hown5 hg5
            cases c with
            | true =>
              have HRR := Lib.hid (show R = true from HL1.out (by omega) k (HC5.out.1 rfl))
              go_wp2_with fail
              go_ret
              exact ⟨by rw [HRR.out]; rfl, x1.trans x05⟩
            | false =>
              have HNO2 := Lib.hid (show ∀ j, j < k + 1 → ¬ LoopAt l j from fun j hj h => by
                by_cases h' : j < k
                · exact HNO.out j h' h
                · obtain rfl : j = k := by omega
                  exact absurd (HC5.out.2 h) (by simp))
              go_wp2_with fail
              go_roundw
              case rel => exact ⟨k + 1, by omega, by go_num, x05, HNO2⟩
              case measure => simp [intOf]; omega
    · obtain rfl : k = l.length := by omega
      have HRR := Lib.hid (show R = false from HL2.out HNO.out)
      go_wp2_with fail
      go_ret
      exact ⟨by rw [HRR.out]; rfl, x1.trans x⟩

set_option maxHeartbeats 4000000 in
theorem rccheck_any (v : Value) (l : List Ins) (lp : Bool) (w : World) (hr : Reads w v 5 l.length (insV l)) (hl : l.length ≤ 100000) :
    Calls Try.prog 15 #[v, .bool lp] w fun e w' => e = .returned (.tuple #[.int .i64 ((checkC l lp).1 : Int), .int .i64 ((checkC l lp).2 : Int)]) ∧ Ext [] w w' := by
  have HC := Lib.hid (rcheck_any v l w hr hl)
  have HRE := Lib.hid (fun w' (x : Ext [] w w') => rreach_any v l w' (hr.ext x) hl)
  have HLO := Lib.hid (fun w' (x : Ext [] w w') => rloops_any v l w' (hr.ext x) hl)
  have HM := Lib.hid (show checkC l lp = (if (checkM l).2 ≠ 0 then checkM l else match firstBad (rchM l) l.length with | some k => (k, 22) | none => if (!lp && loopsB l) = true then (0, 22) else (0, 0)) from rfl)
  have HF1 := Lib.hid (fun k hk hb hp => firstBad_some (rchM l) l.length k hk hb hp)
  have HF2 := Lib.hid (firstBad_none (rchM l) l.length)
  obtain ⟨R, hR⟩ : ∃ R, R = checkC l lp := ⟨_, rfl⟩
  rw [← hR] at HM ⊢
  clear hR
  have HRL := Lib.hid (show (reachL l).length = l.length ∧ (reachL l).map Value.bool = (List.range l.length).map fun j => Value.bool (rchM l j) from by
    unfold reachL
    rw [List.map_map]
    exact ⟨by simp, rfl⟩)
  obtain ⟨la, lc, rfl⟩ : ∃ la lc, v = .slice la l.length lc := by
    obtain ⟨la, lc, e, -⟩ := hr
    exact ⟨la, lc, e⟩
  clear hr
  generalize checkM l = cm at *
  generalize loopsB l = lo at *
  obtain ⟨ca, cb⟩ := cm
  dsimp only at HM HC
  by_cases h0 : cb = 0
  · subst h0
    go_enter Try.func15, Try.ntmps15
    go_wp2_with fail
    refine HC.out.mono ?_
    rintro e w1 ⟨rfl, x1⟩
    clear HC
    go_wp2_with fail
    refine (HRE.out w1 x1).mono ?_
    rintro e w2 ⟨u, rfl, hown, x2, -⟩
    have x02 := x1.trans x2
    rw [HRL.out.1, HRL.out.2] at hown
    obtain ⟨ua, uc, rfl⟩ := owns_slice hown
    have HAT := Lib.hid (fun k (hk : k < l.length) => (show ∃ g, ua = some ⟨g, 0, none⟩ ∧ w2.cell? ⟨g, k, none⟩ = some (.bool (rchM l k)) from by
      obtain ⟨g, rfl, -, hc, -⟩ := owns_get hown k hk
      refine ⟨g, rfl, ?_⟩
      rw [hc, List.getElem?_map, List.getElem?_range hk]
      rfl))
    clear hown HRL HRE x1 x2
    go_wp2_with fail
    go_loop [9] (fun i => ∃ k : Nat, k ≤ l.length ∧ i = .int .i64 (k : Int) ∧ Hid (∀ j, j < k → rchM l j = true)) (fun i => l.length - (intOf i).toNat)
    case atStart => exact ⟨0, Nat.zero_le _, rfl, Lib.hid (fun j hj => by omega)⟩
    case round =>
      obtain ⟨k, hk, rfl, HNO⟩ := hrel
      by_cases hlt : k < l.length
      · obtain ⟨g, rfl, hc⟩ := HAT.out k hlt
        obtain ⟨b, hb⟩ : ∃ b, rchM l k = b := ⟨_, rfl⟩
        rw [hb] at hc
        cases b with
        | false =>
          have HRR := Lib.hid (show R = (k, 22) by rw [HM.out, HF1.out k hlt hb HNO.out]; rfl)
          clear hb HM HF1 HF2
          go_wp2_with fail
          go_ret2
          exact ⟨by rw [HRR.out]; rfl, x02⟩
        | true =>
          have HNO2 := Lib.hid (show ∀ j, j < k + 1 → rchM l j = true from fun j hj => by
            by_cases h : j < k
            · exact HNO.out j h
            · obtain rfl : j = k := by omega
              exact hb)
          clear hb
          go_wp2_with fail
          go_round
          case rel => exact ⟨k + 1, by omega, by go_num, HNO2⟩
          case measure => simp [intOf]; omega
      · obtain rfl : k = l.length := by omega
        have HRR0 := Lib.hid (show R = (if (!lp && lo) = true then (0, 22) else (0, 0)) by rw [HM.out, HF2.out HNO.out]; rfl)
        clear HM HF1 HF2
        cases lp with
        | true =>
          have HRR := Lib.hid (show R = (0, 0) by rw [HRR0.out]; rfl)
          clear HRR0
          go_wp2_with fail
          go_ret2
          exact ⟨by rw [HRR.out]; rfl, x02⟩
        | false =>
          go_wp2_with fail
          refine (HLO.out _ x02).mono ?_
          rintro e w4 ⟨rfl, x4⟩
          have x04 := x02.trans x4
          cases lo with
          | true =>
            have HRR := Lib.hid (show R = (0, 22) by rw [HRR0.out]; rfl)
            clear HRR0 HLO
            go_wp2_with fail
            go_ret2
            exact ⟨by rw [HRR.out]; rfl, x04⟩
          | false =>
            have HRR := Lib.hid (show R = (0, 0) by rw [HRR0.out]; rfl)
            clear HRR0 HLO
            go_wp2_with fail
            go_ret2
            exact ⟨by rw [HRR.out]; rfl, x04⟩
  · have HRR := Lib.hid (show R = (ca, cb) by rw [HM.out, if_pos h0])
    have hq : ((cb : Int) != 0) = true := by rw [bne_iff_ne]; omega
    clear HM h0
    go_enter Try.func15, Try.ntmps15
    go_wp2_with fail
    refine HC.out.mono ?_
    rintro e w1 ⟨rfl, x1⟩
    go_wp2_with fail
    go_ret2
    exact ⟨by rw [HRR.out]; rfl, x1⟩
end Go.Proofs.Ytooifaakflphpaa
