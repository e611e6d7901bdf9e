/- The law CanonBacks: the walk. -/
import Derived.Test.YtkpckjkjlhaglaaCanonC
import Derived.Test.YtkpckjkjlhaglaaBack
import Derived.Test.YtkpckjkjlhaglaaSame
namespace Go.Proofs.Ytkpckjkjlhaglaa
open Go.RowKit

theorem wf_i32 {z : Int} (h : (Lit.int .i32 z).wf = true) : (BitVec.ofInt 32 z).toInt = z := by
  have b : -2147483648 ≤ z ∧ z ≤ 2147483647 := by simp [Lit.wf] at h; first | exact h | (simp [IntKind.min, IntKind.max] at h; omega)
  rw [BitVec.toInt_ofInt]; simp [Int.bmod]; omega

/-- The first m of a row of numbers. -/
theorem imm_reads {w : World} {a : Option Addr} {len cap : Nat} {zs : List Int} (h : IsRow .i32 w a len cap zs) (m : Nat) (hm : m ≤ len) :
    ((zs.take m).map (BitVec.ofInt 32)).length = m ∧ Reads w (.slice a m cap) 1 m (immV ((zs.take m).map (BitVec.ofInt 32))) := by
  rcases h with ⟨rfl, rfl, rfl, rfl⟩ | ⟨x, rfl, hl, hc, hz, hcell, hw⟩
  · obtain rfl : m = 0 := by omega
    exact ⟨rfl, none, 0, rfl, rfl, fun _ => ⟨rfl, rfl⟩, fun ad e => by cases e⟩
  · have e : ((zs.take m).map (BitVec.ofInt 32)).length = m := by rw [List.length_map, List.length_take]; omega
    refine ⟨e, some x, cap, rfl, by rw [immV_length, e]; omega, (fun e => by cases e), fun ad had j u hu => ?_⟩
    obtain rfl := Option.some.inj had
    have hj : j < m := by have := (List.getElem?_eq_some_iff.1 hu).1; rw [immV_length, e] at this; exact this
    have hjz : j < zs.length := by omega
    have h1 := hcell j hjz
    rw [immV_at _ j (by omega)] at hu
    obtain rfl := Option.some.inj hu
    rw [h1]
    simp only [List.getElem_map, List.getElem_take]
    rw [wf_i32 (hw _ (List.getElem_mem hjz))]
    simp [List.getD, hjz]

def stepO (fds : List (BitVec 32)) (x : Ins) : Ins := if okB fds x then stepB fds x else x

set_option maxHeartbeats 8000000 in
set_option maxRecDepth 100000 in
theorem cbacks_walk (v : Value) (l0 : List Ins) (a1 : Option Addr) (len1 cap1 : Nat) (zs : List Int) (w : World) (h : InsArg w v l0) (hz : IsRow .i32 w a1 len1 cap1 zs) :
    Calls Try.prog 5 #[v, .slice a1 len1 cap1] w fun e w' => e = .returned (.bool true) ∧ Ext [] w w' := by
  obtain ⟨ao, c, rfl, hlc, hcm, hr⟩ := h
  have HFEW := Lib.hid (few_any _ l0 w hr (by omega))
  clear hr hlc hcm
  have hl60 := fewL_length l0
  generalize fewL l0 = l at *
  have hlen : len1 ≤ cap1 := by rcases hz with ⟨-, rfl, rfl, -⟩ | ⟨x, -, h, -⟩ <;> omega
  have hcap : cap1 ≤ 9223372036854775807 := by rcases hz with ⟨-, rfl, rfl, -⟩ | ⟨x, -, -, h, -⟩ <;> (try unfold maxLen at h) <;> omega
  have hfz := imm_reads hz (min len1 6) (by omega)
  obtain ⟨n, hn⟩ : ∃ n, n = min len1 6 := ⟨_, rfl⟩
  have IFN := Lib.hid (show (if 6 < (len1 : Int) then 6 else (len1 : Int)) = (n : Int) by split <;> omega)
  have p1 : 0 ≤ (if 6 < (len1 : Int) then 6 else (len1 : Int)) := by split <;> omega
  have p2 : (if 6 < (len1 : Int) then 6 else (len1 : Int)) ≤ (cap1 : Int) := by split <;> omega
  rw [← hn] at hfz
  have hn6 : n ≤ 6 := by omega
  generalize (zs.take n).map (BitVec.ofInt 32) = fds at *
  obtain ⟨hfl, hfr⟩ := hfz
  subst hfl
  have HFR := Lib.hid (fun w' (x : Ext [] w w') => hfr.ext x)
  have HF := Lib.hid (fun w' (x : Ext [] w w') (k : Nat) (hk : k < fds.length) => (show ∃ b o, a1 = some ⟨b, o, none⟩ ∧ w'.cell? ⟨b, o + k, none⟩ = some (.int .i32 (fds.getD k 0).toInt) from by
    obtain ⟨ao', c', he, -, hn', hc⟩ := HFR.out w' x
    cases he
    cases a1 with
    | none => have := (hn' rfl).1; omega
    | some ad =>
      obtain ⟨b, o, spot⟩ := ad
      have h1 := hc _ rfl k _ (by rw [immV_at fds k hk])
      have h0 := hc _ rfl 0 _ (by rw [immV_at fds 0 (by omega)])
      have hs : spot = none := by
        have := World.cell?_spot h0
        simpa [Addr.add] using this
      subst hs
      refine ⟨b, o, rfl, ?_⟩
      rw [Addr.add_lit] at h1
      rw [h1]
      simp [List.getD, hk]))
  clear hz hn hfr
  go_enter Try.func5, Try.ntmps5
  go_wp2_with fail
  refine HFEW.out.mono ?_
  rintro e w1 ⟨v1, rfl, hown1, x1, fr1⟩
  obtain ⟨oa, oc, rfl⟩ := owns_slice hown1
  have hob : ∀ g, (Value.slice oa l.length oc).ownBlock = some g → g < w1.heap.size := fun g hg => owns_lt hown1 hg
  clear HFEW
  go_upto_region 3 with (fail)
  rw [IFN.out]
  simp only [Int.toNat_natCast]
  clear p1 p2 IFN hlen hcap
  go_wp2_with fail
  refine (back_any (.slice oa l.length oc) (.slice a1 fds.length cap1) l fds w1 (owns_reads hown1) (HFR.out _ x1) (by omega)).mono ?_
  intro e w3 hp3
  have HP3 := Lib.hid hp3
  obtain ⟨m5, e5, rfl, x13⟩ : ∃ m5 e5, e = .returned (.tuple #[m5, .int .i64 e5]) ∧ Ext [] w1 w3 := by
    unfold BackPost at hp3
    split at hp3
    · obtain ⟨v5, h1, -, h3, -⟩ := hp3; exact ⟨_, _, h1, h3⟩
    · exact ⟨_, _, hp3.1, hp3.2⟩
  clear hp3
  have hown1 := owns_ext hown1 x13 (by simp)
  have x3 := x1.trans x13
  go_wp2_with fail
  go_loopw [7, 8] (fun rr i wr => ∃ (k : Nat) (r : Bool), k ≤ l.length ∧ rr = .bool r ∧ i = .int .i64 (k : Int) ∧ Hid (r = (l.take k).all (okB fds)) ∧ wr.ownsRow 0 27 5 (.slice oa l.length oc) l.length (insV (midM (stepO fds) l k)) ∧ Ext (Value.slice oa l.length oc).ownBlock.toList w3 wr) (fun _ i _ => l.length - (intOf i).toNat)
  case atStart => exact ⟨0, true, by omega, rfl, rfl, Lib.hid (by simp), by simpa [midM] using hown1, Ext.refl _ _⟩
  case round =>
    clear hown1
    obtain ⟨k, r, hk, rfl, rfl, HRR, ho, x⟩ := hrel
    have xx : Ext [] w wr := x3.trans' x (by intro i hi; exact .inr (fr1 i (by simpa using hi)))
    by_cases hlt : k < l.length
    · obtain ⟨g, oc', cur, he, -, hoc, hocm, -, -⟩ := owns_some ho (by omega)
      cases he
      unfold maxLen at hocm
      have hcell : ∀ j, j < 5 → wr.cell? ⟨g, k * 5 + j, none⟩ = (l[k]).cells[j]? := by
        intro j hj
        rw [ho.cellAt (k * 5 + j) (by omega), insV_at _ k j (by rw [midM_length _ l k hk]; exact hlt) hj, midM_at _ l k hlt]
      have hst := Lib.hid (midM_succ (stepO fds) l k hlt)
      have hok := Lib.hid (show (l.take (k + 1)).all (okB fds) = ((l.take k).all (okB fds) && okB fds l[k]) by rw [List.take_succ_eq_append_getElem hlt, List.all_append]; simp)
      have hmk := Lib.hid (midM_at (stepO fds) l k hlt)
      have hml := midM_length (stepO fds) l k hk
      have HO := Lib.hid (show stepO fds l[k] = if okB fds l[k] then stepB fds l[k] else l[k] from rfl)
      generalize l[k] = y at *
      have c0 := hcell 0 (by omega)
      have c1 := hcell 1 (by omega)
      have c2 := hcell 2 (by omega)
      have c3 := hcell 3 (by omega)
      have c4 := hcell 4 (by omega)
      simp only [Ins.cells, List.getElem?_cons_zero, List.getElem?_cons_succ, Nat.add_zero] at c0 c1 c2 c3 c4
      clear hcell
      go_wp2_with fail
      refine (ismap_any y wr).mono ?_
      rintro e w4 ⟨rfl, x4⟩
      have ho4 := owns_ext ho x4 (by simp)
      have y4 := x.trans' x4 (by simp)
      have xx4 := xx.trans x4
      clear ho x xx x4 c0 c1 c2 c3 c4
      cases hm : isMapI y
      · have HK := Lib.hid (show okB fds y = true by unfold okB; rw [hm]; rfl)
        have HI := Lib.hid (show stepO fds y = y by rw [HO.out, HK.out]; simp [stepB, hm])
        clear hm
        go_wp2_with fail
        go_roundw
        case rel =>
          refine ⟨k + 1, r, by omega, rfl, by go_num, Lib.hid (by rw [hok.out, HK.out, Bool.and_true]; exact HRR.out), ?_, y4⟩
          rw [hst.out, HI.out, ← hmk.out, List.set_getElem_self]; exact ho4
        case measure => simp [intOf]; omega
      · have HK := Lib.hid (show okB fds y = (decide (0 ≤ y.imm.toInt) && decide (y.imm.toInt < (fds.length : Int))) by unfold okB; rw [hm]; rfl)
        have HB := Lib.hid (show stepB fds y = { y with imm := fds.getD y.imm.toInt.toNat 0 } by unfold stepB; rw [hm]; rfl)
        clear hm
        have c4g : w4.cell? ⟨g, k * 5 + 4, none⟩ = some (.int .i32 y.imm.toInt) := by
          rw [ho4.cellAt (k * 5 + 4) (by omega), insV_at _ k 4 (by rw [hml]; exact hlt) (by omega), hmk.out]; rfl
        have f4g := ho4.frozenAt (k * 5 + 4)
        have hb1 : -2147483648 ≤ y.imm.toInt := by have := y.imm.le_toInt; simpa using this
        have hb2 : y.imm.toInt ≤ 2147483647 := by have := y.imm.toInt_lt; simp at this; omega
        by_cases hneg : y.imm.toInt < 0
        · have HN := Lib.hid (show okB fds y = false by rw [HK.out, decide_eq_false (by omega), Bool.false_and])
          have HI := Lib.hid (show stepO fds y = y by rw [HO.out, HN.out]; rfl)
          go_wp2_with fail
          go_roundw
          case rel =>
            refine ⟨k + 1, false, by omega, rfl, by go_num, Lib.hid (by rw [hok.out, HN.out, Bool.and_false]), ?_, y4⟩
            rw [hst.out, HI.out, ← hmk.out, List.set_getElem_self]; exact ho4
          case measure => simp [intOf]; omega
        · by_cases hge : (fds.length : Int) ≤ y.imm.toInt
          · have HN := Lib.hid (show okB fds y = false by rw [HK.out, decide_eq_false (p := y.imm.toInt < (fds.length : Int)) (by omega), Bool.and_false])
            have HI := Lib.hid (show stepO fds y = y by rw [HO.out, HN.out]; rfl)
            go_wp2_with fail
            go_roundw
            case rel =>
              refine ⟨k + 1, false, by omega, rfl, by go_num, Lib.hid (by rw [hok.out, HN.out, Bool.and_false]), ?_, y4⟩
              rw [hst.out, HI.out, ← hmk.out, List.set_getElem_self]; exact ho4
            case measure => simp [intOf]; omega
          · obtain ⟨q, hq⟩ : ∃ q : Nat, y.imm.toInt = (q : Int) := ⟨y.imm.toInt.toNat, by omega⟩
            obtain ⟨fb, fo, rfl, hcf⟩ := HF.out w4 xx4 q (by omega)
            have HKT := Lib.hid (show okB fds y = true by rw [HK.out, decide_eq_true (p := 0 ≤ y.imm.toInt) (by omega), decide_eq_true (p := y.imm.toInt < (fds.length : Int)) (by omega)]; rfl)
            rw [hq] at HB c4g hneg hge
            simp only [Int.toNat_natCast] at HB
            have HI := Lib.hid (show stepO fds y = { y with imm := fds.getD q 0 } by rw [HO.out, HKT.out]; exact HB.out)
            clear HB
            generalize fds.getD q 0 = z at *
            have hset := Lib.hid (show (insV (midM (stepO fds) l k)).set (k * 5 + 4) (.int .i32 z.toInt) = insV (midM (stepO fds) l (k + 1)) by
              rw [hst.out, HI.out]
              have h := insV_set (midM (stepO fds) l k) k (by rw [hml]; exact hlt) z
              rw [hmk.out] at h
              exact h)
            go_wp2_with fail
            go_roundw
            case rel =>
              have ho5 := (ho4.stored (k * 5 + 4) (.int .i32 z.toInt)).1
              rw [hset.out] at ho5
              exact ⟨k + 1, r, by omega, rfl, by go_num, Lib.hid (by rw [hok.out, HKT.out, Bool.and_true]; exact HRR.out), ho5, y4.setCell (.inl (by simp [Value.ownBlock])) _⟩
            case measure => simp [intOf]; omega
    · have hk' : k = l.length := by omega
      have e1 : midM (stepO fds) l k = l.map (stepO fds) := by rw [hk']; simp [midM]
      have e2 : l.take k = l := by rw [hk', List.take_length]
      rw [e1] at ho
      rw [e2] at HRR
      have hp := HP3.out
      unfold BackPost at hp
      cases hall : l.all (okB fds)
      · rw [hall] at hp HRR
        simp only [Bool.false_eq_true, if_false] at hp
        obtain ⟨hp, -⟩ := hp
        injection hp with hp
        injection hp with hp
        injection hp with hp
        injection hp with hp1 hp
        injection hp with hp2 hp
        injection hp2 with hp2 hp3
        subst hp1 hp3
        obtain rfl := HRR.out
        clear hk' e1 e2 hall
        go_wp2_with fail
        refine (slots_any wr).mono ?_
        rintro e w5 ⟨rfl, x5⟩
        go_wp2_with fail
        go_ret
        exact ⟨rfl, xx.trans x5⟩
      · rw [hall] at hp HRR
        simp only [if_true] at hp
        obtain ⟨v5, hp, hown5, -, fr5⟩ := hp
        injection hp with hp
        injection hp with hp
        injection hp with hp
        injection hp with hp1 hp
        injection hp with hp2 hp
        injection hp2 with hp2 hp3
        subst hp1 hp3
        obtain rfl := HRR.out
        have hmap : l.map (stepO fds) = l.map (stepB fds) := by
          apply List.map_congr_left
          intro z hz
          unfold stepO
          rw [List.all_eq_true.1 hall z hz, if_pos rfl]
        rw [hmap] at ho
        have HL := Lib.hid (show (l.map (stepB fds)).length = l.length by simp)
        generalize l.map (stepB fds) = outs at *
        have hown5 := owns_ext hown5 x (by intro g hg hm; have h1 := fr5 g hg; have h2 := hob g (by simpa using hm); omega)
        obtain ⟨a5, c5, rfl⟩ := owns_slice hown5
        clear hk' e1 e2 hall hmap
        go_wp2_with fail
        refine (slots_any wr).mono ?_
        rintro e w5 ⟨rfl, x5⟩
        have ho := owns_ext ho x5 (by simp)
        have hown5 := owns_ext hown5 x5 (by simp)
        go_wp2_with fail
        refine (same_any (.slice a5 l.length c5) (.slice oa l.length oc) outs outs w5 (by rw [HL.out]; exact owns_reads hown5) (by rw [HL.out]; exact owns_reads ho) (by rw [HL.out]; omega)).mono ?_
        rintro e w6 ⟨rfl, x6⟩
        rw [decide_eq_true (rfl : outs = outs)]
        go_wp2_with fail
        go_ret
        exact ⟨rfl, (xx.trans x5).trans x6⟩
end Go.Proofs.Ytkpckjkjlhaglaa
