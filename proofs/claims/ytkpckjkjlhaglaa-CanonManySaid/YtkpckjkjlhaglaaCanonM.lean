/- The law CanonMany: the walk. -/
import Derived.Test.YtkpckjkjlhaglaaCanonC
import Derived.Deep.CutBlock
namespace Go.Proofs.Ytkpckjkjlhaglaa
open Go.RowKit

theorem mod_nat' (a : Int) (m : Nat) (h0 : 0 < m) : ∃ k : Nat, (IntKind.u64.wrap a).tmod (m : Int) = (k : Int) ∧ k < m := by
  have h1 : 0 ≤ IntKind.u64.wrap a := wrap_u64_nonneg a
  obtain ⟨x, hx⟩ := Int.eq_ofNat_of_zero_le h1
  refine ⟨x % m, ?_, Nat.mod_lt _ h0⟩
  rw [hx, Int.tmod_eq_emod_of_nonneg (by omega), ← Int.natCast_emod]

def pairs (zs : List Nat) : List Ins := (zs.map fun z => [mapI (BitVec.ofNat 32 (10 * z)), nilI]).flatten
def outs (zs : List Nat) : List Ins := (zs.map fun z => [mapI (BitVec.ofNat 32 z), nilI]).flatten
def tens (k : Nat) : List (BitVec 32) := (List.range k).map fun i => BitVec.ofNat 32 (10 * i)

theorem pairs_append (a b : List Nat) : pairs (a ++ b) = pairs a ++ pairs b := by simp [pairs]
theorem outs_append (a b : List Nat) : outs (a ++ b) = outs a ++ outs b := by simp [outs]
theorem pairs_length : ∀ (zs : List Nat), (pairs zs).length = 2 * zs.length
  | [] => rfl
  | z :: r => by
    have e : pairs (z :: r) = [mapI (BitVec.ofNat 32 (10 * z)), nilI] ++ pairs r := by simp [pairs]
    rw [e, List.length_append, pairs_length r]; simp; omega
theorem first_fds : ∀ k : Fin 7, fdsOf (pairs (List.range k.val)) = tens k.val ∧ outOf (pairs (List.range k.val)) = outs (List.range k.val) := by decide +kernel
theorem step_map (k : Fin 7) (z : Fin 6) : z.val < k.val → stepF (tens k.val) (mapI (BitVec.ofNat 32 (10 * z.val))) = tens k.val ∧ stepI (tens k.val) (mapI (BitVec.ofNat 32 (10 * z.val))) = mapI (BitVec.ofNat 32 z.val) := by
  revert k z; decide +kernel
theorem step_nil (f : List (BitVec 32)) : stepF f nilI = f ∧ stepI f nilI = nilI := by
  have h : isMapI nilI = false := by decide +kernel
  unfold stepF stepI
  rw [h]; exact ⟨rfl, rfl⟩
theorem rest_fds (k : Nat) (hk : k < 7) : ∀ (zs : List Nat), (∀ z ∈ zs, z < k) → (pairs zs).foldl stepF (tens k) = tens k ∧ outFrom (tens k) (pairs zs) = outs zs
  | [], _ => ⟨rfl, rfl⟩
  | z :: r, h => by
    have hz := h z (by simp)
    have ih := rest_fds k hk r (fun y hy => h y (by simp [hy]))
    have e : pairs (z :: r) = mapI (BitVec.ofNat 32 (10 * z)) :: nilI :: pairs r := by simp [pairs]
    have e2 : outs (z :: r) = mapI (BitVec.ofNat 32 z) :: nilI :: outs r := by simp [outs]
    have s := step_map ⟨k, hk⟩ ⟨z, by omega⟩ hz
    simp only at s
    rw [e, e2]
    simp only [List.foldl_cons, outFrom, s.1, s.2, (step_nil (tens k)).1, (step_nil (tens k)).2, ih.1, ih.2]
    exact ⟨trivial, trivial⟩
theorem outFrom_append : ∀ (a b : List Ins) (f : List (BitVec 32)), outFrom f (a ++ b) = outFrom f a ++ outFrom (a.foldl stepF f) b
  | [], _, _ => rfl
  | x :: a, b, f => by simp [outFrom, outFrom_append a b]
theorem all_fds (k : Nat) (hk : k < 7) (zs : List Nat) (h : ∀ z ∈ zs, z < k) : fdsOf (pairs (List.range k ++ zs)) = tens k ∧ outOf (pairs (List.range k ++ zs)) = outs (List.range k ++ zs) := by
  have h1 := first_fds ⟨k, hk⟩
  have h2 := rest_fds k hk zs h
  simp only at h1
  unfold fdsOf outOf at *
  rw [pairs_append, List.foldl_append, outFrom_append, h1.1, h1.2, h2.1, h2.2, outs_append]
  exact ⟨rfl, rfl⟩

theorem two_cells (z : Nat) (hz : z < 6) : (#[Value.int IntKind.u8 24, Value.int IntKind.u8 0, Value.int IntKind.u8 1, Value.int IntKind.i16 0, Value.int IntKind.i32 (10 * (z : Int)), Value.int IntKind.u8 0, Value.int IntKind.u8 0, Value.int IntKind.u8 0, Value.int IntKind.i16 0, Value.int IntKind.i32 0] : Array Value).toList = insV (pairs [z]) := by
  have e : (BitVec.ofNat 32 (10 * z)).toInt = 10 * (z : Int) := by rw [ofNat_toInt _ (by omega)]; push_cast; rfl
  simp [pairs, insV, Ins.cells, mapI, nilI, e]

theorem flat_at (h : Nat → Ins) : ∀ (ds : List Nat) (t : Nat) (ht : t < ds.length), (insV ((ds.map fun z => [h z, nilI]).flatten))[2 * t * 5 + 4]? = some (.int .i32 (h ds[t]).imm.toInt)
  | [], _, h => by simp at h
  | z :: r, 0, _ => by simp [insV_cons, Ins.cells]
  | z :: r, t + 1, ht => by
    have e : insV ((List.map (fun z => [h z, nilI]) (z :: r)).flatten) = (insV [h z, nilI]) ++ insV ((r.map fun z => [h z, nilI]).flatten) := by rw [← insV_append]; simp
    rw [e, List.getElem?_append_right (by rw [insV_length]; simp; omega), insV_length, show 2 * (t + 1) * 5 + 4 - [h z, nilI].length * 5 = 2 * t * 5 + 4 by simp; omega, flat_at h r t (by simpa using ht)]
    simp
theorem tens_at (k z : Nat) (hk : k < 7) (hz : z < k) : (immV (tens k))[z]? = some (.int .i32 (10 * (z : Int))) := by
  have e : (BitVec.ofNat 32 (10 * z)).toInt = 10 * (z : Int) := by rw [ofNat_toInt _ (by omega)]; push_cast; rfl
  simp [immV, tens, hz, e]

set_option maxHeartbeats 4000000 in
set_option maxRecDepth 100000 in
theorem many_walk (a0 : Int) (a1 : Option Addr) (len1 cap1 : Nat) (z1 : List Int) (w : World) (r1 : IsRow .i64 w a1 len1 cap1 z1) :
    Calls Try.prog 3 #[.int .i64 a0, .slice a1 len1 cap1] w fun e w' => e = .returned (.bool true) ∧ Below w.heap.size w w' := by
  obtain ⟨i1, hi, hz0, hz1, hz2⟩ := info_parts info_insn
  obtain ⟨hl, hm, -, b, off, hA, hB, hC⟩ := r1.at
  unfold maxLen at hm
  obtain ⟨q, hq, hq6⟩ := mod_nat a0 6 (by omega) (by omega)
  have HK := Lib.hid hq
  clear hq
  have HA := Lib.hid hA
  have HC := Lib.hid hC
  clear hA hC r1
  go_enter Try.func3, Try.ntmps3
  go_upto_region 2 with (fail)
  rw [show wrap64 ((IntKind.u64.wrap a0).tmod 6) = (q : Int) from HK.out, IntWalk.wrap64_in (1 + (q : Int)) (by omega), show 1 + (q : Int) = ((1 + q : Nat) : Int) by omega]
  obtain ⟨k, hk⟩ : ∃ k, k = 1 + q := ⟨_, rfl⟩
  rw [← hk]
  have hk1 : 1 ≤ k := by omega
  have hk6 : k ≤ 6 := by omega
  clear hk HK hq6
  go_wp2_with fail
  go_loopw [6, 7] (fun v i wr => ∃ j : Nat, j ≤ k ∧ i = .int .i64 (j : Int) ∧ wr.ownsRow 0 27 5 v (2 * j) (insV (pairs (List.range j))) ∧ Ext [] w wr ∧ ∀ g, v.ownBlock = some g → w.heap.size ≤ g) (fun _ i _ => k - (intOf i).toNat)
  case atStart => exact ⟨0, by omega, rfl, by simpa [pairs, insV] using World.ownsRow_nil _ _ _ _, Ext.refl _ _, fun g h => by cases h⟩
  case round =>
    obtain ⟨j, hj, rfl, hown, x, fr⟩ := hrel
    obtain ⟨va, vc, rfl⟩ := owns_slice hown
    by_cases hlt : j < k
    · go_wp2_with (at_builtin; go_must (refine wpList_app _ rfl (.tmp 23) (.tmp 29) 24 rfl 27 i1 _ 5 12 Try.underlying24 hi hz0 hz1 hz2 rfl (by decide) (.slice va (2 * j) vc) _ _ rfl (owns_ext hown ((Ext.refl [] wr).alloc _) (by simp)) _ 2 _ rfl (blk_reads (Blk.new wr _ _) 2 rfl) (by intro u hu; simp at hu; rcases hu with rfl | rfl | rfl | rfl | rfl | rfl | rfl | rfl | rfl | rfl <;> rfl) (by unfold maxLen; omega) (by omega) ?_); intro v3 w3 hown3 hgrow3 hfr3 _)
      go_roundw
      case rel =>
        refine ⟨j + 1, by omega, by go_num, ?_, (x.alloc _).grown hgrow3 (by intro g hg; exact .inr (fr g hg)), rows_fresh (x.alloc _) fr hfr3⟩
        rw [two_cells j (by omega)] at hown3
        rw [List.range_succ, pairs_append, insV_append]
        exact hown3
      case measure => simp [intOf]; omega
    · have hjk : j = k := by omega
      go_wp2_with fail
      generalize Value.bool (decide ((j : Int) < (k : Int))) = q20
      generalize Value.int IntKind.i64 (j : Int) = q7
      rw [hjk] at hown fr ⊢
      clear hjk hlt hj
      go_loopw [6, 8] (fun v i wr => ∃ (i' : Nat) (zs : List Nat), i' ≤ len1 ∧ i' ≤ 20 ∧ i = .int .i64 (i' : Int) ∧ zs.length = i' ∧ Hid (∀ z ∈ zs, z < k) ∧ wr.ownsRow 0 27 5 v (2 * (k + i')) (insV (pairs (List.range k ++ zs))) ∧ Ext [] w wr ∧ ∀ g, v.ownBlock = some g → w.heap.size ≤ g) (fun _ i _ => 20 - (intOf i).toNat)
      case atStart => exact ⟨0, [], by omega, by omega, rfl, rfl, Lib.hid (by simp), by simpa using hown, x, fr⟩
      case round =>
        clear hown x fr
        obtain ⟨i2, zs, hi2, hi20, rfl, hzl, HZ, hown, x, fr⟩ := hrel
        have HZL := Lib.hid hzl
        clear hzl
        obtain ⟨va, vc, rfl⟩ := owns_slice hown
        by_cases hlt : i2 < len1 ∧ i2 < 20
        · obtain ⟨hlt, hl20⟩ := hlt
          obtain rfl := HA.out (by omega)
          have hcell : wr.cell? ⟨b, off + i2, none⟩ = some (.int .i64 (z1.getD i2 0)) := by
            rw [x.cell (p := ⟨b, off + i2, none⟩) (hB (by omega)) (by simp)]; exact HC.out i2 (by omega)
          obtain ⟨q2, hq2, hqk⟩ := mod_nat' (z1.getD i2 0) k (by omega)
          generalize z1.getD i2 0 = zz at *
          go_wp2_with (at_builtin; go_must (refine wpList_app _ rfl (.tmp 41) (.tmp 54) 24 rfl 27 i1 _ 5 12 Try.underlying24 hi hz0 hz1 hz2 rfl (by decide) (.slice va (2 * (k + i2)) vc) _ _ rfl (owns_ext hown ((Ext.refl [] wr).alloc _) (by simp)) _ 2 _ rfl (blk_reads (Blk.new wr _ _) 2 rfl) (by intro u hu; simp at hu; rcases hu with rfl | rfl | rfl | rfl | rfl | rfl | rfl | rfl | rfl | rfl <;> rfl) (by unfold maxLen; omega) (by omega) ?_); intro v3 w3 hown3 hgrow3 hfr3 _)
          go_roundw
          case rel =>
            refine ⟨i2 + 1, zs ++ [q2], by omega, by omega, by go_num, by rw [List.length_append, HZL.out]; rfl, Lib.hid ?_, ?_, (x.alloc _).grown hgrow3 (by intro g hg; exact .inr (fr g hg)), rows_fresh (x.alloc _) fr hfr3⟩
            · intro z hz
              rcases List.mem_append.1 hz with hz | hz
              · exact HZ.out z hz
              · simp at hz; omega
            · rw [two_cells q2 (by omega)] at hown3
              rw [← List.append_assoc, pairs_append, insV_append]
              exact hown3
          case measure => simp [intOf]; omega
        · have hplen : (pairs (List.range k ++ zs)).length = 2 * (k + i2) := by rw [pairs_length, List.length_append, List.length_range, HZL.out]
          have hfd := all_fds k (by omega) zs HZ.out
          have htl : (tens k).length = k := by simp [tens]
          have HS := Lib.hid (slots_go (.slice va (2 * (k + i2)) vc) (pairs (List.range k ++ zs)) wr (by rw [hplen]; exact owns_reads hown) (by omega))
          have HFD := Lib.hid hfd
          have HTL := Lib.hid htl
          have HPL := Lib.hid hplen
          clear hfd htl hplen
          by_cases hlt1 : i2 < len1
          all_goals
            go_wp2_with fail
            refine HS.out.mono ?_
            intro e w2 hp
            unfold SlotsPost at hp
            rw [HFD.out.1, HFD.out.2, HTL.out] at hp
            by_cases h4 : k ≤ 4
            · rw [if_pos h4, HPL.out] at hp
              obtain ⟨v5, v6, rfl, h5, h6, x2, -, -, -⟩ := hp
              obtain ⟨v5a, v5c, rfl⟩ := owns_slice h5
              obtain ⟨v6a, v6c, rfl⟩ := owns_slice h6
              go_wp2_with fail
              refine (slots_any w2).mono ?_
              rintro e w3 ⟨rfl, x3⟩
              go_wp2_with fail
              have hown3 := owns_ext hown (x2.trans x3) (by simp)
              have h53 := owns_ext h5 x3 (by simp)
              have h63 := owns_ext h6 x3 (by simp)
              have X := Lib.hid (x.trans (x2.trans x3))
              have HDL := Lib.hid (show (List.range k ++ zs).length = k + i2 by rw [List.length_append, List.length_range, HZL.out])
              have HDK := Lib.hid (show ∀ z ∈ (List.range k ++ zs), z < k by
                intro z hz
                rcases List.mem_append.1 hz with hz | hz
                · simpa using hz
                · exact HZ.out z hz)
              clear hown h5 h6 x x2 x3 HFD HTL HPL HZ HZL HS fr
              obtain ⟨ga, ca, cura, ea, -, hca, hcam, -, -⟩ := owns_some hown3 (by omega)
              cases ea
              obtain ⟨g5, c5, cur5, e5, -, hc5, hcm5, -, -⟩ := owns_some h53 (by omega)
              cases e5
              obtain ⟨g6, c6, cur6, e6, -, hc6, hcm6, -, -⟩ := owns_some h63 (by omega)
              cases e6
              clear cura cur5 cur6
              have la : ga < w3.heap.size := owns_lt hown3 rfl
              have l5 : g5 < w3.heap.size := owns_lt h53 rfl
              have l6 : g6 < w3.heap.size := owns_lt h63 rfl
              have HCELL := Lib.hid (show ∀ t, t < k + i2 → ∃ z : Nat, z < k ∧ w3.cell? ⟨g5, 2 * t * 5 + 4, none⟩ = some (.int .i32 (z : Int)) ∧ w3.cell? ⟨ga, 2 * t * 5 + 4, none⟩ = some (.int .i32 (10 * (z : Int))) ∧ w3.cell? ⟨g6, z, none⟩ = some (.int .i32 (10 * (z : Int))) by
                intro t ht
                have hzk := HDK.out _ (List.getElem_mem (show t < (List.range k ++ zs).length by rw [HDL.out]; exact ht))
                refine ⟨(List.range k ++ zs)[t]'(by rw [HDL.out]; exact ht), hzk, ?_, ?_, ?_⟩
                · rw [h53.cellAt (2 * t * 5 + 4) (by omega), outs, flat_at (fun z => mapI (BitVec.ofNat 32 z)) _ t (by rw [HDL.out]; exact ht)]
                  simp only [mapI]; rw [ofNat_toInt _ (by omega)]
                · rw [hown3.cellAt (2 * t * 5 + 4) (by omega), pairs, flat_at (fun z => mapI (BitVec.ofNat 32 (10 * z))) _ t (by rw [HDL.out]; exact ht)]
                  simp only [mapI]; rw [ofNat_toInt _ (by omega)]; push_cast; rfl
                · rw [h63.cellAt _ (by omega)]; exact tens_at k _ (by omega) hzk)
              clear hown3 h53 h63 HDL HDK
              try generalize Value.bool (decide ((i2 : Int) < 20)) = q37
              try generalize Value.bool (decide (4 < (k : Int))) = q63
              go_loopw [12] (fun i wr => ∃ t : Nat, t ≤ k + i2 ∧ i = .int .i64 ((2 * t : Nat) : Int) ∧ Ext [] w3 wr) (fun i _ => 2 * (k + i2) - (intOf i).toNat)
              case atStart => exact ⟨0, by omega, rfl, Ext.refl _ _⟩
              case round =>
                obtain ⟨t, ht, rfl, x5⟩ := hrel
                by_cases htl : t < k + i2
                · obtain ⟨z, hzk, d5, da, d6⟩ := HCELL.out t htl
                  rw [← x5.cell l5 (by simp)] at d5
                  rw [← x5.cell la (by simp)] at da
                  rw [← x5.cell l6 (by simp)] at d6
                  go_upto_region 19 with (fail)
                  go_quiet (fail)
                  go_wp2_with fail
                  go_roundw
                  case rel => exact ⟨t + 1, by omega, by go_num, x5.drewN _⟩
                  case measure => simp [intOf]; omega
                · go_wp2_with fail
                  go_ret
                  exact ⟨rfl, (X.out.trans x5).below (Nat.le_refl _) (by simp)⟩
            · rw [if_neg h4] at hp
              obtain ⟨rfl, x2⟩ := hp
              go_wp2_with fail
              refine (slots_any w2).mono ?_
              rintro e w3 ⟨rfl, x3⟩
              go_wp2_with fail
              go_ret
              exact ⟨rfl, (x.trans (x2.trans x3)).below (Nat.le_refl _) (by simp)⟩
end Go.Proofs.Ytkpckjkjlhaglaa
