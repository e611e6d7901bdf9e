/- The document's answer of digest: primes, Make: the walks. -/
import Derived.Test.YtgcbgeombbohpaaDoorRefC
import Derived.Test.YtgcbgeombbohpaaDoorRow
namespace Go.Proofs.YtgcbgeombbohpaaDoor
open Go.RowKit
set_option maxRecDepth 100000

theorem u64V_append (a b : List Nat) : u64V (a ++ b) = u64V a ++ u64V b := by simp [u64V]

set_option maxHeartbeats 4000000 in
set_option maxRecDepth 100000 in
theorem primes_any (w : World) :
    Calls Tryd.prog 28 #[.int .i64 64] w fun e w' => ∃ v, e = .returned v ∧ w'.ownsRow 0 32 1 v 64 (u64V pl) ∧ Ext [] w w' ∧ ∀ g, v.ownBlock = some g → w.heap.size ≤ g := by
  obtain ⟨i0, hi, hz0, hz1, hz2⟩ := info_parts info_u64
  go_enter Tryd.func28, Tryd.ntmps28
  go_wp2_with fail
  go_loopw [3, 4] (fun v p wr => ∃ t : Nat, t ≤ 310 ∧ p = .int .u64 ((t : Int) + 2) ∧ wr.ownsRow 0 32 1 v (primesTo t).length (u64V (primesTo t)) ∧ Ext [] w wr ∧ ∀ g, v.ownBlock = some g → w.heap.size ≤ g) (fun _ p _ => (312 - intOf p).toNat)
  case atStart => exact ⟨0, by omega, rfl, by simpa [u64V, primesTo] using World.ownsRow_nil _ _ _ _, Ext.refl _ _, fun g h => by cases h⟩
  case round =>
    obtain ⟨t, ht, rfl, hown, x, hfr⟩ := hrel
    obtain ⟨va, vc, rfl⟩ := owns_slice hown
    by_cases hlt : t < 310
    · have hlen := primes_all.2 ⟨t, hlt⟩
      simp only at hlen
      have hpo := Lib.hid (primesTo_pos t)
      have hst := Lib.hid (show primesTo (t + 1) = if (primesTo t).all (fun q => (t + 2) % q != 0) then primesTo t ++ [t + 2] else primesTo t from rfl)
      generalize primesTo t = ps at *
      go_wp2_with fail
      go_loopw [5, 6] (fun pr i wq => ∃ k : Nat, k ≤ ps.length ∧ i = .int .i64 k ∧ pr = .bool ((ps.take k).all (fun q => (t + 2) % q != 0)) ∧ wq.ownsRow 0 32 1 (.slice va ps.length vc) ps.length (u64V ps) ∧ Ext [] w wq) (fun _ i _ => ps.length - (intOf i).toNat)
      case atStart => exact ⟨0, by omega, rfl, rfl, hown, x⟩
      case round =>
        clear hown x
        obtain ⟨k, hk, rfl, rfl, hown, x⟩ := hrel
        by_cases hlt2 : k < ps.length
        · have hall : (ps.take (k + 1)).all (fun q => (t + 2) % q != 0) = ((ps.take k).all (fun q => (t + 2) % q != 0) && (t + 2) % (ps.getD k 0) != 0) := by
            rw [List.take_succ_eq_append_getElem hlt2, List.all_append]; simp [List.getD, hlt2]
          have HALL := Lib.hid hall
          have hq2 : 2 ≤ ps.getD k 0 := by
            have : ps.getD k 0 = ps[k] := by simp [List.getD, hlt2]
            rw [this]; exact hpo.out _ (List.getElem_mem _)
          obtain ⟨g, cap', cur, he, hblk, -, -, -, -⟩ := owns_some hown (by omega)
          cases he
          have hcell := (hown.cellAt k (by omega)).trans (u64V_at ps k hlt2)
          clear hall hblk
          generalize ps.getD k 0 = q at *
          generalize (ps.take k).all (fun q => (t + 2) % q != 0) = bb at *
          have hq0 : ((q : Nat) : Int) ≠ 0 := by omega
          by_cases hm : (t + 2) % q = 0
          · have hmz : (((t : Int) + 2) % (q : Int) == 0) = true := by rw [beq_iff_eq]; exact_mod_cast hm
            have hv : ((t + 2) % q != 0) = false := by rw [bne_eq_false_iff_eq]; exact hm
            have HV := Lib.hid hv
            clear hv hm
            go_wp2_with fail
            go_roundw
            case rel => exact ⟨k + 1, by omega, by go_num, by rw [HALL.out, HV.out, Bool.and_false], hown, x⟩
            case measure => simp [intOf]; omega
          · have hmz : (((t : Int) + 2) % (q : Int) == 0) = false := by rw [beq_eq_false_iff_ne]; intro h; exact hm (by exact_mod_cast h)
            have hv : ((t + 2) % q != 0) = true := by rw [bne_iff_ne]; exact hm
            have HV := Lib.hid hv
            clear hv hm
            go_wp2_with fail
            go_roundw
            case rel => exact ⟨k + 1, by omega, by go_num, by rw [HALL.out, HV.out, Bool.and_true], hown, x⟩
            case measure => simp [intOf]; omega
        · have hk' : k = ps.length := by omega
          rw [hk', List.take_length]
          clear hk'
          generalize ps.all (fun q => (t + 2) % q != 0) = bb at *
          cases bb
          · go_wp2_with fail
            go_roundw
            case rel => exact ⟨t + 1, by omega, by go_num, by rw [hst.out, if_neg (by decide)]; exact hown, x, hfr⟩
            case measure => simp [intOf]; omega
          · go_wp2_with (at_builtin; go_must (refine wpList_app _ rfl (.tmp 27) (.tmp 29) 67 rfl 32 i0 (.int .u64 0) 1 8 Tryd.underlying67 hi hz0 hz1 hz2 rfl (by decide) (.slice va ps.length vc) _ _ rfl (owns_ext hown ((Ext.refl [] wr).alloc (.cells #[.int .u64 ((t : Int) + 2)] 32)) (by simp)) (.slice (some ⟨wr.heap.size, 0, none⟩) 1 1) 1 [.int .u64 ((t : Int) + 2)] rfl (blk_reads (Blk.new wr 32 #[.int .u64 ((t : Int) + 2)]) 1 rfl) (by intro u hu; simp at hu; subst hu; rfl) (by unfold maxLen; omega) (by omega) ?_); intro v7 w7 hown7 hgrow7 hfr7 _)
            go_roundw
            case rel =>
              refine ⟨t + 1, by omega, by go_num, ?_, (x.alloc _).grown hgrow7 (by intro g hg; exact .inr (hfr g hg)), ?_⟩
              · rw [hst.out, if_pos rfl, List.length_append, u64V_append]; exact hown7
              · intro g hg
                have := x.size
                rcases hfr7 with h | ⟨g', h, hle'⟩
                · exact hfr g (h ▸ hg)
                · rw [h] at hg; obtain rfl := Option.some.inj hg; simp at hle'; omega
            case measure => simp [intOf]; omega
    · have hx : t = 310 := by omega
      have hps : primesTo t = pl := by rw [hx]; exact primes_pl
      have hl : pl.length = 64 := rfl
      rw [hps] at hown hfr ⊢
      rw [hl] at hown hfr ⊢
      clear hps hl hx
      go_wp2_with fail
      go_ret
      exact ⟨_, rfl, hown, x, hfr⟩

/-- The tables behind i roots. -/
def mkTo : Nat → List (BitVec 32)
  | 0 => List.replicate 72 0#32
  | i + 1 => if i < 8 then ((mkTo i).set i (Ks.getD i 0#32)).set (64 + i) (begin0.list.getD i 0#32) else (mkTo i).set i (Ks.getD i 0#32)

theorem mkTo_length : ∀ i, (mkTo i).length = 72
  | 0 => by simp [mkTo]
  | i + 1 => by unfold mkTo; split <;> simp [mkTo_length i]
theorem mkTo_all : mkTo 64 = Ks ++ begin0.list := by decide +kernel
theorem V32_at (l : List (BitVec 32)) (i : Nat) (h : i < l.length) : (V32 l)[i]? = some (.int .u32 ((l.getD i 0#32).toNat : Int)) := by simp [V32, List.getD, h]

theorem run_zeroOf {P : Program} {t : TypeId} {z : Value} (h : (P.info? t).map (·.zero) = some (some z)) (w : World) : (zeroValue t).run P w = .ok z w := by
  cases hq : P.info? t with
  | none => simp [hq] at h
  | some i =>
    have hz : i.zero = some z := by simpa [hq] using h
    simp [zeroValue, typeInfo, Sem.run_bind, hq, hz, Result.andThen]

theorem zero_roots (w : World) : (zeroValue 47).run Tryd.prog w = .ok (.agg (V32 (List.replicate 72 0#32)).toArray) w := run_zeroOf (by kernel_rfl) w

set_option maxHeartbeats 4000000 in
set_option maxRecDepth 100000 in
theorem make_ref (w : World) :
    Calls Tryd.prog 17 #[] w fun e w' => e = .returned (.agg (V32 (Ks ++ begin0.list)).toArray) ∧ Ext [] w w' := by
  have hzero := zero_roots
  go_enter Tryd.func17, Tryd.ntmps17
  go_upto_region 1 with (fail)
  show Code.wp _ _ _ _ (w.alloc (.cells (V32 (List.replicate 72 0#32)).toArray 47))
  have B0 := Blk.new w 47 (V32 (List.replicate 72 0#32)).toArray
  have x0 : Ext [] w (w.alloc (.cells (V32 (List.replicate 72 0#32)).toArray 47)) := (Ext.refl _ _).alloc _
  generalize w.alloc (.cells (V32 (List.replicate 72 0#32)).toArray 47) = w1 at *
  go_wp2_with fail
  refine (primes_any w1).mono ?_
  rintro e w2 ⟨v, rfl, hown, x2, -⟩
  have B02 := B0.ext x2 (by simp)
  have xx := x0.trans x2
  obtain ⟨g, cap', cur, rfl, -, -, -, -, -⟩ := owns_some hown (by omega)
  go_upto_region 3 with (fail)
  show Code.wp _ _ _ _ (w2.alloc (.cells (V32 (List.replicate 72 0#32)).toArray 47))
  have BR := Blk.new w2 47 (V32 (List.replicate 72 0#32)).toArray
  have x3 : Ext [] w2 (w2.alloc (.cells (V32 (List.replicate 72 0#32)).toArray 47)) := (Ext.refl _ _).alloc _
  have hown3 := owns_ext hown x3 (by simp)
  have B03 := B02.ext x3 (by simp)
  have xx3 := xx.trans x3
  have hs2 := xx.size
  have hlt0 := B02.lt
  have hltg := owns_lt hown rfl
  clear hown B0 x0 B02 x2 xx x3
  generalize w2.alloc (.cells (V32 (List.replicate 72 0#32)).toArray 47) = w3 at *
  obtain ⟨br, hbr⟩ : ∃ br, br = w2.heap.size := ⟨_, rfl⟩
  rw [← hbr] at BR hs2 hlt0 hltg ⊢
  clear hbr
  clear hzero
  go_wp2_with fail
  go_loopw [3] (fun i wr => ∃ m : Nat, m ≤ 64 ∧ i = .int .i64 m ∧ Blk wr br 47 (V32 (mkTo m)) ∧ Blk wr w.heap.size 47 (V32 (List.replicate 72 0#32)) ∧ wr.ownsRow 0 32 1 (.slice (some ⟨g, 0, none⟩) 64 cap') 64 (u64V pl) ∧ Ext [] w wr) (fun i _ => 64 - (intOf i).toNat)
  case atStart => exact ⟨0, by omega, rfl, BR, B03, hown3, xx3⟩
  case round =>
    clear BR B03 hown3 xx3
    obtain ⟨m, hm, rfl, BR, B0, hown, x⟩ := hrel
    by_cases hlt : m < 64
    · have hst := Lib.hid (show mkTo (m + 1) = if m < 8 then ((mkTo m).set m (Ks.getD m 0#32)).set (64 + m) (begin0.list.getD m 0#32) else (mkTo m).set m (Ks.getD m 0#32) from rfl)
      have hml := mkTo_length m
      have hk := roots_k m hlt
      have hkr := Lib.hid (fun wq => root_any (pl.getD m 0) 3 wq (.inr rfl))
      rw [hk] at hkr
      have hcell := (hown.cellAt m (by omega)).trans (u64V_at pl m (by show m < 64; exact hlt))
      have hblt := BR.lt
      by_cases h8 : m < 8
      · have hh := roots_h ⟨m, h8⟩
        have hhr := Lib.hid (fun wq => root_any (pl.getD m 0) 2 wq (.inl rfl))
        simp only at hh
        rw [hh] at hhr
        have HST := Lib.hid (hst.out.trans (if_pos h8))
        clear hk hh hst
        generalize pl.getD m 0 = p at *
        generalize mkTo m = L at *
        generalize Ks.getD m 0#32 = kv at *
        generalize begin0.list.getD m 0#32 = hv at *
        go_wp2_with fail
        refine (hkr.out wr).mono ?_
        rintro e w4 ⟨rfl, x4⟩
        have BR4 := BR.ext x4 (by simp)
        have c4 := (BR4.cell m).trans (V32_at L m (by omega))
        have f4 := BR4.frozen m
        have hown4 := owns_ext hown x4 (by simp)
        have hcell4 : w4.cell? ⟨g, m, none⟩ = some (.int .u64 (p : Int)) := (x4.cell (p := ⟨g, m, none⟩) (by have := owns_lt hown rfl; exact this) (by simp)).trans hcell
        have B04 := B0.ext x4 (by simp)
        have xx4 := x.trans x4
        clear BR hown B0 x x4 hcell
        generalize L.getD m 0#32 = old at *
        go_wp2_with fail
        have y4 : Ext [br] w4 (w4.setCell ⟨br, m, none⟩ (.int .u32 (kv.toNat : Int))) := (Ext.refl _ _).setCell (.inl (by simp)) _
        have BR5 := BR4.set m (.int .u32 (kv.toNat : Int))
        rw [V32_set] at BR5
        have hown5 := owns_ext hown4 y4 (by simp [Value.ownBlock]; omega)
        have B05 := B04.ext y4 (by simp; omega)
        have xx5 := xx4.trans' y4 (by simp; omega)
        generalize w4.setCell ⟨br, m, none⟩ (.int .u32 (kv.toNat : Int)) = w5 at *
        refine (hhr.out w5).mono ?_
        rintro e w6 ⟨rfl, x6⟩
        have BR6 := BR5.ext x6 (by simp)
        have c6 := (BR6.cell (64 + m)).trans (V32_at (L.set m kv) (64 + m) (by simp; omega))
        have f6 := BR6.frozen (64 + m)
        have hown6 := owns_ext hown5 x6 (by simp)
        have B06 := B05.ext x6 (by simp)
        have xx6 := xx5.trans x6
        have hblt6 := BR6.lt
        clear c4 f4 hcell4 B04 hown4 BR4 xx4 y4 BR5 hown5 B05 xx5 x6
        generalize (L.set m kv).getD (64 + m) 0#32 = old2 at *
        go_wp2_with fail
        go_roundw
        case rel =>
          refine ⟨m + 1, by omega, by go_num, ?_, B06.setOther (by simp; omega) _, owns_ext hown6 ((Ext.refl [br] w6).setCell (.inl (by simp)) _) (by simp [Value.ownBlock]; omega), xx6.setCell (.inr (by simp; omega)) _⟩
          rw [HST.out, ← V32_set]
          exact BR6.set (64 + m) _
        case measure => simp [intOf]; omega
      · have HST := Lib.hid (hst.out.trans (if_neg h8))
        clear hk hst
        generalize pl.getD m 0 = p at *
        generalize mkTo m = L at *
        generalize Ks.getD m 0#32 = kv at *
        go_wp2_with fail
        refine (hkr.out wr).mono ?_
        rintro e w4 ⟨rfl, x4⟩
        have BR4 := BR.ext x4 (by simp)
        have c4 := (BR4.cell m).trans (V32_at L m (by omega))
        have f4 := BR4.frozen m
        have hown4 := owns_ext hown x4 (by simp)
        have B04 := B0.ext x4 (by simp)
        have xx4 := x.trans x4
        clear BR hown B0 x x4 hcell
        generalize L.getD m 0#32 = old at *
        go_wp2_with fail
        go_roundw
        case rel =>
          refine ⟨m + 1, by omega, by go_num, ?_, B04.setOther (by simp; omega) _, owns_ext hown4 ((Ext.refl [br] w4).setCell (.inl (by simp)) _) (by simp [Value.ownBlock]; omega), xx4.setCell (.inr (by simp; omega)) _⟩
          rw [HST.out, ← V32_set]
          exact BR4.set m _
        case measure => simp [intOf]; omega
    · have hm' : m = 64 := by omega
      rw [hm', mkTo_all] at BR
      have hl72 : (V32 (Ks ++ begin0.list)).length = 72 := rfl
      have ho1 := oneCell_map (fun x : BitVec 32 => Value.int .u32 (x.toNat : Int)) (fun _ => rfl) (Ks ++ begin0.list)
      have hl72' : (V32 (List.replicate 72 0#32)).length = 72 := rfl
      clear hm'
      generalize V32 (List.replicate 72 0#32) = z72 at *
      go_upto_region 9 with (fail)
      apply wp_region_lit
      refine wpList_ldpart rfl 47 (.tmp 2) rfl br 0 rfl (V32 (Ks ++ begin0.list)) _ BR.part Tryd.underlying47 rfl (by rw [hl72]; kernel_rfl) ?_
      refine wpList_strow rfl 47 (.tmp 0) (.tmp 27) rfl w.heap.size 0 rfl 47 _ (V32 (Ks ++ begin0.list)) rfl B0 (by rw [hl72, hl72']; omega) ho1 (by rw [hl72]; kernel_rfl) ?_
      intro w9 H9 x9 _
      rw [hl72, List.take_zero, List.nil_append, List.drop_of_length_le (by omega), List.append_nil] at H9
      go_wp2_with fail
      refine bodyPost_ret (results_blk Tryd.results17 _ _ w.heap.size 47 (V32 (Ks ++ begin0.list)) _ rfl H9 Tryd.underlying47 rfl (by rw [hl72]; kernel_rfl)) rfl ?_
      exact ⟨rfl, x.trans' x9 (by simp)⟩
end Go.Proofs.YtgcbgeombbohpaaDoor
