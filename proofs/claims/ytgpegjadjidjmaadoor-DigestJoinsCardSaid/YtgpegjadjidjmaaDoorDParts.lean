/- DigestParts: the walk. -/
import Derived.Test.YtgpegjadjidjmaaDoorEqB
namespace Go.Proofs.YtgpegjadjidjmaaDoor
open Go.RowKit

def cutOf (m : Nat) : Value → Value
  | .slice a n c => .slice a (min n m) c
  | v => v

theorem BytesArg.cut {w : World} {v : Value} {b : List UInt8} (h : BytesArg w v b) (m : Nat) : Reads w (cutOf m v) 1 (b.take m).length (bytesV (b.take m)) := by
  obtain ⟨ao, c, rfl, hc, hm, ao', c', he, hl, hn, hr⟩ := h
  cases he
  refine ⟨ao, c, by simp [cutOf, Nat.min_comm], by simp [bytesV], fun e => ?_, fun ad e j u hu => hr ad e j u ?_⟩
  · have := hn e
    simp only [List.length_take]
    exact ⟨by omega, this.2⟩
  · unfold bytesV at hu ⊢
    rw [List.map_take, List.getElem?_take] at hu
    split at hu
    · exact hu
    · cases hu

/-- Appending to one row leaves another one, and the two stay apart. -/
theorem app_keep {w w' : World} {T : TypeId} {size n : Nat} {xs : List Value} {v v' other : Value} (ho : w.ownsRow 0 T size other n xs) (hg : w.grownBy w' v.ownBlock)
    (hf : v'.ownBlock = v.ownBlock ∨ ∃ g, v'.ownBlock = some g ∧ w.heap.size ≤ g) (hne : ∀ g, v.ownBlock = some g → other.ownBlock ≠ some g) :
    w'.ownsRow 0 T size other n xs ∧ ∀ g, v'.ownBlock = some g → other.ownBlock ≠ some g := by
  refine ⟨owns_ext ho ((Ext.refl v.ownBlock.toList w).grown hg (by intro k hk; left; simp [hk])) (by intro k hk; simp; intro h; exact hne k h hk), ?_⟩
  intro g hg' ho'
  rcases hf with h | ⟨g', h, hle⟩
  · exact hne g (h ▸ hg') ho'
  · rw [h] at hg'
    obtain rfl := Option.some.inj hg'
    have := owns_lt ho ho'
    omega

theorem app_fresh {w w1 : World} {v v' : Value} (x : Ext [] w w1) (hfr : ∀ g, v.ownBlock = some g → w.heap.size ≤ g) (h : v'.ownBlock = v.ownBlock ∨ ∃ g, v'.ownBlock = some g ∧ w1.heap.size ≤ g) :
    ∀ g, v'.ownBlock = some g → w.heap.size ≤ g := by
  intro g hg'
  have := x.size
  rcases h with h | ⟨g', h, hle⟩
  · exact hfr g (h ▸ hg')
  · rw [h] at hg'; obtain rfl := Option.some.inj hg'; omega

theorem info_bytes : (Tryd.prog.info? 22).map (fun i => (i.zero, i.size, i.bytes)) = some (some (.slice none 0 0), 1, 24) := by kernel_rfl

/-- The first parts, cut. -/
def cutsOf (n m : Nat) (bs : List (List UInt8)) : List (List UInt8) := (bs.take n).map (List.take m)

set_option maxHeartbeats 4000000 in
set_option maxRecDepth 100000 in
theorem parts_walk (v : Value) (bs : List (List UInt8)) (w : World) (G : DigG w) (hp : PartsArg w v bs) :
    Calls Tryd.prog 6 #[v] w fun e w' => e = .returned (.bool true) ∧ Ext [] w w' := by
  obtain ⟨i0, hi, hz0, hz1, hz2⟩ := info_parts info_byte
  obtain ⟨i1, hj, hy0, hy1, hy2⟩ := info_parts info_bytes
  have HG := Lib.hid (fun w' (x' : Ext [] w w') => G.ext x' (by simp) (by simp))
  obtain ⟨ao, c, vs, rfl, hmax, hvl, hrd, heach⟩ := hp
  have hnone : ao = none → bs.length = 0 := by
    obtain ⟨ao', c', he, -, hn, -⟩ := hrd
    injection he with h1 _ _
    subst h1
    intro h; have := (hn h).1; omega
  have HRD := Lib.hid (fun w' (x : Ext [] w w') => hrd.ext x)
  have HE := Lib.hid (fun i u (hu : vs[i]? = some u) w' (x : Ext [] w w') => (heach i u hu).ext x)
  have HN := Lib.hid hnone
  have HV := Lib.hid hvl
  clear G hrd heach hnone hvl
  unfold maxLen at hmax
  go_enter Tryd.func6, Tryd.ntmps6
  go_wp2_with fail
  go_loopw [3, 4, 5] (fun l all i wr => ∃ j : Nat, j ≤ bs.length ∧ j ≤ 5 ∧ i = .int .i64 j ∧ wr.ownsRow 0 22 1 l j ((vs.take j).map (cutOf 50)) ∧ wr.ownsRow 0 5 1 all (joinB (cutsOf j 50 bs)).length (bytesV (joinB (cutsOf j 50 bs))) ∧ Ext [] w wr ∧ (joinB (cutsOf j 50 bs)).length ≤ 58 * j ∧ (∀ g, l.ownBlock = some g → w.heap.size ≤ g) ∧ (∀ g, all.ownBlock = some g → w.heap.size ≤ g) ∧ ∀ g, l.ownBlock = some g → all.ownBlock ≠ some g) (fun _ _ i _ => 5 - (intOf i).toNat)
  case atStart => exact ⟨0, by omega, by omega, rfl, by simpa using World.ownsRow_nil _ _ _ _, by simpa [bytesV, joinB, cutsOf] using World.ownsRow_nil _ _ _ _, Ext.refl _ _, by simp [cutsOf, joinB], (fun g h => by cases h), (fun g h => by cases h), (fun g h => by cases h)⟩
  case round =>
    obtain ⟨j, hj1, hj5, rfl, hol, hoa, x, hle, hfl, hfa, hne⟩ := hrel
    obtain ⟨la, lc, rfl⟩ := owns_slice hol
    obtain ⟨aa, ac, rfl⟩ := owns_slice hoa
    have hlen : ((vs.take j).map (cutOf 50)).length = j := by
      rw [List.length_map, List.length_take, HV.out]; omega
    have hlen2 : (cutsOf j 50 bs).length = j := by
      unfold cutsOf
      rw [List.length_map, List.length_take]; omega
    have HJ := Lib.hid (fun w' (x' : Ext [] w w') (xx : Ext [] wr w') => joined_any (.slice la j lc) ((vs.take j).map (cutOf 50)) (cutsOf j 50 bs) w' (HG.out w' x')
      ⟨by rw [hlen]; exact owns_reads (owns_ext hol xx (by simp)), by rw [hlen, hlen2], fun i u hu => by
        have hij : i < j := by have := (List.getElem?_eq_some_iff.1 hu).1; rw [hlen] at this; exact this
        have hiv : i < vs.length := by rw [HV.out]; omega
        have hib : i < bs.length := by omega
        simp [hij, hiv] at hu
        subst hu
        have := (HE.out i _ (List.getElem?_eq_getElem hiv) w' x').cut 50
        have e : (cutsOf j 50 bs).getD i [] = (bs.getD i []).take 50 := by
          unfold cutsOf
          simp [List.getD, hij, hib]
        rw [e]
        exact this⟩ (by omega) (by omega))
    have HSS := Lib.hid (fun w' (x' : Ext [] w w') (xx : Ext [] wr w') => sum_any (.slice aa (joinB (cutsOf j 50 bs)).length ac) (joinB (cutsOf j 50 bs)) w' (HG.out w' x') (owns_reads (owns_ext hoa xx (by simp))) (by omega))
    clear hlen hlen2
    by_cases hlt : j < bs.length
    · by_cases h5 : j < 5
      · obtain ⟨ad, rfl⟩ : ∃ ad, ao = some ad := by
          cases ao with
          | none => have := HN.out rfl; omega
          | some ad => exact ⟨ad, rfl⟩
        have hkv : j < vs.length := by rw [HV.out]; exact hlt
        obtain ⟨u, hu⟩ : ∃ u, vs[j]? = some u := ⟨_, List.getElem?_eq_getElem hkv⟩
        have hcu : wr.cell? (ad.add j) = some u := by
          obtain ⟨ao', c', he, -, -, hc⟩ := HRD.out wr x
          injection he with h1 _ _
          subst h1
          exact hc ad rfl j u hu
        have hst := Lib.hid (show cutsOf (j + 1) 50 bs = cutsOf j 50 bs ++ [(bs.getD j []).take 50] by
          unfold cutsOf
          rw [List.take_succ_eq_append_getElem hlt, List.map_append]
          congr 1
          simp [List.getD, hlt])
        have hsv := Lib.hid (show (vs.take (j + 1)).map (cutOf 50) = (vs.take j).map (cutOf 50) ++ [cutOf 50 u] by
          rw [List.take_succ_eq_append_getElem hkv]
          rw [List.getElem?_eq_getElem hkv] at hu
          simp [Option.some.inj hu])
        have hee := HE.out j u hu
        obtain ⟨bj, hbj⟩ : ∃ bj, bj = bs.getD j [] := ⟨_, rfl⟩
        rw [← hbj] at hee hst
        have HU := Lib.hid (fun w' (x : Ext [] w w') => (hee w' x).cut 50)
        obtain ⟨ua, uc, hue, huc, hum, -⟩ := hee wr x
        subst hue
        unfold maxLen at hum
        clear hee hbj hu
        have hcu2 : wr.drew.cell? (ad.add j) = some (.slice ua bj.length uc) := hcu
        go_upto_region 6 with (fail)
        go_region
        have hif : (if 50 < (bj.length : Int) then 50 else (bj.length : Int)) = ((min bj.length 50 : Nat) : Int) := by split <;> omega
        rw [hif]
        simp only [Int.toNat_natCast]
        have hol3 := owns_ext hol (((Ext.refl [] wr)).drew) (by simp)
        have hoa3 := owns_ext hoa (((Ext.refl [] wr)).drew) (by simp)
        have x3 := x.drew
        obtain ⟨q, hq⟩ : ∃ q, q = bj.take 50 := ⟨_, rfl⟩
        have hql : min bj.length 50 = q.length := by rw [hq, List.length_take, Nat.min_comm]
        rw [← hq] at hst HU
        rw [show cutOf 50 (.slice ua bj.length uc) = .slice ua q.length uc by rw [← hql]; rfl] at hsv HU
        rw [hql]
        have hq50 : q.length ≤ 50 := by omega
        clear hif hq hql hcu hcu2 hol hoa x huc hum
        generalize wr.drew = w3 at *
        have y0 := (Ext.refl [] w3).alloc (.cells #[.slice ua q.length uc] 22)
        have hla := (Nat.le_refl w3.heap.size)
        go_upto_region 8 with (at_builtin; go_must (refine wpList_app _ rfl (.tmp 28) (.tmp 30) 31 rfl 22 i1 (.slice none 0 0) 1 24 Tryd.underlying31 hj hy0 hy1 hy2 rfl (by decide) (.slice la j lc) _ _ rfl (owns_ext hol3 y0 (by simp)) (.slice (some ⟨w3.heap.size, 0, none⟩) 1 1) 1 [.slice ua q.length uc] rfl (blk_reads (Blk.new w3 22 #[.slice ua q.length uc]) 1 rfl) (by intro u hu; simp at hu; subst hu; rfl) (by unfold maxLen; omega) (by omega) ?_); intro v4 w4 hown4 hgrow4 hfr4 _)
        have x4 : Ext [] w w4 := (x3.trans y0).grown hgrow4 (by intro g hg; exact .inr (hfl g hg))
        have fr4 := app_fresh (x3.trans y0) hfl hfr4
        obtain ⟨hoa4, hne4⟩ := app_keep (owns_ext hoa3 y0 (by simp)) hgrow4 hfr4 hne
        rw [← hsv.out] at hown4
        clear hgrow4 hfr4 hol3 hoa3 hfl hne hla y0 x3
        have y4 := (Ext.refl [] w4).alloc (.cells #[.int .u8 0, .int .u8 0, .int .u8 0, .int .u8 0, .int .u8 0, .int .u8 0, .int .u8 0, .int .u8 (q.length : Int)] 5)
        go_upto_region 9 with (at_builtin; go_must (refine wpList_app _ rfl (.tmp 32) (.tmp 36) 22 rfl 5 i0 (.int .u8 0) 1 1 Tryd.underlying22 hi hz0 hz1 hz2 rfl (by decide) (.slice aa _ ac) _ _ rfl (owns_ext hoa4 y4 (by simp)) (.slice (some ⟨w4.heap.size, 0, none⟩) 8 8) 8 [.int .u8 0, .int .u8 0, .int .u8 0, .int .u8 0, .int .u8 0, .int .u8 0, .int .u8 0, .int .u8 (q.length : Int)] rfl (blk_reads (Blk.new w4 5 #[.int .u8 0, .int .u8 0, .int .u8 0, .int .u8 0, .int .u8 0, .int .u8 0, .int .u8 0, .int .u8 (q.length : Int)]) 8 rfl) (by intro u hu; simp at hu; rcases hu with rfl | rfl <;> rfl) (by unfold maxLen; omega) (by omega) ?_); intro v5 w5 hown5 hgrow5 hfr5 _)
        have x5 : Ext [] w w5 := (x4.trans y4).grown hgrow5 (by intro g hg; exact .inr (hfa g hg))
        have fr5 := app_fresh (x4.trans y4) hfa hfr5
        obtain ⟨hol5, hne5⟩ := app_keep (owns_ext hown4 y4 (by simp)) hgrow5 hfr5 (fun g h1 h2 => hne4 g h2 h1)
        have e8 : [Value.int .u8 0, .int .u8 0, .int .u8 0, .int .u8 0, .int .u8 0, .int .u8 0, .int .u8 0, .int .u8 (q.length : Int)] = bytesV (be8 q.length) := by
          rw [be8_small _ (by omega)]
          unfold bytesV
          simp only [List.map_cons, List.map_nil, byte_val]
          rw [show (q.length : Int) % 256 = q.length by omega]
          rfl
        rw [e8, ← bytesV_append] at hown5
        have hru := HU.out w5 x5
        clear hgrow5 hfr5 hown4 hoa4 hfa hne4 y4 x4 e8
        obtain ⟨la4, lc4, rfl⟩ := owns_slice hol5
        go_wp2_with (at_builtin; go_must (refine wpList_app _ rfl (.tmp 38) (.tmp 39) 22 rfl 5 i0 (.int .u8 0) 1 1 Tryd.underlying22 hi hz0 hz1 hz2 rfl (by decide) v5 _ _ rfl hown5 (.slice ua q.length uc) q.length _ rfl hru (bytesV_one _) (by unfold maxLen; omega) (by omega) ?_); intro v6 w6 hown6 hgrow6 hfr6 _)
        have x6 : Ext [] w w6 := x5.grown hgrow6 (by intro g hg; exact .inr (fr5 g hg))
        have fr6 := app_fresh x5 fr5 hfr6
        obtain ⟨hol6, hne6⟩ := app_keep hol5 hgrow6 hfr6 (fun g h1 h2 => hne5 g h1 h2)
        rw [← bytesV_append] at hown6
        have ejb : joinB (cutsOf (j + 1) 50 bs) = joinB (cutsOf j 50 bs) ++ be8 q.length ++ q := by rw [hst.out, joinB_snoc]
        go_roundw
        case rel =>
          refine ⟨j + 1, by omega, by omega, by go_num, hol6, ?_, x6, ?_, fr4, fr6, fun g h1 h2 => hne6 g h2 h1⟩
          · rw [ejb, List.length_append, List.length_append, be8_length]; exact hown6
          · rw [ejb, List.length_append, List.length_append, be8_length]; omega
        case measure => simp [intOf]; omega
      · go_wp2_with fail
        refine (sums_any wr (HG.out wr x)).mono ?_
        rintro e w7 ⟨rfl, x7⟩
        go_wp2_with fail
        refine (HJ.out w7 (x.trans x7) x7).mono ?_
        rintro e w8 ⟨rfl, x8⟩
        go_wp2_with fail
        refine (HSS.out w8 ((x.trans x7).trans x8) (x7.trans x8)).mono ?_
        rintro e w9 ⟨rfl, x9⟩
        have heq := run_equal_bytes (P := Tryd.prog) 9998 Tryd.underlying23 Tryd.underlying5 (by kernel_rfl) (by kernel_rfl) (sumOf (joinB (cutsOf j 50 bs))) (sumOf (joinB (cutsOf j 50 bs))) (sumOf_length _) (sumOf_length _)
        simp only [decide_true] at heq
        generalize (bytesV (sumOf (joinB (cutsOf j 50 bs)))).toArray = arr at *
        go_wp2_with fail
        go_ret
        exact ⟨rfl, ((x.trans x7).trans x8).trans x9⟩
    · go_wp2_with fail
      refine (sums_any wr (HG.out wr x)).mono ?_
      rintro e w7 ⟨rfl, x7⟩
      go_wp2_with fail
      refine (HJ.out w7 (x.trans x7) x7).mono ?_
      rintro e w8 ⟨rfl, x8⟩
      go_wp2_with fail
      refine (HSS.out w8 ((x.trans x7).trans x8) (x7.trans x8)).mono ?_
      rintro e w9 ⟨rfl, x9⟩
      have heq := run_equal_bytes (P := Tryd.prog) 9998 Tryd.underlying23 Tryd.underlying5 (by kernel_rfl) (by kernel_rfl) (sumOf (joinB (cutsOf j 50 bs))) (sumOf (joinB (cutsOf j 50 bs))) (sumOf_length _) (sumOf_length _)
      simp only [decide_true] at heq
      generalize (bytesV (sumOf (joinB (cutsOf j 50 bs)))).toArray = arr at *
      go_wp2_with fail
      go_ret
      exact ⟨rfl, ((x.trans x7).trans x8).trans x9⟩
end Go.Proofs.YtgpegjadjidjmaaDoor
