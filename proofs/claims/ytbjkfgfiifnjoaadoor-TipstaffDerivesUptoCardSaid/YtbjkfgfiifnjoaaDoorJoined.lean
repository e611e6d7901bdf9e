/- Package digest: Joined, Hex. -/
import Derived.Test.YtbjkfgfiifnjoaaDoorSum
namespace Go.Proofs.YtbjkfgfiifnjoaaDoor
open Go.RowKit
set_option maxRecDepth 100000

/-- Parts: a row of slices, each of bytes. -/
structure PartsIn (w : World) (v : Value) (vs : List Value) (bs : List (List UInt8)) : Prop where
  reads : Reads w v 1 vs.length vs
  same : vs.length = bs.length
  each : ∀ i u, vs[i]? = some u → Reads w u 1 (bs.getD i []).length (bytesV (bs.getD i []))

theorem PartsIn.ext {w w' : World} {v : Value} {vs : List Value} {bs : List (List UInt8)} (h : PartsIn w v vs bs) (x : Ext [] w w') : PartsIn w' v vs bs :=
  ⟨h.reads.ext x, h.same, fun i u hu => (h.each i u hu).ext x⟩

/-- Each behind its length. -/
def joinB (bs : List (List UInt8)) : List UInt8 := (bs.map fun b => be8 b.length ++ b).flatten

theorem joinB_snoc (bs : List (List UInt8)) (b : List UInt8) : joinB (bs ++ [b]) = joinB bs ++ be8 b.length ++ b := by simp [joinB]
theorem joinB_take (bs : List (List UInt8)) (k : Nat) (hk : k < bs.length) : joinB (bs.take (k + 1)) = joinB (bs.take k) ++ be8 (bs.getD k []).length ++ bs.getD k [] := by
  rw [List.take_succ_eq_append_getElem hk, joinB_snoc]; simp [List.getD, hk]
theorem joinB_le (bs : List (List UInt8)) (k : Nat) : (joinB (bs.take k)).length ≤ (joinB bs).length := by
  have h : joinB bs = joinB (bs.take k) ++ joinB (bs.drop k) := by
    unfold joinB
    rw [← List.flatten_append, ← List.map_append, List.take_append_drop]
  rw [h, List.length_append]; omega

set_option maxHeartbeats 4000000 in
set_option maxRecDepth 100000 in
theorem joined_any (v : Value) (vs : List Value) (bs : List (List UInt8)) (w : World) (G : DigG w) (hp : PartsIn w v vs bs) (hl : (joinB bs).length ≤ 1048576) (hn : bs.length ≤ 1000) :
    Calls Tryd.prog 13 #[v] w fun e w' => e = .returned (.agg (bytesV (sumOf (joinB bs))).toArray) ∧ Ext [] w w' := by
  obtain ⟨i0, hi, hz0, hz1, hz2⟩ := info_parts info_byte
  have HP := Lib.hid (fun w' (x : Ext [] w w') => hp.ext x)
  have HG := Lib.hid (fun w' (x' : Ext [] w w') => G.ext x' (by simp) (by simp))
  obtain ⟨hrd, hsame, -⟩ := hp
  obtain ⟨ao, c, rfl, -, hnone, -⟩ := hrd
  have HN := Lib.hid hnone
  have g1 := G.lt1
  have g2 := G.lt2
  clear G hnone
  rw [hsame] at HN ⊢
  have HS := Lib.hid hsame
  clear hsame
  go_enter Tryd.func13, Tryd.ntmps13
  go_upto_region 1 with (fail)
  show Code.wp _ _ _ _ (w.alloc (.cells (bytesV (List.replicate 32 0)).toArray 36))
  have B1 := Blk.new w 36 (bytesV (List.replicate 32 0)).toArray
  have x1 : Ext [] w (w.alloc (.cells (bytesV (List.replicate 32 0)).toArray 36)) := (Ext.refl _ _).alloc _
  have hw1 := B1.lt
  generalize w.alloc (.cells (bytesV (List.replicate 32 0)).toArray 36) = w1 at *
  go_wp2_with fail
  go_loopw [3, 8] (fun v i wr => ∃ k : Nat, k ≤ bs.length ∧ i = .int .i64 k ∧ wr.ownsRow 0 5 1 v (joinB (bs.take k)).length (bytesV (joinB (bs.take k))) ∧ Ext [] w1 wr ∧ ∀ g, v.ownBlock = some g → w1.heap.size ≤ g) (fun _ i _ => bs.length - (intOf i).toNat)
  case atStart => exact ⟨0, by omega, rfl, by simpa [bytesV, joinB] using World.ownsRow_nil _ _ _ _, Ext.refl _ _, fun g h => by cases h⟩
  case round =>
    obtain ⟨k, hk, rfl, hown, x, hfr⟩ := hrel
    obtain ⟨va, vc, rfl⟩ := owns_slice hown
    by_cases hlt : k < bs.length
    · obtain ⟨ad, rfl⟩ : ∃ ad, ao = some ad := by
        cases ao with
        | none => have := (HN.out rfl).1; omega
        | some ad => exact ⟨ad, rfl⟩
      have hpw := HP.out wr (x1.trans x)
      have hkv : k < vs.length := by rw [HS.out]; exact hlt
      obtain ⟨u, hu⟩ : ∃ u, vs[k]? = some u := ⟨_, List.getElem?_eq_getElem hkv⟩
      have hcu : wr.cell? (ad.add k) = some u := by
        obtain ⟨ao', c', he, -, -, hc⟩ := hpw.reads
        cases he
        exact hc ad rfl k u hu
      have hru := hpw.each k u hu
      have hst := Lib.hid (joinB_take bs k hlt)
      have hle := joinB_le bs (k + 1)
      rw [hst.out] at hle
      obtain ⟨bk, hbk⟩ : ∃ bk, bk = bs.getD k [] := ⟨_, rfl⟩
      rw [← hbk] at hru hst hle
      have HRU := Lib.hid (fun w' (x : Ext [] w w') => (show Reads w' u 1 bk.length (bytesV bk) from hbk ▸ (HP.out w' x).each k u hu))
      obtain ⟨ua, uc, rfl, -, -, -⟩ := hru
      have hb8 := be8_length bk.length
      simp only [List.length_append, hb8] at hle
      clear hpw hu hbk hb8
      go_wp2_with fail
      refine (length_any bk.length _).mono ?_
      rintro e w5 ⟨v5, rfl, hown5, x5, fr5⟩
      rw [be8_length] at hown5
      have hown5' := owns_ext hown x5 (by simp)
      have hcap : (joinB (bs.take k)).length ≤ 1048576 := by omega
      obtain ⟨v5a, v5c, rfl⟩ := owns_slice hown5
      have hsz := x.size
      have hsz5 := x5.size
      go_upto_region 6 with (at_builtin; go_must (refine wpList_app _ rfl (.tmp 12) (.tmp 16) 39 rfl 5 i0 (.int .u8 0) 1 1 Tryd.underlying39 hi hz0 hz1 hz2 rfl (by decide) (.slice va _ vc) _ _ rfl hown5' (.slice v5a 8 v5c) 8 _ rfl (owns_reads hown5) (bytesV_one _) (by unfold maxLen; omega) (by omega) ?_); intro v6 w6 hown6 hgrow6 hfr6 _)
      have x6 : Ext [] w1 w6 := (x.trans x5).grown hgrow6 (by intro g hg; exact .inr (hfr g hg))
      have fr6 : ∀ g, v6.ownBlock = some g → w1.heap.size ≤ g := by
        intro g hg
        rcases hfr6 with h | ⟨g', h, hle⟩
        · exact hfr g (h ▸ hg)
        · rw [h] at hg; obtain rfl := Option.some.inj hg; omega
      have hr6 := HRU.out w6 (x1.trans x6)
      clear hgrow6 hfr6 hown hown5 hown5' x x5 hfr fr5
      go_wp2_with (at_builtin; go_must (refine wpList_app _ rfl (.tmp 18) (.tmp 19) 39 rfl 5 i0 (.int .u8 0) 1 1 Tryd.underlying39 hi hz0 hz1 hz2 rfl (by decide) v6 _ _ rfl hown6 (.slice ua bk.length uc) bk.length _ rfl hr6 (bytesV_one _) (by unfold maxLen; omega) (by omega) ?_); intro v7 w7 hown7 hgrow7 hfr7 _)
      go_roundw
      case rel =>
        refine ⟨k + 1, by omega, by go_num, ?_, x6.grown hgrow7 (by intro g hg; exact .inr (fr6 g hg)), ?_⟩
        · rw [hst.out, bytesV_append, bytesV_append, List.length_append, List.length_append, be8_length]; exact hown7
        · intro g hg
          have := x6.size
          rcases hfr7 with h | ⟨g', h, hle'⟩
          · exact fr6 g (h ▸ hg)
          · rw [h] at hg; obtain rfl := Option.some.inj hg; omega
      case measure => simp [intOf]; omega
    · have hk' : k = bs.length := by omega
      rw [hk', List.take_length] at hown
      have hsum := sum_any (.slice va (joinB bs).length vc) (joinB bs) wr (HG.out _ (x1.trans x)) (owns_reads hown) hl
      have hee : (joinB (bs.take k)).length = (joinB bs).length := by rw [hk', List.take_length]
      have HSU := Lib.hid hsum
      rw [hee]
      clear hk' hown hsum hee hfr
      go_wp2_with fail
      refine HSU.out.mono ?_
      rintro e w9 ⟨rfl, x9⟩
      have BR := (B1.ext x (by simp)).ext x9 (by simp)
      have hOl : (bytesV (sumOf (joinB bs))).length = 32 := by rw [bytesV_length, sumOf_length]
      have hob : ∀ u ∈ bytesV (sumOf (joinB bs)), u.oneCell' = true := bytesV_one _
      generalize hov : bytesV (sumOf (joinB bs)) = ov at *
      go_wp2_with fail
      refine upon_strow w.heap.size 0 36 _ ov BR (by rw [hOl]; simp [bytesV]) hob ?_
      intro w10 H10 x10 _
      have e9 : (bytesV (List.replicate 32 0)).take 0 ++ ov ++ (bytesV (List.replicate 32 0)).drop (0 + ov.length) = ov := by
        rw [hOl, List.take_zero, List.nil_append, List.drop_of_length_le (by simp [bytesV]), List.append_nil]
      rw [e9] at H10
      go_wp2_with fail
      refine bodyPost_ret (results_blk Tryd.results13 _ _ w.heap.size 36 ov _ rfl H10 Tryd.underlying36 rfl (by rw [hOl]; kernel_rfl)) rfl ?_
      exact ⟨by rw [hov], (x1.trans (x.trans x9)).trans' x10 (by simp)⟩
end Go.Proofs.YtbjkfgfiifnjoaaDoor
