/- The document's answer of digest: Sum, Joined. -/
import Derived.Test.YtkpckjkjlhaglaaDoorRefSum
import Derived.Test.YtkpckjkjlhaglaaDoorJoined
namespace Go.Proofs.YtkpckjkjlhaglaaDoor
open Go.RowKit

theorem PartAt.left {w : World} {b off : Nat} {xs ys : List Value} (h : PartAt w b off (xs ++ ys)) : PartAt w b off xs := fun j hj => by
  rw [h j (by simp; omega), List.getElem?_append_left hj]
theorem PartAt.right {w : World} {b off : Nat} {xs ys : List Value} (h : PartAt w b off (xs ++ ys)) : PartAt w b (off + xs.length) ys := fun j hj => by
  have := h (xs.length + j) (by simp; omega)
  rw [List.getElem?_append_right (by omega), show xs.length + j - xs.length = j by omega] at this
  rw [Nat.add_assoc]; exact this
theorem V32_append (a b : List (BitVec 32)) : V32 (a ++ b) = V32 a ++ V32 b := by simp [V32]

set_option maxHeartbeats 4000000 in
set_option maxRecDepth 100000 in
theorem roots_sum (v : Value) (b : List UInt8) (w : World) (hr : Reads w v 1 b.length (bytesV b)) (hl : b.length ≤ 1048576) :
    Calls Tryd.prog 27 #[.agg (V32 (Ks ++ begin0.list)).toArray, v] w fun e w' => e = .returned (.agg (bytesV (sumOf b)).toArray) ∧ Ext [] w w' := by
  have HR := Lib.hid (fun w' (x : Ext [] w w') => hr.ext x)
  clear hr
  have hKl : (V32 Ks).length = 64 := rfl
  have hBl : (V32 begin0.list).length = 8 := rfl
  have hSum := Lib.hid (fun w' (x : Ext [] w w') => rsum_any v b w' (HR.out w' x) hl)
  rw [V32_append]
  generalize V32 Ks = kv at *
  generalize V32 begin0.list = bv at *
  go_enter Tryd.func27, Tryd.ntmps27
  go_upto_region 1 with (fail)
  show Code.wp _ _ _ _ ((w.alloc (.cells (kv ++ bv).toArray 59)).alloc (.cells (bytesV (List.replicate 32 0)).toArray 30))
  have BR : Blk ((w.alloc (.cells (kv ++ bv).toArray 59)).alloc (.cells (bytesV (List.replicate 32 0)).toArray 30)) w.heap.size 59 (kv ++ bv) := (Blk.new w _ (kv ++ bv).toArray).alloc _
  have BO : Blk ((w.alloc (.cells (kv ++ bv).toArray 59)).alloc (.cells (bytesV (List.replicate 32 0)).toArray 30)) (w.heap.size + 1) 30 (bytesV (List.replicate 32 0)) := Blk.new' _ _ (bytesV (List.replicate 32 0)).toArray _ (by simp)
  have x1 : Ext [] w ((w.alloc (.cells (kv ++ bv).toArray 59)).alloc (.cells (bytesV (List.replicate 32 0)).toArray 30)) := ((Ext.refl _ _).alloc _).alloc _
  generalize ((w.alloc (.cells (kv ++ bv).toArray 59)).alloc (.cells (bytesV (List.replicate 32 0)).toArray 30)) = w1 at *
  have p1 := BR.part.left
  have p2 := BR.part.right
  rw [hKl] at p2
  go_wp2_with (first
    | (with_reducible refine wpList_ldpart rfl 57 (.tmp 6) rfl w.heap.size 0 rfl kv _ p1 Tryd.underlying57 rfl (by rw [hKl]; kernel_rfl) ?_)
    | (with_reducible refine wpList_ldpart rfl 54 (.tmp 8) rfl w.heap.size 64 rfl bv _ p2 Tryd.underlying54 rfl (by rw [hBl]; kernel_rfl) ?_))
  refine (hSum.out w1 x1).mono ?_
  rintro e w2 ⟨rfl, x2⟩
  have BO2 := BO.ext x2 (by simp)
  have hOl : (bytesV (sumOf b)).length = 32 := by rw [bytesV_length, sumOf_length]
  have hob : ∀ u ∈ bytesV (sumOf b), u.oneCell' = true := bytesV_one _
  generalize hov : bytesV (sumOf b) = ov at *
  go_wp2_with fail
  refine upon_strow (w.heap.size + 1) 0 30 _ ov BO2 (by rw [hOl]; simp [bytesV]) hob ?_
  intro w10 H10 x10 _
  have e9 : (bytesV (List.replicate 32 0)).take 0 ++ ov ++ (bytesV (List.replicate 32 0)).drop (0 + ov.length) = ov := by
    rw [hOl, List.take_zero, List.nil_append, List.drop_of_length_le (by simp [bytesV]), List.append_nil]
  rw [e9] at H10
  go_wp2_with fail
  refine bodyPost_ret (results_blk Tryd.results27 _ _ (w.heap.size + 1) 30 ov _ rfl H10 Tryd.underlying30 rfl (by rw [hOl]; kernel_rfl)) rfl ?_
  exact ⟨by rw [hov], (x1.trans x2).trans' x10 (by simp)⟩

set_option maxHeartbeats 4000000 in
set_option maxRecDepth 100000 in
theorem rsum (v : Value) (b : List UInt8) (w : World) (hr : Reads w v 1 b.length (bytesV b)) (hl : b.length ≤ 1048576) :
    Calls Tryd.prog 21 #[v] w fun e w' => e = .returned (.agg (bytesV (sumOf b)).toArray) ∧ Ext [] w w' := by
  have hSum := Lib.hid (fun w' (x : Ext [] w w') => roots_sum v b w' (hr.ext x) hl)
  clear hr
  go_enter Tryd.func21, Tryd.ntmps21
  go_upto_region 1 with (fail)
  show Code.wp _ _ _ _ (w.alloc (.cells (bytesV (List.replicate 32 0)).toArray 30))
  have BO := Blk.new w 30 (bytesV (List.replicate 32 0)).toArray
  have x1 : Ext [] w (w.alloc (.cells (bytesV (List.replicate 32 0)).toArray 30)) := (Ext.refl _ _).alloc _
  generalize w.alloc (.cells (bytesV (List.replicate 32 0)).toArray 30) = w1 at *
  go_wp2_with fail
  refine (make_ref w1).mono ?_
  rintro e w2 ⟨rfl, x2⟩
  obtain ⟨rt, hrt⟩ : ∃ rt, rt = (V32 (Ks ++ begin0.list)).toArray := ⟨_, rfl⟩
  rw [← hrt] at hSum ⊢
  clear hrt
  go_wp2_with fail
  refine (hSum.out w2 (x1.trans x2)).mono ?_
  rintro e w3 ⟨rfl, x3⟩
  have BO2 := (BO.ext x2 (by simp)).ext x3 (by simp)
  have hOl : (bytesV (sumOf b)).length = 32 := by rw [bytesV_length, sumOf_length]
  have hob : ∀ u ∈ bytesV (sumOf b), u.oneCell' = true := bytesV_one _
  generalize hov : bytesV (sumOf b) = ov at *
  go_wp2_with fail
  refine upon_strow w.heap.size 0 30 _ ov BO2 (by rw [hOl]; simp [bytesV]) hob ?_
  intro w10 H10 x10 _
  have e9 : (bytesV (List.replicate 32 0)).take 0 ++ ov ++ (bytesV (List.replicate 32 0)).drop (0 + ov.length) = ov := by
    rw [hOl, List.take_zero, List.nil_append, List.drop_of_length_le (by simp [bytesV]), List.append_nil]
  rw [e9] at H10
  go_wp2_with fail
  refine bodyPost_ret (results_blk Tryd.results21 _ _ w.heap.size 30 ov _ rfl H10 Tryd.underlying30 rfl (by rw [hOl]; kernel_rfl)) rfl ?_
  exact ⟨by rw [hov], (x1.trans (x2.trans x3)).trans' x10 (by simp)⟩

set_option maxHeartbeats 4000000 in
set_option maxRecDepth 100000 in
theorem rjoined (v : Value) (vs : List Value) (bs : List (List UInt8)) (w : World) (hp : PartsIn w v vs bs) (hl : (joinB bs).length ≤ 1048576) (hn : bs.length ≤ 1000) :
    Calls Tryd.prog 16 #[v] w fun e w' => e = .returned (.agg (bytesV (sumOf (joinB bs))).toArray) ∧ Ext [] w w' := by
  obtain ⟨i0, hi, hz0, hz1, hz2⟩ := info_parts info_byte
  have HP := Lib.hid (fun w' (x : Ext [] w w') => hp.ext x)
  obtain ⟨hrd, hsame, -⟩ := hp
  obtain ⟨ao, c, rfl, -, hnone, -⟩ := hrd
  have HN := Lib.hid hnone
  clear hnone
  rw [hsame] at HN ⊢
  have HS := Lib.hid hsame
  clear hsame
  go_enter Tryd.func16, Tryd.ntmps16
  go_upto_region 1 with (fail)
  show Code.wp _ _ _ _ (w.alloc (.cells (bytesV (List.replicate 32 0)).toArray 30))
  have B1 := Blk.new w 30 (bytesV (List.replicate 32 0)).toArray
  have x1 : Ext [] w (w.alloc (.cells (bytesV (List.replicate 32 0)).toArray 30)) := (Ext.refl _ _).alloc _
  have hw1 := B1.lt
  generalize w.alloc (.cells (bytesV (List.replicate 32 0)).toArray 30) = w1 at *
  go_wp2_with fail
  go_loopw [3, 4] (fun v i wr => ∃ k : Nat, k ≤ bs.length ∧ i = .int .i64 k ∧ wr.ownsRow 0 5 1 v (joinB (bs.take k)).length (bytesV (joinB (bs.take k))) ∧ Ext [] w1 wr ∧ ∀ g, v.ownBlock = some g → w1.heap.size ≤ g) (fun _ i _ => bs.length - (intOf i).toNat)
  case atStart => exact ⟨0, by omega, rfl, by simpa [bytesV, joinB] using World.ownsRow_nil _ _ _ _, Ext.refl _ _, fun g h => by cases h⟩
  case round =>
    obtain ⟨wo, rfl⟩ : ∃ wo : World, wo = wr := ⟨_, rfl⟩
    obtain ⟨k, hk, rfl, hown, x, hfr⟩ := hrel
    by_cases hlt : k < bs.length
    · obtain ⟨ad, rfl⟩ : ∃ ad, ao = some ad := by
        cases ao with
        | none => have := (HN.out rfl).1; omega
        | some ad => exact ⟨ad, rfl⟩
      have hkv : k < vs.length := by rw [HS.out]; exact hlt
      obtain ⟨u, hu⟩ : ∃ u, vs[k]? = some u := ⟨_, List.getElem?_eq_getElem hkv⟩
      have HCU := Lib.hid (fun w' (x : Ext [] w w') => (show w'.cell? (ad.add k) = some u by
        obtain ⟨ao', c', he, -, -, hc⟩ := (HP.out w' x).reads
        cases he
        exact hc ad rfl k u hu))
      have hru := (HP.out wo (x1.trans x)).each k u hu
      have hst := Lib.hid (joinB_take bs k hlt)
      have hle := joinB_le bs (k + 1)
      rw [hst.out] at hle
      obtain ⟨bk, hbk⟩ : ∃ bk, bk = bs.getD k [] := ⟨_, rfl⟩
      rw [← hbk] at hru hst hle
      have HRU := Lib.hid (fun w' (x : Ext [] w w') => (show Reads w' u 1 bk.length (bytesV bk) from hbk ▸ (HP.out w' x).each k u hu))
      obtain ⟨ua, uc, rfl, -, -, -⟩ := hru
      have hb8 := be8_length bk.length
      simp only [List.length_append, hb8] at hle
      obtain ⟨pre, hpre⟩ : ∃ pre, pre = joinB (bs.take k) := ⟨_, rfl⟩
      rw [← hpre] at hown hst hle
      obtain ⟨va0, vc0, rfl⟩ := owns_slice hown
      clear hu hbk hb8 hpre
      have hown0 : wo.ownsRow 0 5 1 (.slice va0 pre.length vc0) (pre.length + 0) (bytesV (pre ++ (be8 bk.length).take 0)) := by simpa using hown
      clear hown
      go_wp2_with fail
      go_loopw [3, 5] (fun v i wr => ∃ j : Nat, j ≤ 8 ∧ i = .int .i64 (7 - (j : Int)) ∧ wr.ownsRow 0 5 1 v (pre.length + j) (bytesV (pre ++ (be8 bk.length).take j)) ∧ Ext [] w1 wr ∧ ∀ g, v.ownBlock = some g → w1.heap.size ≤ g) (fun _ i _ => (1 + intOf i).toNat)
      case atStart => exact ⟨0, by omega, by go_num, hown0, x, hfr⟩
      case round =>
        clear hown0 x hfr
        obtain ⟨j, hj, rfl, hown, x, fr⟩ := hrel
        obtain ⟨va, vc, rfl⟩ := owns_slice hown
        have hcu := HCU.out wr (x1.trans x)
        by_cases hlt2 : j < 8
        · have hst2 := be8_take bk.length j hlt2
          have HS2 := Lib.hid hst2
          clear hst2
          have hown2 := fun z => owns_ext hown ((Ext.refl [] wr).alloc (.cells #[.int .u8 z] 5)) (by simp)
          go_wp2_with (at_builtin; go_must (refine wpList_app _ rfl (.tmp 16) (.tmp 27) 38 rfl 5 i0 (.int .u8 0) 1 1 Tryd.underlying38 hi hz0 hz1 hz2 rfl (by decide) _ _ _ rfl (hown2 _) _ 1 [.int .u8 ((bk.length : Int) / 2 ^ (8 * (7 - j)) % 256)] rfl (blk_reads (Blk.new wr 5 #[.int .u8 ((bk.length : Int) / 2 ^ (8 * (7 - j)) % 256)]) 1 rfl) (by intro u hu; simp at hu; subst hu; rfl) (by unfold maxLen; omega) (by omega) ?_); intro v' w1' hown' hgrow hfr' _)
          go_roundw
          case rel =>
            refine ⟨j + 1, by omega, by go_num, ?_, (x.alloc _).grown hgrow fun g hg => .inr (fr g hg), ?_⟩
            · rw [HS2.out, ← List.append_assoc, bytesV_append, show bytesV [UInt8.ofNat (bk.length / 2 ^ (8 * (7 - j)))] = [.int .u8 ((bk.length : Int) / 2 ^ (8 * (7 - j)) % 256)] by
                show [Value.int .u8 _] = _
                rw [byte_val]; simp]
              exact hown'
            · intro g hg
              rcases hfr' with h | ⟨g', h, hle'⟩
              · exact fr g (h ▸ hg)
              · rw [h] at hg; obtain rfl := Option.some.inj hg
                have := x.size
                simp at hle'; omega
          case measure => simp [intOf]; omega
        · have hj8 : j = 8 := by omega
          have hr6 := HRU.out wr (x1.trans x)
          go_wp2_with (at_builtin; go_must (refine wpList_app _ rfl (.tmp 29) (.tmp 33) 38 rfl 5 i0 (.int .u8 0) 1 1 Tryd.underlying38 hi hz0 hz1 hz2 rfl (by decide) (.slice va _ vc) _ _ rfl hown (.slice ua bk.length uc) bk.length _ rfl hr6 (bytesV_one _) (by unfold maxLen; omega) (by omega) ?_); intro v7 w7 hown7 hgrow7 hfr7 _)
          go_roundw
          case rel =>
            refine ⟨k + 1, by omega, by go_num, ?_, x.grown hgrow7 (by intro g hg; exact .inr (fr g hg)), ?_⟩
            · rw [hj8, List.take_of_length_le (show (be8 bk.length).length ≤ 8 by simp [be8])] at hown7
              rw [hst.out, List.length_append, List.length_append, be8_length, bytesV_append]
              exact hown7
            · intro g hg
              have := x.size
              rcases hfr7 with h | ⟨g', h, hle'⟩
              · exact fr g (h ▸ hg)
              · rw [h] at hg; obtain rfl := Option.some.inj hg; omega
          case measure => simp [intOf]; omega
    · obtain ⟨va, vc, rfl⟩ := owns_slice hown
      have hk' : k = bs.length := by omega
      rw [hk', List.take_length] at hown
      have hsum := rsum (.slice va (joinB bs).length vc) (joinB bs) wo (owns_reads hown) hl
      have hee : (joinB (bs.take k)).length = (joinB bs).length := by rw [hk', List.take_length]
      have HSU := Lib.hid hsum
      rw [hee]
      clear hk' hown hsum hee hfr
      go_wp2_with fail
      refine HSU.out.mono ?_
      rintro e w9 ⟨rfl, x9⟩
      have BR := (B1.ext x (by simp)).ext x9 (by simp)
      have hOl : (bytesV (sumOf (joinB bs))).length = 32 := by rw [bytesV_length, sumOf_length]
      have hob : ∀ u ∈ bytesV (sumOf (joinB bs)), u.oneCell' = true := bytesV_one _
      generalize hov : bytesV (sumOf (joinB bs)) = ov at *
      go_wp2_with fail
      refine upon_strow w.heap.size 0 30 _ ov BR (by rw [hOl]; simp [bytesV]) hob ?_
      intro w10 H10 x10 _
      have e9 : (bytesV (List.replicate 32 0)).take 0 ++ ov ++ (bytesV (List.replicate 32 0)).drop (0 + ov.length) = ov := by
        rw [hOl, List.take_zero, List.nil_append, List.drop_of_length_le (by simp [bytesV]), List.append_nil]
      rw [e9] at H10
      go_wp2_with fail
      refine bodyPost_ret (results_blk Tryd.results16 _ _ w.heap.size 30 ov _ rfl H10 Tryd.underlying30 rfl (by rw [hOl]; kernel_rfl)) rfl ?_
      exact ⟨by rw [hov], (x1.trans (x.trans x9)).trans' x10 (by simp)⟩
end Go.Proofs.YtkpckjkjlhaglaaDoor
