/- The reference of layer 6: Sum. -/
import Derived.Test.YtkpckjkjlhaglaaDoorCSum
import Derived.Test.YtkpckjkjlhaglaaDoorREnc
import Derived.Test.YtkpckjkjlhaglaaDoorRefJ
namespace Go.Proofs.YtkpckjkjlhaglaaDoor
open Go.RowKit

theorem fresh_of {w : World} {v8 : Value} {o : Obj} (h : v8.ownBlock = (Value.slice (some ⟨w.heap.size, 0, none⟩) 0 0).ownBlock ∨ ∃ g, v8.ownBlock = some g ∧ (w.alloc o).heap.size ≤ g) : ∀ g, v8.ownBlock = some g → w.heap.size ≤ g := by
  intro g hg
  rcases h with h | ⟨g', h, hle⟩
  · rw [h] at hg; simp [Value.ownBlock] at hg; omega
  · rw [h] at hg; obtain rfl := Option.some.inj hg; simp at hle; omega

set_option maxHeartbeats 4000000 in
set_option maxRecDepth 100000 in
theorem rcsum_any (v mv : Value) (l : List Ins) (ms : List (List UInt8)) (w : World) (hr : Reads w v 5 l.length (insV l)) (hm : Reads w mv 32 ms.length (rowV ms)) (hall : ∀ m ∈ ms, m.length = 32) (hl : l.length ≤ 100) (hms : ms.length ≤ 10) :
    Calls Tryd.prog 8 #[v, mv] w fun e w' => e = .returned (.agg (bytesV (sumOf (joinB (encL l :: ms)))).toArray) ∧ Ext [] w w' := by
  obtain ⟨i1, hi, hz0, hz1, hz2⟩ := info_parts info_sl
  obtain ⟨i0, hj, hy0, hy1, hy2⟩ := info_parts info_byte
  have HE := Lib.hid (fun w' (x : Ext [] w w') => rencode_any v l w' (hr.ext x) (by omega))
  have HMS := Lib.hid (fun (h0 : 0 < ms.length) ao c (he : mv = .slice ao ms.length c) => rowV_part (he ▸ hm) rfl hall h0)
  have HJL := Lib.hid (show (joinB (encL l :: ms)).length ≤ 1048576 by rw [joinB_cons_len _ _ hall, encL_length]; omega)
  have HALL := Lib.hid hall
  obtain ⟨mo, mc, rfl, -, -, -⟩ := hm
  obtain ⟨va, vc, rfl, -, -, -⟩ := hr
  clear hall
  go_enter Tryd.func8, Tryd.ntmps8
  go_upto_region 1 with (fail)
  show Code.wp _ _ _ _ (w.alloc (.cells (bytesV (List.replicate 32 0)).toArray 30))
  have B1 := Blk.new w 30 (bytesV (List.replicate 32 0)).toArray
  have x1 : Ext [] w (w.alloc (.cells (bytesV (List.replicate 32 0)).toArray 30)) := (Ext.refl _ _).alloc _
  generalize w.alloc (.cells (bytesV (List.replicate 32 0)).toArray 30) = w1 at *
  have hw1 := B1.lt
  go_wp2_with fail
  refine (HE.out w1 x1).mono ?_
  rintro e w2 ⟨v2, rfl, hown2, x2, fr2⟩
  have B2 := B1.ext x2 (by simp)
  have y2 := x1.trans x2
  have hlt2 : ∀ g, v2.ownBlock = some g → g < w2.heap.size := fun g hg => owns_lt hown2 hg
  have hrd2 := owns_reads hown2
  obtain ⟨v2a, v2c, rfl⟩ := owns_slice hown2
  clear B1 x1 x2 fr2 HE hown2
  go_upto_region 2 with (fail)
  have hp0 : PRow (w2.alloc (.cells #[.slice v2a (encL l).length v2c] 38)) (.slice (some ⟨w2.heap.size, 0, none⟩) 1 1) [.slice v2a (encL l).length v2c] [encL l] := by
    have xx : Ext [] w2 (w2.alloc (.cells #[.slice v2a (encL l).length v2c] 38)) := (Ext.refl _ _).alloc _
    refine ⟨(Blk.new w2 38 #[.slice v2a (encL l).length v2c]).owns rfl (by unfold maxLen; omega), rfl, fun i u hu => ?_⟩
    obtain rfl : i = 0 := by have := (List.getElem?_eq_some_iff.1 hu).1; simp at this; exact this
    simp at hu
    subst hu
    refine ⟨hrd2.ext xx, fun g hg => ⟨by have := hlt2 g hg; simp; omega, ?_⟩⟩
    intro h
    have e : w2.heap.size = g := by simpa [Value.ownBlock] using h
    have := hlt2 g hg; omega
  have B3 := B2.alloc (.cells #[.slice v2a (encL l).length v2c] 38)
  have y3 := y2.alloc (.cells #[.slice v2a (encL l).length v2c] 38)
  have hfr3 : w.heap.size < w2.heap.size := B2.lt
  clear B2 y2 hlt2 hrd2
  show Code.wp _ _ _ _ (w2.alloc (.cells #[.slice v2a (encL l).length v2c] 38))
  have hfr5 : ∀ g, (Value.slice (some ⟨w2.heap.size, 0, none⟩) 1 1).ownBlock = some g → w.heap.size < g := by
    intro g hg
    have e : w2.heap.size = g := by simpa [Value.ownBlock] using hg
    omega
  have hp1 : PRow (w2.alloc (.cells #[.slice v2a (encL l).length v2c] 38)) (.slice (some ⟨w2.heap.size, 0, none⟩) ((ms.take 0).length + 1) 1) [.slice v2a (encL l).length v2c] (encL l :: ms.take 0) := hp0
  clear hp0
  obtain ⟨br, hbr⟩ : ∃ b, b = w.heap.size := ⟨_, rfl⟩
  have HBR := Lib.hid hbr
  rw [← hbr] at B3 ⊢
  clear hbr
  generalize w2.alloc (.cells #[.slice v2a (encL l).length v2c] 38) = w3 at *
  go_wp2_with fail
  go_loopw [5, 6] (fun p i wr => ∃ (k : Nat) (vs : List Value), k ≤ ms.length ∧ i = .int .i64 (k : Int) ∧ PRow wr p vs (encL l :: ms.take k) ∧ Blk wr br 30 (bytesV (List.replicate 32 0)) ∧ Ext [] w wr ∧ ∀ g, p.ownBlock = some g → w.heap.size < g) (fun _ i _ => ms.length - (intOf i).toNat)
  case atStart => exact ⟨0, _, by omega, rfl, hp1, B3, y3, hfr5⟩
  case round =>
    clear hp1 B3 y3 hfr5
    obtain ⟨k, vs, hk, rfl, hp, BR, x, fr⟩ := hrel
    obtain ⟨pa, pc, rfl⟩ := owns_slice hp.own
    by_cases hlt : k < ms.length
    · obtain ⟨bb, oo, rfl, hbb, hpart⟩ := HMS.out (by omega) mo mc rfl
      have hm32 := HALL.out _ (List.getElem_mem hlt)
      have HTK := Lib.hid (List.take_succ_eq_append_getElem hlt)
      have HRM := Lib.hid (fun w' (x' : Ext [] wr w') => (show Reads w' (.slice (some ⟨bb, oo + k * 32, none⟩) 32 32) 1 32 (bytesV ms[k]) from
        ⟨some ⟨bb, oo + k * 32, none⟩, 32, rfl, by rw [bytesV_length, hm32], (fun e => by cases e), fun ad e j u hu => by
          obtain rfl := Option.some.inj e
          have hj : j < (bytesV ms[k]).length := (List.getElem?_eq_some_iff.1 hu).1
          rw [Addr.add_lit, ((x.trans x').cell (p := ⟨bb, oo + k * 32 + j, none⟩) hbb (by simp)), hpart k hlt j hj]; exact hu⟩))
      clear hpart
      generalize ms[k] = m at *
      have hvl : vs.length ≤ 11 := by rw [hp.same, List.length_cons, List.length_take]; omega
      go_wp2_with (first
        | (at_builtin; refine wpList_app _ rfl (.tmp 17) (.tmp 21) 38 rfl 5 i0 (.int .u8 0) 1 1 Tryd.underlying38 hj hy0 hy1 hy2 rfl (by decide) (.slice (some ⟨wr.heap.size, 0, none⟩) 0 0) 0 [] rfl ((Blk.new wr 5 #[]).owns rfl (Nat.zero_le _)) (.slice (some ⟨bb, oo + k * 32, none⟩) 32 32) 32 (bytesV m) rfl (HRM.out _ ((Ext.refl [] wr).alloc _)) (bytesV_one m) (by unfold maxLen; omega) (by omega) ?_; intro v8 w8 hown8 hgrow8 hfr8 _; simp only [Nat.zero_add, List.nil_append] at hown8; have x8 : Ext [] wr w8 := ((Ext.refl [] wr).alloc _).grown hgrow8 (by intro g hg; simp [Value.ownBlock] at hg; exact .inr (by omega)); have fr8 : ∀ g, v8.ownBlock = some g → wr.heap.size ≤ g := fresh_of hfr8; obtain ⟨a8, c8, rfl⟩ := owns_slice hown8; have hp8 := hp.ext x8)
        | (at_builtin; go_must (refine wpList_app _ rfl (.tmp 16) (.tmp 23) 40 rfl 38 i1 (.slice none 0 0) 1 24 Tryd.underlying40 hi hz0 hz1 hz2 rfl (by decide) (.slice pa vs.length pc) _ vs rfl (owns_ext hp8.own ((Ext.refl [] w8).alloc _) (by simp)) _ 1 [.slice a8 32 c8] rfl (blk_reads (Blk.new w8 _ _) 1 rfl) (by intro u hu; simp at hu; subst hu; rfl) (by unfold maxLen; omega) (by omega) ?_); intro v7 w7 hown7 hgrow7 hfr7 _))
      go_roundw
      case rel =>
        have xb : Ext [] w8 (w8.alloc (.cells #[.slice a8 32 c8] 38)) := (Ext.refl _ _).alloc _
        have hpl : ∀ g, (Value.slice pa vs.length pc).ownBlock = some g → g < wr.heap.size := fun g hg => owns_lt hp.own hg
        have hlt8 : ∀ g, (Value.slice a8 32 c8).ownBlock = some g → g < w8.heap.size := fun g hg => owns_lt hown8 hg
        have hru : Reads (w8.alloc (.cells #[.slice a8 32 c8] 38)) (.slice a8 32 c8) 1 m.length (bytesV m) := by
          rw [hm32]
          exact (owns_reads hown8).ext xb
        have happ := (hp8.ext xb).app hru (fun g hg => by
          have h1 := hlt8 g hg
          have h2 := fr8 g hg
          refine ⟨by simp; omega, fun h => ?_⟩
          have := hpl g h
          omega) hown7 hgrow7 hfr7
        have BR5 := BR.ext x8 (by simp)
        refine ⟨k + 1, vs ++ [.slice a8 32 c8], by omega, by go_num, ?_, (BR5.ext xb (by simp)).grown hgrow7 ?_, ((x.trans x8).trans xb).grown hgrow7 (by intro g hg; have := fr g hg; exact .inr (by omega)), ?_⟩
        · rw [HTK.out]; exact happ
        · intro h
          have := fr _ h
          have := HBR.out
          omega
        · intro g hg
          rcases hfr7 with h | ⟨g', h, hle⟩
          · exact fr g (h ▸ hg)
          · rw [h] at hg
            obtain rfl := Option.some.inj hg
            have := BR5.lt
            have := HBR.out
            simp at hle; omega
      case measure => simp [intOf]; omega
    · have hk' : k = ms.length := by omega
      rw [hk', List.take_length] at hp
      have HJ := Lib.hid (rjoined (.slice pa vs.length pc) vs (encL l :: ms) wr hp.parts HJL.out (by simp; omega))
      clear hk' hp hk
      go_wp2_with fail
      refine HJ.out.mono ?_
      rintro e w9 ⟨rfl, x9⟩
      have BR9 := BR.ext x9 (by simp)
      have hOl : (bytesV (sumOf (joinB (encL l :: ms)))).length = 32 := by rw [bytesV_length, sumOf_length]
      have hob : ∀ u ∈ bytesV (sumOf (joinB (encL l :: ms))), u.oneCell' = true := bytesV_one _
      obtain ⟨ov, hov⟩ : ∃ ov, ov = bytesV (sumOf (joinB (encL l :: ms))) := ⟨_, rfl⟩
      rw [← hov] at hOl hob ⊢
      have HOV := Lib.hid hov
      clear hov
      go_wp2_with fail
      refine upon_strow br 0 30 _ ov BR9 (by rw [hOl]; simp [bytesV]) hob ?_
      intro w10 H10 x10 hsz10
      clear hsz10
      have e9 : (bytesV (List.replicate 32 0)).take 0 ++ ov ++ (bytesV (List.replicate 32 0)).drop (0 + ov.length) = ov := by
        rw [hOl, List.take_zero, List.nil_append, List.drop_of_length_le (by simp [bytesV]), List.append_nil]
      rw [e9] at H10
      go_wp2_with fail
      refine bodyPost_ret (results_blk Tryd.results8 _ _ br 30 ov _ rfl H10 Tryd.underlying30 rfl (by rw [hOl]; kernel_rfl)) rfl ?_
      exact ⟨by rw [HOV.out], (x.trans x9).trans' x10 (by intro i hi; simp at hi; subst hi; right; rw [HBR.out]; exact Nat.le_refl _)⟩
end Go.Proofs.YtkpckjkjlhaglaaDoor
