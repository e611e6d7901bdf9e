/- Package canon: Sum. -/
import Derived.Test.YtbjkfgfiifnjoaaDoorPRow
import Derived.Test.YtbjkfgfiifnjoaaDoorEnc
namespace Go.Proofs.YtbjkfgfiifnjoaaDoor
open Go.RowKit
set_option maxRecDepth 100000

theorem joinB_len : ∀ (ms : List (List UInt8)), (∀ m ∈ ms, m.length = 32) → (joinB ms).length = 40 * ms.length
  | [], _ => rfl
  | x :: l, h => by
    have hx := h x (by simp)
    have e : joinB (x :: l) = be8 x.length ++ x ++ joinB l := by simp [joinB]
    rw [e, List.length_append, List.length_append, be8_length, hx, joinB_len l (fun m hm => h m (by simp [hm])), List.length_cons]; omega
theorem joinB_cons_len (b : List UInt8) (ms : List (List UInt8)) (h : ∀ m ∈ ms, m.length = 32) : (joinB (b :: ms)).length = 8 + b.length + 40 * ms.length := by
  have e : joinB (b :: ms) = be8 b.length ++ b ++ joinB ms := by simp [joinB]
  rw [e, List.length_append, List.length_append, be8_length, joinB_len ms h]

set_option maxHeartbeats 4000000 in
set_option maxRecDepth 100000 in
theorem csum_any (v mv : Value) (l : List Ins) (ms : List (List UInt8)) (w : World) (G : DigG w) (hr : Reads w v 5 l.length (insV l)) (hm : Reads w mv 32 ms.length (rowV ms)) (hall : ∀ m ∈ ms, m.length = 32) (hl : l.length ≤ 100) (hms : ms.length ≤ 10) :
    Calls Tryd.prog 12 #[v, mv] w fun e w' => e = .returned (.agg (bytesV (sumOf (joinB (encL l :: ms)))).toArray) ∧ Ext [] w w' := by
  obtain ⟨i1, hi, hz0, hz1, hz2⟩ := info_parts info_sl
  have HG := Lib.hid (fun w' (x' : Ext [] w w') => G.ext x' (by simp) (by simp))
  have HE := Lib.hid (fun w' (x : Ext [] w w') => encode_any v l w' (hr.ext x) (by omega))
  have HMS := Lib.hid (fun (h0 : 0 < ms.length) ao c (he : mv = .slice ao ms.length c) => rowV_part (he ▸ hm) rfl hall h0)
  have HJL := Lib.hid (show (joinB (encL l :: ms)).length ≤ 1048576 by rw [joinB_cons_len _ _ hall, encL_length]; omega)
  have HALL := Lib.hid hall
  obtain ⟨mo, mc, rfl, -, -, -⟩ := hm
  obtain ⟨va, vc, rfl, -, -, -⟩ := hr
  clear G hall
  go_enter Tryd.func12, Tryd.ntmps12
  go_upto_region 1 with (fail)
  show Code.wp _ _ _ _ (w.alloc (.cells (bytesV (List.replicate 32 0)).toArray 36))
  have B1 := Blk.new w 36 (bytesV (List.replicate 32 0)).toArray
  have x1 : Ext [] w (w.alloc (.cells (bytesV (List.replicate 32 0)).toArray 36)) := (Ext.refl _ _).alloc _
  generalize w.alloc (.cells (bytesV (List.replicate 32 0)).toArray 36) = w1 at *
  have hw1 := B1.lt
  go_wp2_with fail
  refine (HE.out w1 x1).mono ?_
  rintro e w2 ⟨v2, rfl, hown2, x2, fr2⟩
  have B2 := B1.ext x2 (by simp)
  have y2 := x1.trans x2
  have hlt2 : ∀ g, v2.ownBlock = some g → g < w2.heap.size := fun g hg => owns_lt hown2 hg
  have hrd2 := owns_reads hown2
  obtain ⟨v2a, v2c, rfl⟩ := owns_slice hown2
  clear B1 x1 x2 fr2 HE hown2
  go_upto_region 2 with (fail)
  have hp0 : PRow (w2.alloc (.cells #[.slice v2a (encL l).length v2c] 39)) (.slice (some ⟨w2.heap.size, 0, none⟩) 1 1) [.slice v2a (encL l).length v2c] [encL l] := by
    have xx : Ext [] w2 (w2.alloc (.cells #[.slice v2a (encL l).length v2c] 39)) := (Ext.refl _ _).alloc _
    refine ⟨(Blk.new w2 39 #[.slice v2a (encL l).length v2c]).owns rfl (by unfold maxLen; omega), rfl, fun i u hu => ?_⟩
    obtain rfl : i = 0 := by have := (List.getElem?_eq_some_iff.1 hu).1; simp at this; exact this
    simp at hu
    subst hu
    refine ⟨hrd2.ext xx, fun g hg => ⟨by have := hlt2 g hg; simp; omega, ?_⟩⟩
    intro h
    have e : w2.heap.size = g := by simpa [Value.ownBlock] using h
    have := hlt2 g hg; omega
  have B3 := B2.alloc (.cells #[.slice v2a (encL l).length v2c] 39)
  have y3 := y2.alloc (.cells #[.slice v2a (encL l).length v2c] 39)
  have hfr3 : w.heap.size < w2.heap.size := B2.lt
  clear B2 y2 hlt2 hrd2
  show Code.wp _ _ _ _ (w2.alloc (.cells #[.slice v2a (encL l).length v2c] 39))
  have hfr5 : ∀ g, (Value.slice (some ⟨w2.heap.size, 0, none⟩) 1 1).ownBlock = some g → w.heap.size < g := by
    intro g hg
    have e : w2.heap.size = g := by simpa [Value.ownBlock] using hg
    omega
  have hp1 : PRow (w2.alloc (.cells #[.slice v2a (encL l).length v2c] 39)) (.slice (some ⟨w2.heap.size, 0, none⟩) ((ms.take 0).length + 1) 1) [.slice v2a (encL l).length v2c] (encL l :: ms.take 0) := hp0
  clear hp0
  obtain ⟨br, hbr⟩ : ∃ b, b = w.heap.size := ⟨_, rfl⟩
  have HBR := Lib.hid hbr
  rw [← hbr] at B3 ⊢
  clear hbr
  generalize w2.alloc (.cells #[.slice v2a (encL l).length v2c] 39) = w3 at *
  go_wp2_with fail
  go_loopw [5, 7, 13] (fun p _ i wr => ∃ (k : Nat) (vs : List Value), k ≤ ms.length ∧ i = .int .i64 (k : Int) ∧ PRow wr p vs (encL l :: ms.take k) ∧ Blk wr br 36 (bytesV (List.replicate 32 0)) ∧ Ext [] w wr ∧ ∀ g, p.ownBlock = some g → w.heap.size < g) (fun _ _ i _ => ms.length - (intOf i).toNat)
  case atStart => exact ⟨0, _, by omega, rfl, hp1, B3, y3, hfr5⟩
  case round =>
    clear hp1 B3 y3 hfr5
    obtain ⟨k, vs, hk, rfl, hp, BR, x, fr⟩ := hrel
    obtain ⟨pa, pc, rfl⟩ := owns_slice hp.own
    by_cases hlt : k < ms.length
    · obtain ⟨bb, oo, rfl, hbb, hpart⟩ := HMS.out (by omega) mo mc rfl
      have PA : PartAt wr bb (oo + k * 32) (bytesV ms[k]) := fun j hj => (x.cell (p := ⟨bb, oo + k * 32 + j, none⟩) hbb (by simp)).trans (hpart k hlt j hj)
      have hm32 := HALL.out _ (List.getElem_mem hlt)
      have htk : ms.take (k + 1) = ms.take k ++ [ms[k]] := List.take_succ_eq_append_getElem hlt
      have HTK := Lib.hid htk
      have hol : (bytesV ms[k]).length = 32 := by rw [bytesV_length, hm32]
      have hob := bytesV_one ms[k]
      obtain ⟨m, hmq⟩ : ∃ m, m = ms[k] := ⟨_, rfl⟩
      rw [← hmq] at PA hm32 HTK hol hob
      clear htk hmq hpart
      obtain ⟨ov, hov⟩ : ∃ ov, ov = bytesV m := ⟨_, rfl⟩
      rw [← hov] at PA hol hob
      have HOV := Lib.hid hov
      clear hov
      have hvl : vs.length ≤ 11 := by rw [hp.same, List.length_cons, List.length_take]; omega
      go_upto_region 5 with (with_reducible refine wpList_ldpart rfl 36 (.tmp 15) rfl bb (oo + k * 32) rfl ov _ PA Tryd.underlying36 rfl (by rw [hol]; kernel_rfl) ?_)
      have BX := Blk.new wr 36 (bytesV (List.replicate 32 0)).toArray
      have xa : Ext [] wr (wr.alloc (.cells (bytesV (List.replicate 32 0)).toArray 36)) := (Ext.refl _ _).alloc _
      refine upon_strow wr.heap.size 0 36 _ ov BX (by rw [hol]; simp [bytesV]) hob ?_
      intro w5 H5 x5 hsz5
      have e9 : (bytesV (List.replicate 32 0)).take 0 ++ ov ++ (bytesV (List.replicate 32 0)).drop (0 + ov.length) = ov := by
        rw [hol, List.take_zero, List.nil_append, List.drop_of_length_le (by simp [bytesV]), List.append_nil]
      have H5' : Blk w5 wr.heap.size 36 ov := by
        have h := H5
        rw [show (bytesV (List.replicate 32 0)).toArray.toList = bytesV (List.replicate 32 0) from rfl, e9] at h
        exact h
      have x05 : Ext [] wr w5 := xa.trans' x5 (by simp)
      have hpl : ∀ g, (Value.slice pa vs.length pc).ownBlock = some g → g < wr.heap.size := fun g hg => owns_lt hp.own hg
      have hp5 := hp.ext x05
      have BR5 := BR.ext x05 (by simp)
      have y5 := x.trans x05
      obtain ⟨bx, hbx⟩ : ∃ b, b = wr.heap.size := ⟨_, rfl⟩
      rw [← hbx] at H5' hpl ⊢
      clear BX xa H5 x5 e9 x05 hp BR x hbx PA hsz5
      go_wp2_with (at_builtin; go_must (refine wpList_app _ rfl (.tmp 17) (.tmp 19) 41 rfl 39 i1 (.slice none 0 0) 1 24 Tryd.underlying41 hi hz0 hz1 hz2 rfl (by decide) (.slice pa vs.length pc) _ vs rfl (owns_ext hp5.own ((Ext.refl [] w5).alloc _) (by simp)) _ 1 [.slice (some ⟨bx, 0, none⟩) 32 32] rfl (blk_reads (Blk.new w5 _ _) 1 rfl) (by intro u hu; simp at hu; subst hu; rfl) (by unfold maxLen; omega) (by omega) ?_); intro v7 w7 hown7 hgrow7 hfr7 _)
      go_roundw
      case rel =>
        have xb : Ext [] w5 (w5.alloc (.cells #[.slice (some ⟨bx, 0, none⟩) 32 32] 39)) := (Ext.refl _ _).alloc _
        have hru : Reads (w5.alloc (.cells #[.slice (some ⟨bx, 0, none⟩) 32 32] 39)) (.slice (some ⟨bx, 0, none⟩) 32 32) 1 m.length (bytesV m) := by
          rw [hm32, ← HOV.out]
          exact blk_reads (H5'.ext xb (by simp)) 32 (by rw [hol])
        have happ := (hp5.ext xb).app hru (fun g hg => by
          have e : bx = g := by simpa [Value.ownBlock] using hg
          have h1 := H5'.lt
          refine ⟨by simp; omega, fun h => ?_⟩
          have := hpl g h
          omega) hown7 hgrow7 hfr7
        refine ⟨k + 1, vs ++ [.slice (some ⟨bx, 0, none⟩) 32 32], by omega, by go_num, ?_, (BR5.ext xb (by simp)).grown hgrow7 ?_, (y5.trans xb).grown hgrow7 (by intro g hg; have := fr g hg; exact .inr (by omega)), ?_⟩
        · rw [HTK.out]; exact happ
        · intro h
          have := fr _ h
          have := HBR.out
          omega
        · intro g hg
          rcases hfr7 with h | ⟨g', h, hle⟩
          · exact fr g (h ▸ hg)
          · rw [h] at hg
            obtain rfl := Option.some.inj hg
            have := BR5.lt
            have := HBR.out
            simp at hle; omega
      case measure => simp [intOf]; omega
    · have hk' : k = ms.length := by omega
      rw [hk', List.take_length] at hp
      have HJ := Lib.hid (joined_any (.slice pa vs.length pc) vs (encL l :: ms) wr (HG.out wr x) hp.parts HJL.out (by simp; omega))
      clear hk' hp hk
      go_wp2_with fail
      refine HJ.out.mono ?_
      rintro e w9 ⟨rfl, x9⟩
      have BR9 := BR.ext x9 (by simp)
      have hOl : (bytesV (sumOf (joinB (encL l :: ms)))).length = 32 := by rw [bytesV_length, sumOf_length]
      have hob : ∀ u ∈ bytesV (sumOf (joinB (encL l :: ms))), u.oneCell' = true := bytesV_one _
      obtain ⟨ov, hov⟩ : ∃ ov, ov = bytesV (sumOf (joinB (encL l :: ms))) := ⟨_, rfl⟩
      rw [← hov] at hOl hob ⊢
      have HOV := Lib.hid hov
      clear hov
      go_wp2_with fail
      refine upon_strow br 0 36 _ ov BR9 (by rw [hOl]; simp [bytesV]) hob ?_
      intro w10 H10 x10 hsz10
      clear hsz10
      have e9 : (bytesV (List.replicate 32 0)).take 0 ++ ov ++ (bytesV (List.replicate 32 0)).drop (0 + ov.length) = ov := by
        rw [hOl, List.take_zero, List.nil_append, List.drop_of_length_le (by simp [bytesV]), List.append_nil]
      rw [e9] at H10
      go_wp2_with fail
      refine bodyPost_ret (results_blk Tryd.results12 _ _ br 36 ov _ rfl H10 Tryd.underlying36 rfl (by rw [hOl]; kernel_rfl)) rfl ?_
      exact ⟨by rw [HOV.out], (x.trans x9).trans' x10 (by intro i hi; simp at hi; subst hi; right; rw [HBR.out]; exact Nat.le_refl _)⟩
end Go.Proofs.YtbjkfgfiifnjoaaDoor
