/- The document's answer of digest: sum. -/
import Derived.Test.YtgcbgeombbohpaaDoorRefD
import Derived.Test.YtgcbgeombbohpaaDoorSum
import Derived.Deep.RegionHeld3
import Derived.StillTailTactics
namespace Go.Proofs.YtgcbgeombbohpaaDoor
open Go.RowKit
set_option maxRecDepth 100000

set_option maxHeartbeats 1000000 in
theorem turn_q (x : BitVec 32) (n : Int) (w : World) (h1 : 1 ≤ n) (h2 : n ≤ 31) :
    Calls Tryd.prog 50 #[.int .u32 (x.toNat : Int), .int .i64 n] w fun e w' => e = .returned (.int .u32 ((rotr x n.toNat).toNat : Int)) ∧ ∃ m, w' = w.drewN m := by
  obtain ⟨k, rfl⟩ := Int.eq_ofNat_of_zero_le (show 0 ≤ n by omega)
  have hx := x.isLt
  go_enter Tryd.func50, Tryd.ntmps50
  go_upto_region 1 with (fail)
  go_region
  go_wp2_with fail
  go_ret
  refine ⟨ret_int ?_, 1, rfl⟩
  rw [bv_shl', bv_shr, bv_or, rotr]; rfl

theorem one_val' (a b c d e f g h k w : BitVec 32) :
    ((h.toNat : Int) + bits .xor .u32 (bits .xor .u32 ((rotr e 6).toNat : Int) ((rotr e 11).toNat : Int)) ((rotr e 25).toNat : Int) + bits .xor .u32 (bits .and .u32 (e.toNat : Int) (f.toNat : Int)) (bits .and .u32 (bits .xor .u32 (e.toNat : Int) 4294967295) (g.toNat : Int)) + (k.toNat : Int) + (w.toNat : Int)) % 4294967296 = ((one ⟨a, b, c, d, e, f, g, h⟩ k w).toNat : Int) := by
  rw [show (4294967295 : Int) = (((BitVec.allOnes 32).toNat : Nat) : Int) from rfl, bv_xor e, BitVec.xor_allOnes, bv_and, bv_and, bv_xor, bv_xor, bv_xor]
  show _ = ((h + bsig1 e + chf e f g + k + w).toNat : Int)
  unfold bsig1 chf
  generalize rotr e 6 ^^^ rotr e 11 ^^^ rotr e 25 = X
  generalize e &&& f ^^^ ~~~e &&& g = Y
  simp only [BitVec.toNat_add]; omega

theorem quiet_add {P : Program} {f : FuncId} {args : Array Value} {w : World} {a n : Nat} {v : Value}
    (h : Calls P f args (w.drewN (a + n)) fun e w' => e = .returned v ∧ ∃ m, w' = (w.drewN (a + n)).drewN m) :
    Calls P f args (w.drewN (a + n)) fun e w'' => e = .returned v ∧ ∃ m, w'' = w.drewN (a + m) :=
  h.mono fun _ _ ⟨he, m, hm⟩ => ⟨he, n + m, by rw [hm, World.drewN_drewN, Nat.add_assoc]⟩

/-- The words of a block, as the document lays them: t of them. -/
def wref (b : List UInt8) (t : Nat) : List (BitVec 32) := if t ≤ 16 then (wpart b 64).take t else wext ((wpart b 64).take 16) (t - 16)

theorem wref_length (b : List UInt8) (t : Nat) : (wref b t).length = t ∨ 64 < t := by
  unfold wref
  split
  · left; simp [wpart_length]; omega
  · left; rw [wext_length]; simp [wpart_length]; omega
theorem wref_zero (b : List UInt8) : wref b 0 = [] := by simp [wref]
theorem wref_all (b : List UInt8) : wref b 64 = wordsOf b := by simp [wref, wordsOf]
theorem wref_first (b : List UInt8) (t : Nat) (h : t < 16) : wref b (t + 1) = wref b t ++ [pw b t 4] := by
  unfold wref
  rw [if_pos (by omega), if_pos (by omega), List.take_succ_eq_append_getElem (by rw [wpart_length]; omega)]
  have h2 := wpart_get b 64 t (by omega)
  rw [List.getElem?_eq_getElem (by rw [wpart_length]; omega)] at h2
  rw [Option.some.inj h2, show min 4 (64 - 4 * t) = 4 by omega]
theorem wref_rest (b : List UInt8) (t : Nat) (h : 16 ≤ t) : wref b (t + 1) = wref b t ++ [sched (wref b t)] := by
  have e : wref b t = wext ((wpart b 64).take 16) (t - 16) := by
    unfold wref
    split
    · obtain rfl : t = 16 := by omega
      rfl
    · rfl
  rw [e, ← wext_succ]
  unfold wref
  rw [if_neg (by omega), show t + 1 - 16 = t - 16 + 1 by omega]

set_option maxHeartbeats 8000000 in
set_option maxRecDepth 100000 in
theorem rsum_any (v : Value) (b : List UInt8) (w : World) (hr : Reads w v 1 b.length (bytesV b)) (hl : b.length ≤ 1048576) :
    Calls Tryd.prog 48 #[v, .agg (V32 Ks).toArray, .agg (V32 begin0.list).toArray] w fun e w' => e = .returned (.agg (bytesV (sumOf b)).toArray) ∧ Ext [] w w' := by
  obtain ⟨i0, hi, hz0, hz1, hz2⟩ := info_parts info_byte
  obtain ⟨ao, c, rfl, hvl, hnone, hcells⟩ := hr
  have HR : ∀ w', Ext [] w w' → Reads w' (.slice ao b.length c) 1 b.length (bytesV b) := by
    intro w' x
    refine ⟨ao, c, rfl, hvl, hnone, fun ad had j u hu => ?_⟩
    have h := hcells ad had j u hu
    rw [x.cell (World.block_lt_of_cell? w _ h) (by simp)]; exact h
  have HRR := Lib.hid HR
  clear HR hcells hvl hnone
  have hKl : (V32 Ks).length = 64 := rfl
  have hBl : (V32 begin0.list).length = 8 := rfl
  obtain ⟨s0, hs0⟩ : ∃ s, s = begin0 := ⟨_, rfl⟩
  obtain ⟨kv, hkv⟩ : ∃ kv, kv = V32 Ks := ⟨_, rfl⟩
  rw [← hkv] at hKl ⊢
  rw [← hs0] at hBl ⊢
  have HKV := Lib.hid hkv
  have HSO := Lib.hid (show sumOf b = outBytes (sumTo Ks s0 (padded b) ((padded b).length / 64)) by rw [hs0]; rfl)
  clear hkv hs0
  have hk1 := oneCell_map (fun x : BitVec 32 => Value.int .u32 (x.toNat : Int)) (fun _ => rfl) Ks
  go_enter Tryd.func48, Tryd.ntmps48
  go_upto_region 1 with (fail)
  show Code.wp _ _ _ _ (((w.alloc (.cells kv.toArray 44)).alloc (.cells (V32 s0.list).toArray 45)).alloc (.cells (bytesV (List.replicate 32 0)).toArray 22))
  have BK : Blk (((w.alloc (.cells kv.toArray 44)).alloc (.cells (V32 s0.list).toArray 45)).alloc (.cells (bytesV (List.replicate 32 0)).toArray 22)) w.heap.size 44 kv := ((Blk.new w _ kv.toArray).alloc _).alloc _
  have BH : Blk (((w.alloc (.cells kv.toArray 44)).alloc (.cells (V32 s0.list).toArray 45)).alloc (.cells (bytesV (List.replicate 32 0)).toArray 22)) (w.heap.size + 1) 45 (V32 s0.list) := (Blk.new' _ _ (V32 s0.list).toArray _ (by simp)).alloc _
  have BO : Blk (((w.alloc (.cells kv.toArray 44)).alloc (.cells (V32 s0.list).toArray 45)).alloc (.cells (bytesV (List.replicate 32 0)).toArray 22)) (w.heap.size + 1 + 1) 22 (bytesV (List.replicate 32 0)) := Blk.new' _ _ (bytesV (List.replicate 32 0)).toArray _ (by simp)
  have x1 : Ext [] w (((w.alloc (.cells kv.toArray 44)).alloc (.cells (V32 s0.list).toArray 45)).alloc (.cells (bytesV (List.replicate 32 0)).toArray 22)) := (((Ext.refl _ _).alloc _).alloc _).alloc _
  have hs1 : w.heap.size + 3 ≤ (((w.alloc (.cells kv.toArray 44)).alloc (.cells (V32 s0.list).toArray 45)).alloc (.cells (bytesV (List.replicate 32 0)).toArray 22)).heap.size := by simp
  generalize (((w.alloc (.cells kv.toArray 44)).alloc (.cells (V32 s0.list).toArray 45)).alloc (.cells (bytesV (List.replicate 32 0)).toArray 22)) = w1 at *
  go_wp2_with (first
    | (at_builtin; refine wpList_app _ rfl (.tmp 24) (.tmp 25) 30 rfl 5 i0 (.int .u8 0) 1 1 Tryd.underlying30 hi hz0 hz1 hz2 rfl (by decide) (.slice (some ⟨w1.heap.size, 0, none⟩) 0 0) 0 [] rfl ((Blk.new w1 5 #[]).owns rfl (Nat.zero_le _)) (.slice ao b.length c) b.length (bytesV b) rfl (HRR.out _ (x1.alloc _)) (bytesV_one b) (by unfold maxLen; omega) (by omega) ?_; intro v2 w2 hown2 hgrow2 hfr2 _; simp only [Nat.zero_add, List.nil_append] at hown2)
    | (at_builtin; go_must (refine wpList_app _ rfl (.tmp 26) (.tmp 27) 30 rfl 5 i0 (.int .u8 0) 1 1 Tryd.underlying30 hi hz0 hz1 hz2 rfl (by decide) v2 b.length (bytesV b) rfl (owns_ext hown2 ((Ext.refl [] w2).alloc (.cells #[.int .u8 128] 5)) (by simp)) (.slice (some ⟨w2.heap.size, 0, none⟩) 1 1) 1 [.int .u8 128] rfl (blk_reads (Blk.new w2 5 #[.int .u8 128]) 1 rfl) (by intro u hu; simp at hu; subst hu; rfl) (by unfold maxLen; omega) (by omega) ?_); intro v3 w3 hown3 hgrow3 hfr3 _))
  have x12 : Ext [] w1 w2 := ((Ext.refl [] w1).alloc _).grown hgrow2 (by intro k hk; simp [Value.ownBlock] at hk; exact .inr (by omega))
  have fr2 : ∀ g, v2.ownBlock = some g → w1.heap.size ≤ g := by
    intro g hg
    rcases hfr2 with h | ⟨g', h, hle⟩
    · rw [h] at hg; simp [Value.ownBlock] at hg; omega
    · rw [h] at hg; obtain rfl := Option.some.inj hg; simp at hle; omega
  have x23 : Ext [] w1 w3 := (x12.alloc _).grown hgrow3 (by intro k hk; exact .inr (fr2 k hk))
  have fr3 : ∀ g, v3.ownBlock = some g → w1.heap.size ≤ g := by
    intro g hg
    have := x12.size
    rcases hfr3 with h | ⟨g', h, hle⟩
    · exact fr2 g (h ▸ hg)
    · rw [h] at hg; obtain rfl := Option.some.inj hg; simp at hle; omega
  have hz := padN_lt b.length
  have hzo := padN_ok b.length
  have e3 : bytesV b ++ [Value.int .u8 128] = bytesV (b ++ 128 :: List.replicate 0 0) := by rw [bytesV_append]; rfl
  rw [e3] at hown3
  clear hgrow3 hfr3 hown2 fr2 e3 x12 hgrow2 hfr2
  generalize hpz : padN b.length = pz at *
  have HPZ := Lib.hid hpz
  have HZO := Lib.hid hzo
  clear hpz hzo
  go_loopg [7] pz (fun gk v wr => ∃ j, j + gk = pz ∧ wr.ownsRow 0 5 1 v (b.length + 1 + j) (bytesV (b ++ 128 :: List.replicate j 0)) ∧ Ext [] w1 wr ∧ ∀ g, v.ownBlock = some g → w1.heap.size ≤ g)
  case atStart => exact ⟨0, by omega, hown3, x23, fr3⟩
  case round =>
    clear hown3 x23 fr3
    obtain ⟨j, hj, hown, x, fr⟩ := hrel
    obtain ⟨va, vc, rfl⟩ := owns_slice hown
    have HJ := Lib.hid hj
    clear hj
    by_cases hg : 0 < gk
    · have hne : ((((b.length + 1 + j : Nat) : Int) % 64) != 56) = true := by
        rw [bne_iff_ne]; have := HJ.out; have := HZO.out; omega
      have hjj : j < 64 := by have := HJ.out; omega
      go_wp2_with (at_builtin; go_must (refine wpList_app _ rfl (.tmp 33) (.tmp 34) 30 rfl 5 i0 (.int .u8 0) 1 1 Tryd.underlying30 hi hz0 hz1 hz2 rfl (by decide) (.slice va (b.length + 1 + j) vc) _ _ rfl (owns_ext hown ((Ext.refl [] wr).alloc (.cells #[.int .u8 0] 5)) (by simp)) (.slice (some ⟨wr.heap.size, 0, none⟩) 1 1) 1 [.int .u8 0] rfl (blk_reads (Blk.new wr 5 #[.int .u8 0]) 1 rfl) (by intro u hu; simp at hu; subst hu; rfl) (by unfold maxLen; omega) (by omega) ?_); intro v4 w4 hown4 hgrow4 hfr4 _)
      go_roundg (gk - 1)
      case measure => omega
      case rel =>
        refine ⟨j + 1, by have := HJ.out; omega, ?_, (x.alloc _).grown hgrow4 (by intro k hk; exact .inr (fr k hk)), ?_⟩
        · rw [List.replicate_succ', ← List.cons_append, ← List.append_assoc, bytesV_append]
          exact hown4
        · intro g hg
          have := x.size
          rcases hfr4 with h | ⟨g', h, hle⟩
          · exact fr g (h ▸ hg)
          · rw [h] at hg; obtain rfl := Option.some.inj hg; simp at hle; omega
    · have hne : ((((b.length + 1 + j : Nat) : Int) % 64) != 56) = false := by
        rw [bne_eq_false_iff_eq]; have := HJ.out; have := HZO.out; omega
      have hjj : j < 64 := by have := HJ.out; omega
      have hjz : j = pz := by have := HJ.out; omega
      have HJZ := Lib.hid hjz
      clear hjz
      go_wp2_with fail
      obtain ⟨pre, hpre⟩ : ∃ pre, pre = b ++ 128 :: List.replicate j 0 := ⟨_, rfl⟩
      rw [← hpre] at hown
      have HPRE := Lib.hid hpre
      clear hpre hne hg
      have hown0 : wr.ownsRow 0 5 1 (.slice va (b.length + 1 + j) vc) (b.length + 1 + j + 0) (bytesV (pre ++ (be8 (8 * b.length)).take 0)) := by simpa using hown
      clear hown
      generalize Value.bool (((b.length : Int) + 1 + (j : Int)) % 64 != 56) = q32
      generalize Value.int IntKind.i64 (((b.length : Int) + 1 + (j : Int)) % 64) = q31
      generalize Value.int IntKind.i64 ((b.length : Int) + 1 + (j : Int)) = q30
      go_loopw [7, 8] (fun v i wr => ∃ k : Nat, k ≤ 8 ∧ i = .int .i64 (7 - (k : Int)) ∧ wr.ownsRow 0 5 1 v (b.length + 1 + j + k) (bytesV (pre ++ (be8 (8 * b.length)).take k)) ∧ Ext [] w1 wr ∧ ∀ g, v.ownBlock = some g → w1.heap.size ≤ g) (fun _ i _ => (1 + intOf i).toNat)
      case atStart => exact ⟨0, by omega, by go_num, hown0, x, fr⟩
      case round =>
        clear hown0 x fr
        obtain ⟨k, hk, rfl, hown, x, fr⟩ := hrel
        obtain ⟨va, vc, rfl⟩ := owns_slice hown
        by_cases hlt : k < 8
        · have hst := be8_take (8 * b.length) k hlt
          have HS := Lib.hid hst
          clear hst
          have hown2 := fun z => owns_ext hown ((Ext.refl [] wr).alloc (.cells #[.int .u8 z] 5)) (by simp)
          go_wp2_with (at_builtin; go_must (refine wpList_app _ rfl (.tmp 40) (.tmp 49) 30 rfl 5 i0 (.int .u8 0) 1 1 Tryd.underlying30 hi hz0 hz1 hz2 rfl (by decide) _ _ _ rfl (hown2 _) _ 1 [.int .u8 (8 * (b.length : Int) / 2 ^ (8 * (7 - k)) % 256)] rfl (blk_reads (Blk.new wr 5 #[.int .u8 (8 * (b.length : Int) / 2 ^ (8 * (7 - k)) % 256)]) 1 rfl) (by intro u hu; simp at hu; subst hu; rfl) (by unfold maxLen; omega) (by omega) ?_); intro v' w1' hown' hgrow hfr' _)
          go_roundw
          case rel =>
            refine ⟨k + 1, by omega, by go_num, ?_, (x.alloc _).grown hgrow fun g hg => .inr (fr g hg), ?_⟩
            · rw [HS.out, ← List.append_assoc, bytesV_append, show bytesV [UInt8.ofNat (8 * b.length / 2 ^ (8 * (7 - k)))] = [.int .u8 (8 * (b.length : Int) / 2 ^ (8 * (7 - k)) % 256)] by
                show [Value.int .u8 _] = _
                rw [byte_val]; simp]
              exact hown'
            · intro g hg
              rcases hfr' with h | ⟨g', h, hle'⟩
              · exact fr g (h ▸ hg)
              · rw [h] at hg; obtain rfl := Option.some.inj hg
                have := x.size
                simp at hle'; omega
          case measure => simp [intOf]; omega
        · go_wp2_with fail
          have hk8 : k = 8 := by omega
          rw [hk8] at hown
          rw [show (be8 (8 * b.length)).take 8 = be8 (8 * b.length) from List.take_of_length_le (by simp [be8])] at hown
          have hpd : pre ++ be8 (8 * b.length) = padded b := by
            unfold padded; rw [HPRE.out, HJZ.out, ← HPZ.out]; first | done | simp
          rw [hpd] at hown
          have hpl : b.length + 1 + j + k = (padded b).length := by rw [hk8, padded_length, HPZ.out, HJZ.out]
          rw [← hk8, hpl] at hown
          rw [hpl]
          generalize Value.int IntKind.i64 (7 - (k : Int)) = q8
          generalize Value.bool (decide ((k : Int) ≤ 7)) = q37
          have hLm := padded_mod b
          have hLle : (padded b).length ≤ 1048700 := by omega
          have hLpos : 0 < (padded b).length := by omega
          clear hpd hpl HPRE HJZ HPZ HZO HJ hk8 hlt hk
          generalize padded b = pd at *
          obtain ⟨mg, mc', cur, he, hmb, hml, hmx, -, htk⟩ := owns_some hown hLpos
          cases he
          have hmlt := hmb.lt
          have hmcell := Lib.hid (fun i (hi : i < pd.length) => (show wr.cell? ⟨mg, i, none⟩ = some (.int .u8 ((pd.getD i 0).toNat : Int)) by
            rw [hown.cellAt i (by omega)]; unfold bytesV; simp [hi]))
          have hmg := fr mg rfl
          have BK6 := BK.ext x (by simp)
          have BH6 := BH.ext x (by simp)
          have BO6 := BO.ext x (by simp)
          obtain ⟨nb, hnb⟩ : ∃ nb, nb = pd.length / 64 := ⟨_, rfl⟩
          have hL64 : pd.length = 64 * nb := by omega
          have HL64 := Lib.hid hL64
          have hnb1 : 64 * nb ≤ 1048700 := by omega
          have hmc2 : vc ≤ 9223372036854775807 := hmx
          rw [← hnb] at HSO
          rw [hL64]
          rename ((((b.length : Int) + 1 + (j : Int)) % 64 != 56) = false) => hne2
          rename (7 < (k : Int)) => h7k
          clear hne2 h7k hz hjj hl
          clear hown hmb htk hnb hL64 hLle hLpos hLm hmx hml fr BK BH BO
          have hx6 := x.size
          obtain ⟨w6, hw6⟩ : ∃ w6, w6 = wr := ⟨_, rfl⟩
          rw [← hw6] at BK6 BH6 BO6 hmcell hmlt x hx6
          rw [← hw6]
          clear hw6
          go_loopw [9] (fun v wr => ∃ (i p : Nat), i ≤ nb ∧ Hid (p = 64 * i) ∧ v = .int .i64 (p : Int) ∧ Blk wr w.heap.size 44 kv ∧ Blk wr (w.heap.size + 1) 45 (V32 (sumTo Ks s0 pd i).list) ∧ Blk wr (w.heap.size + 1 + 1) 22 (bytesV (List.replicate 32 0)) ∧ Ext [w.heap.size + 1] w6 wr) (fun v _ => 64 * nb - (intOf v).toNat)
          case atStart => exact ⟨0, 0, Nat.zero_le _, Lib.hid rfl, rfl, BK6, BH6, BO6, Ext.refl _ _⟩
          case round =>
            clear BK6 BH6 BO6
            obtain ⟨wo, rfl⟩ : ∃ wo : World, wo = wr := ⟨_, rfl⟩
            obtain ⟨i, p, hi', HP, rfl, BK, BH, BO, xr⟩ := hrel
            by_cases hlt : i < nb
            · have hpn : p + 64 ≤ 64 * nb := by have := HP.out; omega
              have hst := Lib.hid (show sumTo Ks s0 pd (i + 1) = addSt (sumTo Ks s0 pd i) (rnds Ks (wordsOf (blockAt pd i)) (sumTo Ks s0 pd i) 64) from rfl)
              have hbc := Lib.hid (fun j (hj : j < 64) => (show wo.cell? ⟨mg, p + j, none⟩ = some (.int .u8 (((blockAt pd i).getD j 0).toNat : Int)) by
                rw [xr.cell (p := ⟨mg, p + j, none⟩) hmlt (by simp; omega), hmcell.out (p + j) (by have := HL64.out; omega), HP.out]
                unfold blockAt
                simp [List.getD, hj]))
              generalize sumTo Ks s0 pd i = st at *
              generalize blockAt pd i = bl at *
              go_upto_region 12 with (fail)
              show Code.wp _ _ _ _ (wo.alloc (.cells (V32 (List.replicate 64 0#32)).toArray 44))
              have BW := Blk.new wo 44 (V32 (List.replicate 64 0#32)).toArray
              have xw : Ext [] wo (wo.alloc (.cells (V32 (List.replicate 64 0#32)).toArray 44)) := (Ext.refl _ _).alloc _
              have hxr := xr.size
              obtain ⟨bw, hbw⟩ : ∃ bw, bw = wo.heap.size := ⟨_, rfl⟩
              have hbw1 : w.heap.size + 3 ≤ bw := by omega
              have hbw2 : mg < bw := by omega
              have HBW := Lib.hid hbw
              rw [← hbw] at BW
              rw [← hbw]
              clear hbw
              generalize wo.alloc (.cells (V32 (List.replicate 64 0#32)).toArray 44) = wq at *
              go_wp2_with fail
              go_loopw [11] (fun v wz => ∃ t : Nat, t ≤ 64 ∧ v = .int .i64 (t : Int) ∧ Blk wz bw 44 (V32 (wref bl t ++ List.replicate (64 - t) 0#32)) ∧ Ext [] wo wz) (fun v _ => 64 - (intOf v).toNat)
              case atStart => exact ⟨0, by omega, rfl, by rw [wref_zero]; exact BW, xw⟩
              case round =>
                clear BW xw
                obtain ⟨wz, rfl⟩ : ∃ wz : World, wz = wr := ⟨_, rfl⟩
                obtain ⟨t, ht, rfl, BW, xw⟩ := hrel
                have hwl : (wref bl t).length = t := (wref_length bl t).resolve_right (by omega)
                have HWL := Lib.hid hwl
                clear hwl
                by_cases hlt2 : t < 64
                · --<A
                  by_cases h16 : t < 16
                  · have hwx := Lib.hid (wref_first bl t h16)
                    generalize wref bl t = W at *
                    go_wp2_with fail
                    generalize Value.bool (decide ((t : Int) < 16)) = q62
                    generalize Value.bool (decide ((t : Int) < 64)) = q58
                    generalize Value.bool (decide ((p : Int) < 64 * (nb : Int))) = q54
                    go_loopw [12] (fun v wy => ∃ i2 : Nat, i2 ≤ 4 ∧ v = .int .i64 (i2 : Int) ∧ Blk wy bw 44 (V32 (W ++ pw bl t i2 :: List.replicate (63 - t) 0#32)) ∧ Ext [] wo wy) (fun v _ => 4 - (intOf v).toNat)
                    case atStart =>
                      refine ⟨0, by omega, rfl, ?_, xw⟩
                      rw [show 64 - t = (63 - t) + 1 by omega, List.replicate_succ] at BW
                      exact BW
                    case round =>
                      clear BW xw
                      obtain ⟨i2, hi2, rfl, BW, xw⟩ := hrel
                      by_cases hlt3 : i2 < 4
                      · have hpw := Lib.hid (show pw bl t (i2 + 1) = (pw bl t i2) <<< 8 ||| BitVec.ofNat 32 (bl.getD (4 * t + i2) 0).toNat from rfl)
                        have hcb := (xw.cell (p := ⟨mg, p + (4 * t + i2), none⟩) (by have := HBW.out; simp; omega) (by simp)).trans (hbc.out (4 * t + i2) (by omega))
                        rw [← Nat.add_assoc] at hcb
                        have hcw : wr.cell? ⟨bw, t, none⟩ = some (.int .u32 ((pw bl t i2).toNat : Int)) := by
                          have := HWL.out
                          rw [BW.cell]; unfold V32
                          rw [List.getElem?_map, List.getElem?_append_right (by omega), show t - W.length = 0 by omega]; rfl
                        have hfw := BW.frozen t
                        generalize pw bl t i2 = pp at *
                        generalize bl.getD (4 * t + i2) 0 = cc at *
                        have hcl := cc.toNat_lt
                        have e1 : IntKind.i64.wrap (4 * (t : Int)) = 4 * (t : Int) := IntWalk.i64_in _ (by omega)
                        have e2 : IntKind.i64.wrap ((p : Int) + 4 * (t : Int)) = (p : Int) + 4 * (t : Int) := IntWalk.i64_in _ (by omega)
                        have e3 : IntKind.i64.wrap ((p : Int) + 4 * (t : Int) + (i2 : Int)) = (p : Int) + 4 * (t : Int) + (i2 : Int) := IntWalk.i64_in _ (by omega)
                        have n3 : ((p : Int) + 4 * (t : Int) + (i2 : Int)).toNat = p + 4 * t + i2 := by omega
                        have p3 : 0 ≤ (p : Int) + 4 * (t : Int) + (i2 : Int) := by omega
                        have q3 : (p : Int) + 4 * (t : Int) + (i2 : Int) < 64 * (nb : Int) := by omega
                        go_wp2_with fail
                        go_still_tail 17, (by kernel_rfl)
                        go_wp2
                        clear e1 e2 e3 n3 p3 q3
                        go_roundw
                        case rel =>
                          refine ⟨i2 + 1, by omega, by go_num, ?_, xw.drew.setCell (.inr (by have := HBW.out; simp; omega)) _⟩
                          go_light
                          rw [bv_word, hpw.out]
                          have hl := HWL.out
                          have := BW.drew.set t (.int .u32 ((pp <<< 8 ||| BitVec.ofNat 32 cc.toNat).toNat : Int))
                          rw [V32_set, List.set_append_right _ _ (by omega), show t - W.length = 0 by omega, List.set_cons_zero] at this
                          exact this
                        case measure => simp [intOf]; omega
                      · have hi4 : i2 = 4 := by omega
                        rw [hi4] at BW
                        clear hi4
                        go_wp2_with fail
                        go_roundw
                        case rel =>
                          refine ⟨t + 1, by omega, by go_num, ?_, xw⟩
                          rw [hwx.out, List.append_assoc, show 64 - (t + 1) = 63 - t by omega]
                          exact BW
                        case measure => simp [intOf]; omega
                  · have hwx := Lib.hid (wref_rest bl t (by omega))
                    generalize wref bl t = W at *
                    have cells : ∀ d, 1 ≤ d → d ≤ 16 → wz.cell? ⟨bw, t - d, none⟩ = some (.int .u32 ((W.getD (W.length - d) 0#32).toNat : Int)) := by
                      intro d h1 h2
                      have hl := HWL.out
                      rw [BW.cell]
                      unfold V32
                      rw [List.getElem?_map, List.getElem?_append_left (by omega), hl]
                      simp [show t - d < W.length by omega]
                    have c15 := cells 15 (by omega) (by omega)
                    have c2 := cells 2 (by omega) (by omega)
                    have c7 := cells 7 (by omega) (by omega)
                    have c16 := cells 16 (by omega) (by omega)
                    clear cells
                    have ct : wz.cell? ⟨bw, t, none⟩ = some (.int .u32 0) := by
                      have hl := HWL.out
                      rw [BW.cell]
                      unfold V32
                      rw [List.getElem?_map, List.getElem?_append_right (by omega), hl, List.getElem?_replicate, if_pos (by omega)]; rfl
                    have hf := BW.frozen t
                    obtain ⟨x15, h15⟩ : ∃ y, y = W.getD (W.length - 15) 0#32 := ⟨_, rfl⟩
                    rw [← h15] at c15
                    have H15 := Lib.hid h15
                    clear h15
                    obtain ⟨x2, h2⟩ : ∃ y, y = W.getD (W.length - 2) 0#32 := ⟨_, rfl⟩
                    rw [← h2] at c2
                    have H2 := Lib.hid h2
                    clear h2
                    obtain ⟨x7, h7⟩ : ∃ y, y = W.getD (W.length - 7) 0#32 := ⟨_, rfl⟩
                    rw [← h7] at c7
                    have H7 := Lib.hid h7
                    clear h7
                    obtain ⟨x16, h16'⟩ : ∃ y, y = W.getD (W.length - 16) 0#32 := ⟨_, rfl⟩
                    rw [← h16'] at c16
                    have H16 := Lib.hid h16'
                    clear h16'
                    go_wp2_with fail
                    go_quiet (fail)
                    rename_i nq
                    go_wp2_with fail
                    have BWq := BW.drewN nq
                    have xwq := xw.drewN nq
                    have c7q : (wz.drewN nq).cell? ⟨bw, t - 7, none⟩ = some (.int .u32 (x7.toNat : Int)) := c7
                    have c16q : (wz.drewN nq).cell? ⟨bw, t - 16, none⟩ = some (.int .u32 (x16.toNat : Int)) := c16
                    have ctq : (wz.drewN nq).cell? ⟨bw, t, none⟩ = some (.int .u32 0) := ct
                    have hfq : (wz.drewN nq).frozen? ⟨bw, t, none⟩ = false := hf
                    clear c15 c2 c7 c16 ct hf
                    generalize wz.drewN nq = wq at *
                    have e7 : IntKind.i64.wrap ((t : Int) - 7) = (t : Int) - 7 := IntWalk.i64_in _ (by omega)
                    have e16 : IntKind.i64.wrap ((t : Int) - 16) = (t : Int) - 16 := IntWalk.i64_in _ (by omega)
                    have n7 : ((t : Int) - 7).toNat = t - 7 := by omega
                    have n16 : ((t : Int) - 16).toNat = t - 16 := by omega
                    have p7 : 0 ≤ (t : Int) - 7 := by omega
                    have p16 : 0 ≤ (t : Int) - 16 := by omega
                    have q7 : (t : Int) - 7 < 64 := by omega
                    have q16 : (t : Int) - 16 < 64 := by omega
                    have pt : 0 ≤ (t : Int) := by omega
                    have p7' : 7 ≤ (t : Int) := by omega
                    have p16' : 16 ≤ (t : Int) := by omega
                    have ne7 : ¬ t - 7 = t := by omega
                    have ne16 : ¬ t - 16 = t := by omega
                    have ne7' : ¬ t = t - 7 := by omega
                    have ne16' : ¬ t = t - 16 := by omega
                    have qt : (t : Int) < 64 := by omega
                    go_region_held3 (fun w' => w'.cell? ⟨bw, t - 7, none⟩ = some (.int .u32 (x7.toNat : Int)) ∧ w'.cell? ⟨bw, t - 16, none⟩ = some (.int .u32 (x16.toNat : Int))) (first | go_keep | exact ⟨(World.cell?_setCell_other _ _ _ _ (by first | (simp; done) | (simp; omega))).trans c7q, (World.cell?_setCell_other _ _ _ _ (by first | (simp; done) | (simp; omega))).trans c16q⟩)
                      ((go_at_call 50; refine (turn_q _ _ _ (by omega) (by omega)).mono ?_; rintro e w' ⟨rfl, mm, rfl⟩))
                    clear e7 e16 n7 n16 p7 p16 q7 q16 pt qt p7' p16' ne7 ne16 ne7' ne16'
                    go_wp2_with fail
                    go_roundw
                    case rel =>
                      go_light
                      refine ⟨t + 1, by omega, by go_num, ?_, ?_⟩
                      · rw [ssig0_val, ssig1_val, bv_add', bv_add', bv_add', hwx.out, show ssig1 x2 + x7 + ssig0 x15 + x16 = sched W by rw [H15.out, H2.out, H7.out, H16.out]; rfl]
                        have hl := HWL.out
                        have key : ∀ wn, Blk wn bw 44 (V32 (W ++ List.replicate (64 - t) 0#32)) → Blk (wn.setCell ⟨bw, t, none⟩ (.int .u32 ((sched W).toNat : Int))) bw 44 (V32 (W ++ [sched W] ++ List.replicate (64 - (t + 1)) 0#32)) := by
                          intro wn h
                          have := h.set t (.int .u32 ((sched W).toNat : Int))
                          rw [V32_set, List.set_append_right _ _ (by omega), show 64 - t = (64 - (t + 1)) + 1 by omega, List.replicate_succ, show t - W.length = 0 by omega, List.set_cons_zero] at this
                          rw [List.append_assoc]
                          exact this
                        exact key _ BWq
                      · have key : ∀ wn u, Ext [] wo wn → Ext [] wo (wn.setCell ⟨bw, t, none⟩ u) := fun wn u h => h.setCell (.inr (by have := HBW.out; simp; omega)) _
                        exact key _ _ (xwq.drewN _)
                    case measure => simp [intOf]; omega
                  --A>
                · have ht64 : t = 64 := by omega
                  rw [ht64] at BW
                  clear ht64
                  rw [show 64 - 64 = 0 from rfl, List.replicate_zero, List.append_nil, wref_all] at BW
                  have BK1 := BK.ext xw (by simp)
                  have BH1 := BH.ext xw (by simp)
                  have BO1 := BO.ext xw (by simp)
                  have c0 := BH1.cell 0
                  have c1 := BH1.cell 1
                  have c2 := BH1.cell 2
                  have c3 := BH1.cell 3
                  have c4 := BH1.cell 4
                  have c5 := BH1.cell 5
                  have c6 := BH1.cell 6
                  have c7 := BH1.cell 7
                  simp only [V32, St.list, List.map_cons, List.map_nil, List.getElem?_cons_zero, List.getElem?_cons_succ] at c0 c1 c2 c3 c4 c5 c6 c7
                  go_upto_region 23 with (fail)
                  show Code.wp _ _ _ _ (wz.alloc (.cells (V32 st.list).toArray 45))
                  clear c0 c1 c2 c3 c4 c5 c6 c7
                  have hxw := xw.size
                  have BV := Blk.new wz 45 (V32 st.list).toArray
                  have xv : Ext [] wz (wz.alloc (.cells (V32 st.list).toArray 45)) := (Ext.refl _ _).alloc _
                  obtain ⟨bv, hbv⟩ : ∃ bv, bv = wz.heap.size := ⟨_, rfl⟩
                  have hbwlt := BW.lt
                  have hbv1 : bw < bv := by omega
                  have HBV := Lib.hid hbv
                  rw [← hbv] at BV
                  rw [← hbv]
                  clear hbv hbwlt
                  generalize wz.alloc (.cells (V32 st.list).toArray 45) = wv at *
                  go_wp2_with fail
                  generalize Value.bool (decide ((t : Int) < 64)) = q58
                  go_loopw [16] (fun v wr => ∃ t : Nat, t ≤ 64 ∧ v = .int .i64 (t : Int) ∧ Blk wr bv 45 (V32 (rnds Ks (wordsOf bl) st t).list) ∧ Ext [] wz wr) (fun v _ => 64 - (intOf v).toNat)
                  case atStart => exact ⟨0, by omega, rfl, BV, xv⟩
                  case round =>
                    clear BV xv
                    obtain ⟨tt, htt, rfl, BV, xv⟩ := hrel
                    have hWl : (wordsOf bl).length = 64 := by unfold wordsOf; rw [wext_length]; simp [wpart_length]
                    have hR := Lib.hid (show rnds Ks (wordsOf bl) st (tt + 1) = rnd (rnds Ks (wordsOf bl) st tt) (Ks.getD tt 0#32) ((wordsOf bl).getD tt 0#32) from rfl)
                    by_cases hltt : tt < 64
                    · --<B
                      have hkc : wr.cell? ⟨w.heap.size, tt, none⟩ = some (.int .u32 ((Ks.getD tt 0#32).toNat : Int)) := by
                        rw [(BK1.ext xv (by simp)).cell tt, HKV.out]
                        exact V32_at Ks tt hltt
                      have hwc : wr.cell? ⟨bw, tt, none⟩ = some (.int .u32 (((wordsOf bl).getD tt 0#32).toNat : Int)) := by
                        rw [(BW.ext xv (by simp)).cell tt]
                        exact V32_at _ tt (by omega)
                      have c0 := BV.cell 0
                      have c1 := BV.cell 1
                      have c2 := BV.cell 2
                      have c3 := BV.cell 3
                      have c4 := BV.cell 4
                      have c5 := BV.cell 5
                      have c6 := BV.cell 6
                      have c7 := BV.cell 7
                      simp only [V32, St.list, List.map_cons, List.map_nil, List.getElem?_cons_zero, List.getElem?_cons_succ] at c0 c1 c2 c3 c4 c5 c6 c7
                      obtain ⟨kk, hkk⟩ : ∃ y, y = Ks.getD tt 0#32 := ⟨_, rfl⟩
                      obtain ⟨ww, hww⟩ : ∃ y, y = (wordsOf bl).getD tt 0#32 := ⟨_, rfl⟩
                      rw [← hkk] at hkc
                      rw [← hww] at hwc
                      have HKK := Lib.hid hkk
                      have HWW := Lib.hid hww
                      clear hkk hww hWl
                      generalize rnds Ks (wordsOf bl) st tt = s at *
                      obtain ⟨a, b', c', d, ee, f, g, hh⟩ := s
                      dsimp only at c0 c1 c2 c3 c4 c5 c6 c7
                      have f0 := BV.frozen 0
                      have f1 := BV.frozen 1
                      have f2 := BV.frozen 2
                      have f3 := BV.frozen 3
                      have f4 := BV.frozen 4
                      have f5 := BV.frozen 5
                      have f6 := BV.frozen 6
                      have f7 := BV.frozen 7
                      go_wp2_with fail
                      go_quiet (fail)
                      rename Nat => n1
                      go_wp2_with fail
                      go_quiet ((go_at_call 50; first | exact Calls.quiet_of (turn_q _ _ _ (by omega) (by omega)) | exact quiet_add (turn_q _ _ _ (by omega) (by omega))))
                      rename Nat => n2
                      go_wp2_with fail
                      go_quiet ((go_at_call 50; first | exact Calls.quiet_of (turn_q _ _ _ (by omega) (by omega)) | exact quiet_add (turn_q _ _ _ (by omega) (by omega))))
                      rename Nat => n3
                      go_wp2_with fail
                      clear c0 c1 c2 c3 c4 c5 c6 c7 f0 f1 f2 f3 f4 f5 f6 f7 hkc hwc
                      go_roundw
                      case rel =>
                        go_light
                        refine ⟨tt + 1, by omega, by go_num, ?_, ?_⟩
                        · have hX := one_val' a b' c' d ee f g hh kk ww
                          have hY := two_val a b' c' d ee f g hh
                          rw [hR.out, ← HKK.out, ← HWW.out]
                          have e0 : ∀ X Y : Int, X % 4294967296 = ((one ⟨a, b', c', d, ee, f, g, hh⟩ kk ww).toNat : Int) → Y % 4294967296 = ((two ⟨a, b', c', d, ee, f, g, hh⟩).toNat : Int) → (X + Y) % 4294967296 = ((one ⟨a, b', c', d, ee, f, g, hh⟩ kk ww + two ⟨a, b', c', d, ee, f, g, hh⟩).toNat : Int) := by
                            intro X Y h1 h2; rw [BitVec.toNat_add]; omega
                          have e4 : ∀ X : Int, X % 4294967296 = ((one ⟨a, b', c', d, ee, f, g, hh⟩ kk ww).toNat : Int) → ((d.toNat : Int) + X) % 4294967296 = ((d + one ⟨a, b', c', d, ee, f, g, hh⟩ kk ww).toNat : Int) := by
                            intro X h1; rw [BitVec.toNat_add]; omega
                          rw [e0 _ _ hX hY, e4 _ hX]
                          have key : ∀ wn, Blk wn bv 45 (V32 (St.list ⟨a, b', c', d, ee, f, g, hh⟩)) → ∀ z0 z4 : BitVec 32, Blk ((((((((wn.setCell ⟨bv, 0, none⟩ (.int .u32 (z0.toNat : Int))).setCell ⟨bv, 1, none⟩ (.int .u32 (a.toNat : Int))).setCell ⟨bv, 2, none⟩ (.int .u32 (b'.toNat : Int))).setCell ⟨bv, 3, none⟩ (.int .u32 (c'.toNat : Int))).setCell ⟨bv, 4, none⟩ (.int .u32 (z4.toNat : Int))).setCell ⟨bv, 5, none⟩ (.int .u32 (ee.toNat : Int))).setCell ⟨bv, 6, none⟩ (.int .u32 (f.toNat : Int))).setCell ⟨bv, 7, none⟩ (.int .u32 (g.toNat : Int))) bv 45 (V32 (St.list ⟨z0, a, b', c', z4, ee, f, g⟩)) := fun wn h z0 z4 => ((((((((h.set 0 _).set 1 _).set 2 _).set 3 _).set 4 _).set 5 _).set 6 _).set 7 _)
                          exact key _ (BV.drewN _) _ _
                        · have q : ∀ {wn : World}, Ext [] wz wn → ∀ (i : Nat) (u : Value), Ext [] wz (wn.setCell ⟨bv, i, none⟩ u) := fun h i u => h.setCell (.inr (by have := HBV.out; simp; omega)) u
                          exact q (q (q (q (q (q (q (q (xv.drewN _) _ _) _ _) _ _) _ _) _ _) _ _) _ _) _ _
                      case measure => simp [intOf]; omega
                      --B>
                    · have ht64 : tt = 64 := by omega
                      have hend := Lib.hid (show rnds Ks (wordsOf bl) st tt = rnds Ks (wordsOf bl) st 64 by rw [ht64])
                      go_wp2_with fail
                      clear ht64
                      rw [hend.out] at BV
                      have BH2 := BH1.ext xv (by simp)
                      have BO2 := Lib.hid (BO1.ext xv (by simp))
                      have BK2 := Lib.hid (BK1.ext xv (by simp))
                      have hwx := Lib.hid (xw.trans xv)
                      generalize rnds Ks (wordsOf bl) st 64 = vv at *
                      clear BK1 BH1 BO1 BW hend hR hWl
                      generalize Value.bool (decide ((tt : Int) < 64)) = q123
                      obtain ⟨wa, rfl⟩ : ∃ wa : World, wa = wr := ⟨_, rfl⟩
                      go_loopw [21] (fun x wq => ∃ k : Nat, k ≤ 8 ∧ x = .int .i64 (k : Int) ∧ Blk wq (w.heap.size + 1) 45 (V32 (addTo st.list vv.list k)) ∧ Blk wq bv 45 (V32 vv.list) ∧ Ext [w.heap.size + 1] wa wq) (fun x _ => 8 - (intOf x).toNat)
                      case atStart => exact ⟨0, Nat.zero_le _, rfl, by rw [addTo_zero]; exact BH2, BV, Ext.refl _ _⟩
                      case round =>
                        clear BH2 BV
                        obtain ⟨k2, hk2, rfl, HS, H, xa⟩ := hrel
                        by_cases hlt8 : k2 < 8
                        · --<C0
                          have s1 := HS.cell k2
                          have v1 := H.cell k2
                          have fs := HS.frozen k2
                          have es : (V32 (addTo st.list vv.list k2))[k2]? = some (.int .u32 ((st.list.getD k2 0#32).toNat : Int)) := by
                            unfold V32; rw [List.getElem?_map, addTo_get _ _ _ _ hlt8, if_neg (by omega)]; rfl
                          have ev : (V32 vv.list)[k2]? = some (.int .u32 ((vv.list.getD k2 0#32).toNat : Int)) := by
                            unfold V32; rw [List.getElem?_map]
                            simp [show k2 < vv.list.length from hlt8]
                          rw [es] at s1
                          rw [ev] at v1
                          have hst2 := Lib.hid (addTo_succ st.list vv.list k2 hlt8)
                          clear es ev
                          generalize st.list.getD k2 0#32 = pq at *
                          generalize vv.list.getD k2 0#32 = qq at *
                          have hneb : w.heap.size + 1 ≠ bv := by omega
                          go_wp2_with fail
                          go_region
                          go_wp2_with fail
                          go_roundw
                          case rel =>
                            refine ⟨k2 + 1, by omega, by go_num, ?_, ?_, ?_⟩
                            · go_light
                              rw [bv_add']
                              have := HS.drew.set k2 (.int .u32 ((pq + qq).toNat : Int))
                              rw [V32_set, hst2.out] at this
                              exact this
                            · exact H.drew.setOther (by simp; omega) _
                            · exact xa.drew.setCell (.inl (by simp)) _
                          case measure => simp [intOf]; omega
                          --C0>
                        · have hk' : k2 = 8 := by omega
                          rw [hk', addTo_all] at HS
                          clear hk'
                          clear hltt htt ht hlt2
                          go_wp2_with fail
                          go_roundw
                          case rel =>
                            refine ⟨i + 1, p + 64, by omega, Lib.hid (by have := HP.out; omega), by go_num, ?_, ?_, ?_, ?_⟩
                            · exact BK2.out.ext xa (by simp)
                            · rw [hst.out]; exact HS
                            · exact BO2.out.ext xa (by simp)
                            · exact xr.trans ((hwx.out.sub (by simp)).trans xa)
                          case measure => simp [intOf]; omega
            · have hi2 : i = nb := by omega
              rw [hi2] at BH
              clear hi2
              have HS2 := HSO.out
              generalize sumTo Ks s0 pd nb = sf at *
              have HSF := Lib.hid HS2
              clear HS2 HSO
              have hpx : 64 * nb ≤ p := by have := HP.out; omega
              go_upto_block 14 with (fail)
              show Code.wp _ _ _ _ (wo.alloc (.cells (bytesV (List.replicate 32 0)).toArray 22))
              have BO2 := Blk.new wo 22 (bytesV (List.replicate 32 0)).toArray
              have BR2 := BO.alloc (.cells (bytesV (List.replicate 32 0)).toArray 22)
              have BSt := BH.alloc (.cells (bytesV (List.replicate 32 0)).toArray 22)
              have xo : Ext [w.heap.size + 1] w6 (wo.alloc (.cells (bytesV (List.replicate 32 0)).toArray 22)) := xr.alloc _
              have hszr := xr.size
              obtain ⟨bo, hbo⟩ : ∃ bo, bo = wo.heap.size := ⟨_, rfl⟩
              rw [← hbo] at BO2 hszr
              rw [← hbo]
              clear BO BH xr hbo hi' BK hlt
              generalize wo.alloc (.cells (bytesV (List.replicate 32 0)).toArray 22) = w8 at *
              go_wp2_with fail
              go_loopw [23] (fun x wq => ∃ k : Nat, k ≤ 32 ∧ x = .int .i64 (k : Int) ∧ Blk wq bo 22 (bytesV (outTo sf k)) ∧ Blk wq (w.heap.size + 1) 45 (V32 sf.list) ∧ Blk wq (w.heap.size + 1 + 1) 22 (bytesV (List.replicate 32 0)) ∧ Ext [w.heap.size + 1] w6 wq) (fun x _ => 32 - (intOf x).toNat)
              case atStart => exact ⟨0, Nat.zero_le _, rfl, by rw [outTo_zero]; exact BO2, BSt, BR2, xo⟩
              case round =>
                clear BO2 BSt BR2 xo
                obtain ⟨k, hk, rfl, BO, BSt, BR2, xo⟩ := hrel
                have hneb1 : bo ≠ w.heap.size + 1 := by omega
                by_cases hk32 : k < 32
                · have s1 := BSt.cell (k / 4)
                  have es : (V32 sf.list)[k / 4]? = some (.int .u32 ((sf.list.getD (k / 4) 0#32).toNat : Int)) := by
                    unfold V32; rw [List.getElem?_map]
                    simp [show k / 4 < sf.list.length from by show k / 4 < 8; omega]
                  rw [es] at s1
                  have ho := BO.cell k
                  have eo : (bytesV (outTo sf k))[k]? = some (.int .u8 (((outTo sf k).getD k 0).toNat : Int)) := by
                    unfold bytesV; rw [List.getElem?_map]
                    simp [show k < (outTo sf k).length by rw [outTo_length _ _ hk]; exact hk32]
                  rw [eo] at ho
                  have fo := BO.frozen k
                  have hst := Lib.hid (outTo_succ sf k hk32)
                  clear es eo
                  generalize sf.list.getD (k / 4) 0#32 = xw at *
                  generalize (outTo sf k).getD k 0 = xo' at *
                  go_wp2_with fail
                  go_roundw
                  case rel =>
                    refine ⟨k + 1, by omega, by go_num, ?_, BSt.setOther (by simp; omega) _, BR2.setOther (by simp; omega) _, xo.setCell (.inr (by simp; omega)) _⟩
                    have BOs := BO.set k (.int .u8 (((UInt8.ofNat (xw.toNat / 2 ^ (24 - 8 * (k % 4)))).toNat : Nat) : Int))
                    rw [bytesV_set, hst.out, byte_val] at BOs
                    go_light
                    push_cast at BOs
                    exact BOs
                  case measure => simp [intOf]; omega
                · have hk' : k = 32 := by omega
                  rw [hk', outTo_all] at BO
                  clear hk'
                  have hOl : (bytesV (outBytes sf)).length = 32 := by rw [bytesV_length, outBytes_length]
                  have hob : ∀ u ∈ bytesV (outBytes sf), u.oneCell' = true := bytesV_one _
                  go_upto_region 39 with (fail)
                  apply wp_region_lit
                  generalize hov : bytesV (outBytes sf) = ov at *
                  refine wpList_ldpart rfl 22 (.tmp 22) rfl bo 0 rfl ov _ BO.part Tryd.underlying22 rfl (by rw [hOl]; kernel_rfl) ?_
                  refine wpList_strow rfl 22 (.tmp 6) (.tmp 231) rfl (w.heap.size + 1 + 1) 0 rfl 22 _ ov rfl BR2 (by rw [hOl]; simp [bytesV]) hob (by rw [hOl]; kernel_rfl) ?_
                  intro w9 H9 x9 _
                  have e9 : (bytesV (List.replicate 32 0)).take 0 ++ ov ++ (bytesV (List.replicate 32 0)).drop (0 + ov.length) = ov := by
                    rw [hOl, List.take_zero, List.nil_append, List.drop_of_length_le (by simp [bytesV]), List.append_nil]
                  rw [e9] at H9
                  go_wp2_with fail
                  refine bodyPost_ret (results_blk Tryd.results48 _ _ (w.heap.size + 1 + 1) 22 ov _ rfl H9 Tryd.underlying22 rfl (by rw [hOl]; kernel_rfl)) rfl ?_
                  have hv2 := HSF.out
                  refine ⟨by rw [hv2, ← hov], ((x1.trans x).trans' xo (by simp)).trans' x9 (by simp; omega)⟩
end Go.Proofs.YtgcbgeombbohpaaDoor
