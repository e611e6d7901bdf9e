/- Package digest: Sum. -/
import Derived.Test.YtbjkfgfiifnjoaaDoorWork
import Derived.Deep.CutBlock
namespace Go.Proofs.YtbjkfgfiifnjoaaDoor
open Go.RowKit
set_option maxRecDepth 100000

/-- How many noughts are laid behind the bit. -/
def padN (n : Nat) : Nat := (119 - n % 64) % 64
theorem padN_lt (n : Nat) : padN n < 64 := Nat.mod_lt _ (by omega)
theorem padN_ok (n : Nat) : (n + 1 + padN n) % 64 = 56 := by unfold padN; omega

def padded (b : List UInt8) : List UInt8 := b ++ 128 :: List.replicate (padN b.length) 0 ++ be8 (8 * b.length)
theorem be8_length (n : Nat) : (be8 n).length = 8 := by simp [be8]
theorem padded_length (b : List UInt8) : (padded b).length = b.length + 1 + padN b.length + 8 := by simp [padded, be8_length]; omega
theorem padded_mod (b : List UInt8) : (padded b).length % 64 = 0 := by
  have := padN_ok b.length
  rw [padded_length]; omega

def blockAt (p : List UInt8) (i : Nat) : List UInt8 := (p.drop (64 * i)).take 64

/-- The sum behind i blocks. -/
def sumTo (ks : List (BitVec 32)) (s0 : St) (p : List UInt8) : Nat → St
  | 0 => s0
  | i + 1 => workOf ks (sumTo ks s0 p i) (blockAt p i)

def outBytes (s : St) : List UInt8 := (List.range 32).map fun i => UInt8.ofNat ((s.list.getD (i / 4) 0#32).toNat / 2 ^ (24 - 8 * (i % 4)))

/-- The sum of bytes. -/
def sumOf (b : List UInt8) : List UInt8 := outBytes (sumTo Ks begin0 (padded b) ((padded b).length / 64))

theorem outBytes_length (s : St) : (outBytes s).length = 32 := by simp [outBytes]
theorem sumOf_length (b : List UInt8) : (sumOf b).length = 32 := outBytes_length _

def outTo (s : St) (i : Nat) : List UInt8 := (outBytes s).take i ++ List.replicate (32 - i) 0
theorem outTo_zero (s : St) : outTo s 0 = List.replicate 32 0 := by unfold outTo; rw [List.take_zero, List.nil_append]
theorem outTo_all (s : St) : outTo s 32 = outBytes s := by
  unfold outTo
  rw [List.take_of_length_le (by rw [outBytes_length]; omega)]; exact List.append_nil _
theorem outTo_length (s : St) (i : Nat) (hi : i ≤ 32) : (outTo s i).length = 32 := by simp [outTo, outBytes_length]; omega
theorem outTo_succ (s : St) (i : Nat) (hi : i < 32) : (outTo s i).set i (UInt8.ofNat ((s.list.getD (i / 4) 0#32).toNat / 2 ^ (24 - 8 * (i % 4)))) = outTo s (i + 1) := by
  unfold outTo
  have hl : ((outBytes s).take i).length = i := by rw [List.length_take, outBytes_length]; omega
  rw [List.set_append_right _ _ (by omega), hl, Nat.sub_self, show 32 - i = (32 - (i + 1)) + 1 by omega, List.replicate_succ, List.set_cons_zero,
    List.take_succ_eq_append_getElem (by rw [outBytes_length]; omega), List.append_assoc]
  simp [outBytes]

theorem bytesV_set (l : List UInt8) (i : Nat) (x : UInt8) : (bytesV l).set i (.int .u8 (x.toNat : Int)) = bytesV (l.set i x) := by
  unfold bytesV
  rw [← List.map_set (f := fun b : UInt8 => Value.int .u8 (b.toNat : Int))]

theorem own_fresh {w w1 w2 : World} {v v' : Value} {row : Option Nat} (x : Ext [] w w1) (hfr : ∀ g, v.ownBlock = some g → w.heap.size ≤ g) (_hg : w1.grownBy w2 row) (h : v'.ownBlock = v.ownBlock ∨ ∃ g, v'.ownBlock = some g ∧ w1.heap.size ≤ g) :
    ∀ g, v'.ownBlock = some g → w.heap.size ≤ g := by
  intro g hg'
  have := x.size
  rcases h with h | ⟨g', h, hle⟩
  · exact hfr g (h ▸ hg')
  · rw [h] at hg'; obtain rfl := Option.some.inj hg'; omega

def lenOf : Value → Nat | .slice _ n _ => n | _ => 0

set_option maxHeartbeats 4000000 in
set_option maxRecDepth 100000 in
theorem sum_any (v : Value) (b : List UInt8) (w : World) (G : DigG w) (hr : Reads w v 1 b.length (bytesV b)) (hl : b.length ≤ 1048576) :
    Calls Tryd.prog 46 #[v] w fun e w' => e = .returned (.agg (bytesV (sumOf b)).toArray) ∧ Ext [] w w' := by
  obtain ⟨i0, hi, hz0, hz1, hz2⟩ := info_parts info_byte
  obtain ⟨ao, c, rfl, hvl, hnone, hcells⟩ := hr
  have HR : ∀ w', Ext [] w w' → Reads w' (.slice ao b.length c) 1 b.length (bytesV b) := by
    intro w' x
    refine ⟨ao, c, rfl, hvl, hnone, fun ad had j u hu => ?_⟩
    have h := hcells ad had j u hu
    rw [x.cell (World.block_lt_of_cell? w _ h) (by simp)]; exact h
  have HRR := Lib.hid HR
  clear HR hcells hvl hnone
  have g1 := G.lt1
  have g2 := G.lt2
  go_enter Tryd.func46, Tryd.ntmps46
  go_upto_region 1 with (fail)
  show Code.wp _ _ _ _ (w.alloc (.cells (bytesV (List.replicate 32 0)).toArray 36))
  have B1 := Blk.new w 36 (bytesV (List.replicate 32 0)).toArray
  have x1 : Ext [] w (w.alloc (.cells (bytesV (List.replicate 32 0)).toArray 36)) := (Ext.refl _ _).alloc _
  generalize w.alloc (.cells (bytesV (List.replicate 32 0)).toArray 36) = w1 at *
  go_upto_region 2 with (at_builtin; go_must (refine wpList_app _ rfl (.tmp 7) (.tmp 8) 39 rfl 5 i0 (.int .u8 0) 1 1 Tryd.underlying39 hi hz0 hz1 hz2 rfl (by decide) (.slice (some ⟨w1.heap.size, 0, none⟩) 0 0) 0 [] rfl ((Blk.new w1 5 #[]).owns rfl (Nat.zero_le _)) (.slice ao b.length c) b.length (bytesV b) rfl (HRR.out _ (x1.alloc _)) (bytesV_one b) (by unfold maxLen; omega) (by omega) ?_); intro v2 w2 hown2 hgrow2 hfr2 _)
  have x12 : Ext [] w1 w2 := ((Ext.refl [] w1).alloc _).grown hgrow2 (by intro k hk; simp [Value.ownBlock] at hk; exact .inr (by omega))
  have fr2 : ∀ g, v2.ownBlock = some g → w1.heap.size ≤ g := by
    intro g hg
    rcases hfr2 with h | ⟨g', h, hle⟩
    · rw [h] at hg; simp [Value.ownBlock] at hg; omega
    · rw [h] at hg; obtain rfl := Option.some.inj hg; simp at hle; omega
  have hw1 := B1.lt
  simp only [Nat.zero_add, List.nil_append] at hown2
  clear hgrow2 hfr2
  go_wp2_with (at_builtin; go_must (refine wpList_app _ rfl (.tmp 10) (.tmp 11) 39 rfl 5 i0 (.int .u8 0) 1 1 Tryd.underlying39 hi hz0 hz1 hz2 rfl (by decide) v2 _ _ rfl (owns_ext hown2 ((Ext.refl [] w2).alloc (.cells #[.int .u8 128] 5)) (by simp)) (.slice (some ⟨w2.heap.size, 0, none⟩) 1 1) 1 [.int .u8 128] rfl (blk_reads (Blk.new w2 5 #[.int .u8 128]) 1 rfl) (by intro u hu; simp at hu; subst hu; rfl) (by unfold maxLen; omega) (by omega) ?_); intro v3 w3 hown3 hgrow3 hfr3 _)
  have x23 : Ext [] w1 w3 := (x12.alloc _).grown hgrow3 (by intro k hk; exact .inr (fr2 k hk))
  have fr3 : ∀ g, v3.ownBlock = some g → w1.heap.size ≤ g := by
    intro g hg
    have := x12.size
    rcases hfr3 with h | ⟨g', h, hle⟩
    · exact fr2 g (h ▸ hg)
    · rw [h] at hg; obtain rfl := Option.some.inj hg; simp at hle; omega
  have hz := padN_lt b.length
  have hzo := padN_ok b.length
  have e3 : bytesV b ++ [Value.int .u8 128] = bytesV (b ++ 128 :: List.replicate 0 0) := by rw [bytesV_append]; rfl
  rw [e3] at hown3
  clear hgrow3 hfr3 hown2 fr2 e3 x12
  generalize hpz : padN b.length = pz at *
  have HPZ := Lib.hid hpz
  have HZO := Lib.hid hzo
  clear hpz hzo
  go_loopg [3] pz (fun gk v wr => ∃ j, j + gk = pz ∧ wr.ownsRow 0 5 1 v (b.length + 1 + j) (bytesV (b ++ 128 :: List.replicate j 0)) ∧ Ext [] w1 wr ∧ ∀ g, v.ownBlock = some g → w1.heap.size ≤ g)
  case atStart => exact ⟨0, by omega, hown3, x23, fr3⟩
  case round =>
    clear hown3 x23 fr3
    obtain ⟨j, hj, hown, x, fr⟩ := hrel
    obtain ⟨va, vc, rfl⟩ := owns_slice hown
    have HJ := Lib.hid hj
    clear hj
    by_cases hg : 0 < gk
    · have hne : ((((b.length + 1 + j : Nat) : Int) % 64) != 56) = true := by
        rw [bne_iff_ne]; have := HJ.out; have := HZO.out; omega
      have hjj : j < 64 := by have := HJ.out; omega
      go_wp2_with (at_builtin; go_must (refine wpList_app _ rfl (.tmp 17) (.tmp 18) 39 rfl 5 i0 (.int .u8 0) 1 1 Tryd.underlying39 hi hz0 hz1 hz2 rfl (by decide) (.slice va (b.length + 1 + j) vc) _ _ rfl (owns_ext hown ((Ext.refl [] wr).alloc (.cells #[.int .u8 0] 5)) (by simp)) (.slice (some ⟨wr.heap.size, 0, none⟩) 1 1) 1 [.int .u8 0] rfl (blk_reads (Blk.new wr 5 #[.int .u8 0]) 1 rfl) (by intro u hu; simp at hu; subst hu; rfl) (by unfold maxLen; omega) (by omega) ?_); intro v4 w4 hown4 hgrow4 hfr4 _)
      go_roundg (gk - 1)
      case measure => omega
      case rel =>
        refine ⟨j + 1, by have := HJ.out; omega, ?_, (x.alloc _).grown hgrow4 (by intro k hk; exact .inr (fr k hk)), ?_⟩
        · rw [List.replicate_succ', ← List.cons_append, ← List.append_assoc, bytesV_append]
          exact hown4
        · intro g hg
          have := x.size
          rcases hfr4 with h | ⟨g', h, hle⟩
          · exact fr g (h ▸ hg)
          · rw [h] at hg; obtain rfl := Option.some.inj hg; simp at hle; omega
    · have hne : ((((b.length + 1 + j : Nat) : Int) % 64) != 56) = false := by
        rw [bne_eq_false_iff_eq]; have := HJ.out; have := HZO.out; omega
      have hjj : j < 64 := by have := HJ.out; omega
      go_wp2_with fail
      rw [show 8 * (b.length : Int) = ((8 * b.length : Nat) : Int) by omega]
      refine (length_any (8 * b.length) wr).mono ?_
      rintro e w5 ⟨v5, rfl, hown5, x5, fr5⟩
      have hb8 := be8_length (8 * b.length)
      rw [hb8] at hown5
      have hownm := owns_ext hown x5 (by simp)
      have hjz : j = pz := by have := HJ.out; omega
      have HJZ := Lib.hid hjz
      have hD := fun w' (x' : Ext [] w w') => G.ext x' (by simp) (by simp)
      have HD := Lib.hid hD
      clear hne hb8 hjz hD
      obtain ⟨v5a, v5c, rfl⟩ := owns_slice hown5
      go_upto_region 6 with (at_builtin; go_must (refine wpList_app _ rfl (.tmp 20) (.tmp 25) 39 rfl 5 i0 (.int .u8 0) 1 1 Tryd.underlying39 hi hz0 hz1 hz2 rfl (by decide) (.slice va (b.length + 1 + j) vc) _ _ rfl hownm (.slice v5a 8 v5c) 8 _ rfl (owns_reads hown5) (bytesV_one _) (by unfold maxLen; omega) (by omega) ?_); intro v6 w6 hown6 hgrow6 hfr6 _)
      have hsz := x.size
      have hsz5 := x5.size
      have x6 : Ext [] w1 w6 := (x.trans x5).grown hgrow6 (by intro k hk; exact .inr (fr k hk))
      have fr6 : ∀ g, v6.ownBlock = some g → w1.heap.size ≤ g := by
        intro g hg
        rcases hfr6 with h | ⟨g', h, hle⟩
        · exact fr g (h ▸ hg)
        · rw [h] at hg; obtain rfl := Option.some.inj hg; omega
      have hpd : bytesV (b ++ 128 :: List.replicate j 0) ++ bytesV (be8 (8 * b.length)) = bytesV (padded b) := by
        rw [← bytesV_append]; unfold padded; rw [HJZ.out, ← HPZ.out]
      rw [hpd] at hown6
      have hpl : b.length + 1 + j + 8 = (padded b).length := by rw [padded_length, HPZ.out, HJZ.out]
      rw [hpl] at hown6
      have hLm := padded_mod b
      have hLle : (padded b).length ≤ 1048700 := by omega
      have hLpos : 0 < (padded b).length := by omega
      clear hgrow6 hfr6 hown5 hownm hpd hpl hown fr fr5 hsz5 x5 x
      have HSO := Lib.hid (show sumOf b = outBytes (sumTo Ks begin0 (padded b) ((padded b).length / 64)) from rfl)
      generalize padded b = pd at *
      have G6 := HD.out w6 (x1.trans x6)
      obtain ⟨s0, hs0⟩ : ∃ s, s = begin0 := ⟨_, rfl⟩
      have hbg := G6.b
      rw [← hs0] at hbg HSO
      have c0 := hbg 0 (by simp [V32, St.list])
      have c1 := hbg 1 (by simp [V32, St.list])
      have c2 := hbg 2 (by simp [V32, St.list])
      have c3 := hbg 3 (by simp [V32, St.list])
      have c4 := hbg 4 (by simp [V32, St.list])
      have c5 := hbg 5 (by simp [V32, St.list])
      have c6 := hbg 6 (by simp [V32, St.list])
      have c7 := hbg 7 (by simp [V32, St.list])
      simp only [V32, St.list, List.map_cons, List.map_nil, List.getElem?_cons_zero, List.getElem?_cons_succ, Nat.zero_add] at c0 c1 c2 c3 c4 c5 c6 c7
      clear hs0 hbg G6
      go_wp2_with fail
      obtain ⟨mg, mc, cur, rfl, hmb, hml, hmx, -, htk⟩ := owns_some hown6 hLpos
      have hmlt := hmb.lt
      have hmcell := Lib.hid (fun i (hi : i < pd.length) => (show w6.cell? ⟨mg, i, none⟩ = some (.int .u8 ((pd.getD i 0).toNat : Int)) by
        rw [hown6.cellAt i (by omega)]; unfold bytesV; simp [hi]))
      have BS : Blk (w6.alloc (.cells (V32 s0.list).toArray 173)) w6.heap.size 173 (V32 s0.list) := Blk.new w6 _ _
      have xs : Ext [] w6 (w6.alloc (.cells (V32 s0.list).toArray 173)) := (Ext.refl _ _).alloc _
      obtain ⟨nb, hnb⟩ : ∃ nb, nb = pd.length / 64 := ⟨_, rfl⟩
      have hL64 : pd.length = 64 * nb := by omega
      have HL64 := Lib.hid hL64
      have hnb1 : 64 * nb ≤ 1048700 := by omega
      have hnb2 : 64 * nb ≤ mc := by omega
      have hnb3 : 1 ≤ nb := by omega
      have hmc2 : mc ≤ 9223372036854775807 := hmx
      rw [hL64]
      rw [← hnb] at HSO
      clear c0 c1 c2 c3 c4 c5 c6 c7 hown6 hmb htk hnb hL64 hml hLle hLpos hLm hmx
      go_loopw [3] (fun m wr => ∃ (i : Nat) (ao' : Option Addr) (cc : Nat), i ≤ nb ∧ m = .slice ao' (64 * nb - 64 * i) cc ∧ 64 * nb - 64 * i ≤ cc ∧ cc ≤ 9223372036854775807 ∧ (i < nb → ao' = some ⟨mg, 64 * i, none⟩) ∧ Blk wr w6.heap.size 173 (V32 (sumTo Ks s0 pd i).list) ∧ Ext [] w6 wr) (fun m _ => lenOf m)
      case atStart => exact ⟨0, _, mc, Nat.zero_le _, rfl, by omega, hmc2, fun _ => rfl, BS, xs⟩
      case round =>
        clear BS xs
        obtain ⟨i, ao', cc, hi', rfl, hcc, hcc2, hao, BS, xs⟩ := hrel
        by_cases hlt : i < nb
        · obtain rfl := hao hlt
          clear hao
          have hst := Lib.hid (show sumTo Ks s0 pd (i + 1) = workOf Ks (sumTo Ks s0 pd i) (blockAt pd i) from rfl)
          have hbl : (blockAt pd i).length = 64 := by
            unfold blockAt; rw [List.length_take, List.length_drop]; have := HL64.out; omega
          have hwk := work_any w6.heap.size mg (64 * i) cc (sumTo Ks s0 pd i) (blockAt pd i) wr (HD.out wr ((x1.trans x6).trans xs)) BS hbl (by have := xs.size; omega) (by
            intro t ht
            rw [xs.cell (p := ⟨mg, 64 * i + t, none⟩) hmlt (by simp), hmcell.out (64 * i + t) (by have := HL64.out; omega)]
            unfold blockAt
            simp [List.getD, ht])
          have HW := Lib.hid hwk
          clear hwk hbl
          go_wp2_with fail
          refine HW.out.mono ?_
          rintro e w7 ⟨rfl, B7, x7⟩
          go_wp2_with fail
          go_roundw
          case rel =>
            go_light
            refine ⟨i + 1, _, _, by omega, by rw [show 64 * nb - 64 * (i + 1) = 64 * nb - 64 * i - 64 by omega], by omega, by omega, ?_, by rw [hst.out]; exact B7, xs.trans' x7 (by simp)⟩
            intro h
            rw [if_neg (by omega), show 64 * (i + 1) = 64 * i + 64 by omega]
          case measure => simp [lenOf]; omega
        · have hi2 : i = nb := by omega
          rw [hi2] at BS
          clear hi2 hao
          have HS2 := HSO.out
          generalize sumTo Ks s0 pd nb = sf at *
          have HSF := Lib.hid HS2
          have hsz6 := x6.size
          clear HS2 HSO
          go_upto_block 4 with (fail)
          show Code.wp _ _ _ _ (wr.alloc (.cells (bytesV (List.replicate 32 0)).toArray 36))
          have BO := Blk.new wr 36 (bytesV (List.replicate 32 0)).toArray
          have BR := (B1.ext x6 (by simp)).ext xs (by simp)
          have BSt := BS.alloc (.cells (bytesV (List.replicate 32 0)).toArray 36)
          have BR2 := BR.alloc (.cells (bytesV (List.replicate 32 0)).toArray 36)
          have xo : Ext [] w6 (wr.alloc (.cells (bytesV (List.replicate 32 0)).toArray 36)) := xs.alloc _
          have hszr := xs.size
          have hbs := BS.lt
          obtain ⟨bo, hbo⟩ : ∃ bo, bo = wr.heap.size := ⟨_, rfl⟩
          rw [← hbo] at BO hszr hbs
          rw [← hbo]
          clear BS BR xs hbo hi' hcc hcc2
          generalize wr.alloc (.cells (bytesV (List.replicate 32 0)).toArray 36) = w8 at *
          go_wp2_with fail
          go_loopw [36] (fun x wq => ∃ k : Nat, k ≤ 32 ∧ x = .int .i64 k ∧ Blk wq bo 36 (bytesV (outTo sf k)) ∧ Blk wq w6.heap.size 173 (V32 sf.list) ∧ Blk wq w.heap.size 36 (bytesV (List.replicate 32 0)) ∧ Ext [] w6 wq) (fun x _ => 32 - (intOf x).toNat)
          case atStart => exact ⟨0, Nat.zero_le _, rfl, by rw [outTo_zero]; exact BO, BSt, BR2, xo⟩
          case round =>
            clear BO BSt BR2 xo
            obtain ⟨k, hk, rfl, BO, BSt, BR2, xo⟩ := hrel
            have hneb1 : bo ≠ w6.heap.size := by omega
            by_cases hk32 : k < 32
            · have s1 := BSt.cell (k / 4)
              have es : (V32 sf.list)[k / 4]? = some (.int .u32 ((sf.list.getD (k / 4) 0#32).toNat : Int)) := by
                unfold V32; rw [List.getElem?_map]
                simp [show k / 4 < sf.list.length from by show k / 4 < 8; omega]
              rw [es] at s1
              have ho := BO.cell k
              have eo : (bytesV (outTo sf k))[k]? = some (.int .u8 (((outTo sf k).getD k 0).toNat : Int)) := by
                unfold bytesV; rw [List.getElem?_map]
                simp [show k < (outTo sf k).length by rw [outTo_length _ _ hk]; exact hk32]
              rw [eo] at ho
              have fo := BO.frozen k
              have hst := Lib.hid (outTo_succ sf k hk32)
              clear es eo
              generalize sf.list.getD (k / 4) 0#32 = xw at *
              generalize (outTo sf k).getD k 0 = xo' at *
              go_wp2_with fail
              go_roundw
              case rel =>
                refine ⟨k + 1, by omega, by go_num, ?_, BSt.setOther (by simp; omega) _, BR2.setOther (by simp; omega) _, xo.setCell (.inr (by simp; omega)) _⟩
                have BOs := BO.set k (.int .u8 (((UInt8.ofNat (xw.toNat / 2 ^ (24 - 8 * (k % 4)))).toNat : Nat) : Int))
                rw [bytesV_set, hst.out, byte_val] at BOs
                go_light
                push_cast at BOs
                exact BOs
              case measure => simp [intOf]; omega
            · have hk' : k = 32 := by omega
              rw [hk', outTo_all] at BO
              clear hk'
              have hOl : (bytesV (outBytes sf)).length = 32 := by rw [bytesV_length, outBytes_length]
              have hob : ∀ u ∈ bytesV (outBytes sf), u.oneCell' = true := bytesV_one _
              go_upto_region 16 with (fail)
              apply wp_region_lit
              generalize hov : bytesV (outBytes sf) = ov at *
              refine wpList_ldpart rfl 36 (.tmp 5) rfl bo 0 rfl ov _ BO.part Tryd.underlying36 rfl (by rw [hOl]; kernel_rfl) ?_
              refine wpList_strow rfl 36 (.tmp 2) (.tmp 52) rfl w.heap.size 0 rfl 36 _ ov rfl BR2 (by rw [hOl]; simp [bytesV]) hob (by rw [hOl]; kernel_rfl) ?_
              intro w9 H9 x9 _
              have e9 : (bytesV (List.replicate 32 0)).take 0 ++ ov ++ (bytesV (List.replicate 32 0)).drop (0 + ov.length) = ov := by
                rw [hOl, List.take_zero, List.nil_append, List.drop_of_length_le (by simp [bytesV]), List.append_nil]
              rw [e9] at H9
              go_wp2_with fail
              refine bodyPost_ret (results_blk Tryd.results46 _ _ w.heap.size 36 ov _ rfl H9 Tryd.underlying36 rfl (by rw [hOl]; kernel_rfl)) rfl ?_
              have hv2 := HSF.out
              refine ⟨by rw [hv2, ← hov], (x1.trans (x6.trans xo)).trans' x9 (by simp)⟩

end Go.Proofs.YtbjkfgfiifnjoaaDoor
