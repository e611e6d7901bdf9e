/- The statement RegistryActs: in every row of calls both registries answer alike. -/
import Derived.Test.YtgcbgeombbohpaaDoorRActR
import Derived.Test.YtgcbgeombbohpaaDoorRefD
import Derived.Test.YtgcbgeombbohpaaDoorFlat
import Derived.Test.YtgcbgeombbohpaaDoorBCut
namespace Go.Proofs.YtgcbgeombbohpaaDoor
open Go.RowKit
set_option maxRecDepth 100000

abbrev ractLeaves : List Leaf := [.int .i64, .int .i64] ++ (List.replicate 32 (.int .u8) ++ (List.replicate 32 (.int .u8) ++ [.int .i64]))
theorem Flat.split : ∀ {k1 k2 : List Leaf} {cs : List Value}, Flat (k1 ++ k2) cs → ∃ c1 c2, cs = c1 ++ c2 ∧ Flat k1 c1 ∧ Flat k2 c2
  | [], _, cs, h => ⟨[], cs, rfl, rfl, h⟩
  | _ :: _, _, _, ⟨v, r, e, hv, hr⟩ => by
    obtain ⟨c1, c2, e2, h1, h2⟩ := hr.split
    exact ⟨v :: c1, c2, by rw [e, e2]; rfl, ⟨v, c1, rfl, hv, h1⟩, h2⟩
theorem ract_cells {cs : List Value} (h : Flat ractLeaves cs) : ∃ wt sd kb sum ii, cs = actV wt sd kb sum ii ∧ kb.length = 32 ∧ sum.length = 32 := by
  obtain ⟨c1, r1, e1, h1, h2⟩ := h.split
  obtain ⟨c2, r2, e2, h3, h4⟩ := h2.split
  obtain ⟨c3, c4, e3, h5, h6⟩ := h4.split
  obtain ⟨kb, hk, ek⟩ := bytes_of_flat 32 h3
  obtain ⟨sum, hs, es⟩ := bytes_of_flat 32 h5
  obtain ⟨v1, q1, rfl, ⟨z1, rfl, _⟩, v2, q2, rfl, ⟨z2, rfl, _⟩, rfl⟩ := h1
  obtain ⟨v3, q3, rfl, ⟨z3, rfl, _⟩, rfl⟩ := h6
  exact ⟨z1, z2, kb, sum, z3, by rw [e1, e2, e3, ek, es]; rfl, hk, hs⟩
theorem actV_length (wt sd : Int) (kb sum : List UInt8) (ii : Int) (hk : kb.length = 32) (hs : sum.length = 32) : (actV wt sd kb sum ii).length = 67 := by simp [actV, bytesV_length, hk, hs]
theorem actV_one (wt sd : Int) (kb sum : List UInt8) (ii : Int) : ∀ u ∈ actV wt sd kb sum ii, u.oneCell' = true := by
  intro u hu
  simp only [actV, bytesV, List.mem_append, List.mem_map, List.mem_cons, List.not_mem_nil, or_false] at hu
  rcases hu with (rfl | rfl) | ⟨x, _, rfl⟩ | ⟨x, _, rfl⟩ | rfl <;> rfl
/-- A row of acts that came in: where each one's cells lie. -/
theorem racts_of_row {w : World} {a : Option Addr} {len cap : Nat} (h : RowOf (Flat ractLeaves) 67 w a len cap) :
    len ≤ 9223372036854775807 ∧ ∀ k, k < len → ∃ (b o : Nat) (wt sd : Int) (kb sum : List UInt8) (ii : Int), a = some ⟨b, o, none⟩ ∧ b < w.heap.size ∧ kb.length = 32 ∧ sum.length = 32 ∧ PartAt w b (o + k * 67) (actV wt sd kb sum ii) := by
  rcases h with ⟨rfl, rfl, rfl⟩ | ⟨x, rfl, hl, hm, hc⟩
  · exact ⟨by omega, fun k hk => by omega⟩
  · refine ⟨by unfold maxLen at hm; omega, fun k hk => ?_⟩
    obtain ⟨cs, hcl, hf, hcs⟩ := hc k (by omega)
    obtain ⟨wt, sd, kb, sum, ii, rfl, hk1, hs1⟩ := ract_cells hf
    have hl67 := actV_length wt sd kb sum ii hk1 hs1
    obtain ⟨b, o, spot⟩ := x
    have hs : spot = none := by
      obtain ⟨cs', -, hf', hcs'⟩ := hc 0 (by omega)
      obtain ⟨wt', sd', kb', sum', ii', rfl, -, -⟩ := ract_cells hf'
      have h00 := hcs' 0 (by omega)
      rw [show (actV wt' sd' kb' sum' ii')[0]? = some (.int .i64 wt') from rfl] at h00
      have := World.cell?_spot h00
      simpa [Addr.add] using this
    subst hs
    have hat : ∀ j, j < 67 → w.cell? ⟨b, o + k * 67 + j, none⟩ = (actV wt sd kb sum ii)[j]? := fun j hj => by
      have h := hcs j hj
      rw [Addr.add_add, Addr.add_lit, ← Nat.add_assoc] at h
      exact h
    exact ⟨b, o, wt, sd, kb, sum, ii, rfl, World.block_lt_of_cell? w _ ((hat 0 (by omega)).trans (show _ = some (.int .i64 wt) from rfl)), hk1, hs1, fun j hj => hat j (by omega)⟩
theorem u8_is (x : Int) : ∃ sb : UInt8, IntKind.u8.wrap x = (sb.toNat : Int) := by
  refine ⟨UInt8.ofNat (x % 256).toNat, ?_⟩
  simp [IntKind.wrap, IntKind.bits, IntKind.signed]
  omega
theorem zero_reg (w : World) : (zeroValue 52).run Tryd.prog w = .ok (.agg (V32 (List.replicate 72 0#32) ++ [Value.slice none 0 0, Value.slice none 0 0]).toArray) w := run_zeroOf (by kernel_rfl) w
theorem build_reg (kv : List Value) (h : kv.length = 72) : List.foldl (fun (cs : Array Value) x => cs.setIfInBounds x.2 x.1) (V32 (List.replicate 72 0#32) ++ [Value.slice none 0 0, Value.slice none 0 0]).toArray kv.zipIdx = (kv ++ [Value.slice none 0 0, Value.slice none 0 0]).toArray := by
  have hl : (V32 (List.replicate 72 0#32)).length = 72 := by simp [V32]
  have := foldl_zip kv [] (V32 (List.replicate 72 0#32) ++ [Value.slice none 0 0, Value.slice none 0 0]) (by rw [h, List.length_append, hl]; simp)
  have e : (V32 (List.replicate 72 0#32) ++ [Value.slice none 0 0, Value.slice none 0 0]).drop kv.length = [Value.slice none 0 0, Value.slice none 0 0] := by
    rw [h, List.drop_append_of_le_length (by omega), List.drop_of_length_le (by omega)]; rfl
  rw [e] at this
  exact this
theorem zero_act (w : World) : (zeroValue 54).run Tryd.prog w = .ok (.agg (actV 0 0 (List.replicate 32 0) (List.replicate 32 0) 0).toArray) w := run_zeroOf (by kernel_rfl) w
theorem zero_k32 (w : World) : (zeroValue 22).run Tryd.prog w = .ok (.agg (bytesV (List.replicate 32 0)).toArray) w := run_zeroOf (by kernel_rfl) w
theorem rnone_any (w : World) : Calls Tryd.prog 16 #[] w fun e w' => e = .returned (.pointer none) ∧ w = w' := by
  go_enter Tryd.func16, Tryd.ntmps16
  go_wp2
  go_ret
  exact ⟨rfl, rfl⟩

set_option maxHeartbeats 32000000 in
theorem racts_walk (a0 : Option Addr) (len0 cap0 : Nat) (w : World) (G : DigG w) (hr : RowOf (Flat ractLeaves) 67 w a0 len0 cap0) :
    Calls Tryd.prog 5 #[.slice a0 len0 cap0] w fun e w' => e = .returned (.bool true) ∧ Ext [] w w' := by
  obtain ⟨hl63, hat⟩ := racts_of_row hr
  have HAT := Lib.hid hat
  have HNO := Lib.hid rnone_any
  have HFI := Lib.hid (fun w => (show Calls Tryd.prog 11 #[.pointer none, .agg #[.int .u8 0, .int .u8 0, .int .u8 0, .int .u8 0, .int .u8 0, .int .u8 0, .int .u8 0, .int .u8 0, .int .u8 0, .int .u8 0, .int .u8 0, .int .u8 0, .int .u8 0, .int .u8 0, .int .u8 0, .int .u8 0, .int .u8 0, .int .u8 0, .int .u8 0, .int .u8 0, .int .u8 0, .int .u8 0, .int .u8 0, .int .u8 0, .int .u8 0, .int .u8 0, .int .u8 0, .int .u8 0, .int .u8 0, .int .u8 0, .int .u8 0, .int .u8 0], .slice none 0 0] w fun e' w' => e' = .returned (.tuple #[.int .i64 0, .int .i64 22]) ∧ Ext [] w w' from rfind_nil (List.replicate 32 0) none 0 0 w))
  have HAD := Lib.hid (fun w => (show Calls Tryd.prog 9 #[.pointer none, .agg #[.int .u8 0, .int .u8 0, .int .u8 0, .int .u8 0, .int .u8 0, .int .u8 0, .int .u8 0, .int .u8 0, .int .u8 0, .int .u8 0, .int .u8 0, .int .u8 0, .int .u8 0, .int .u8 0, .int .u8 0, .int .u8 0, .int .u8 0, .int .u8 0, .int .u8 0, .int .u8 0, .int .u8 0, .int .u8 0, .int .u8 0, .int .u8 0, .int .u8 0, .int .u8 0, .int .u8 0, .int .u8 0, .int .u8 0, .int .u8 0, .int .u8 0, .int .u8 0]] w fun e' w' => e' = .returned (.int .i64 22) ∧ Ext [] w w' from radd_nil (List.replicate 32 0) w))
  have HHA := Lib.hid (fun w => (show Calls Tryd.prog 15 #[.pointer none, .agg #[.int .u8 0, .int .u8 0, .int .u8 0, .int .u8 0, .int .u8 0, .int .u8 0, .int .u8 0, .int .u8 0, .int .u8 0, .int .u8 0, .int .u8 0, .int .u8 0, .int .u8 0, .int .u8 0, .int .u8 0, .int .u8 0, .int .u8 0, .int .u8 0, .int .u8 0, .int .u8 0, .int .u8 0, .int .u8 0, .int .u8 0, .int .u8 0, .int .u8 0, .int .u8 0, .int .u8 0, .int .u8 0, .int .u8 0, .int .u8 0, .int .u8 0, .int .u8 0]] w fun e' w' => e' = .returned (.bool false) ∧ Ext [] w w' from rhas_nil (List.replicate 32 0) w))
  have HSP := Lib.hid (rspend_nil 0)
  have HLN := Lib.hid rlen_nil
  have HKE := Lib.hid (fun w' (x : Ext [] w w') => keeps_any w' (G.ext x (by simp) (by simp)))
  have HG := Lib.hid G
  have hRl : (V32 (Ks ++ begin0.list)).length = 72 := by decide +kernel
  have HMK := Lib.hid make_ref
  obtain ⟨rt, hrt⟩ : ∃ rt, rt = V32 (Ks ++ begin0.list) := ⟨_, rfl⟩
  rw [← hrt] at hRl HMK
  have HRT := Lib.hid hrt
  clear hrt
  have hzero := zero_reg
  have hfl := build_reg rt hRl
  have hzl0 : (V32 (List.replicate 72 0#32) ++ [Value.slice none 0 0, Value.slice none 0 0]).length = 74 := by simp [V32]
  generalize V32 (List.replicate 72 0#32) ++ [Value.slice none 0 0, Value.slice none 0 0] = zr at *
  have HZZ := Lib.hid (And.intro hzero (And.intro hfl hzl0))
  clear hzero hfl hzl0
  clear hr hat G
  go_enter Tryd.func5, Tryd.ntmps5
  go_wp2_with fail
  refine (HNO.out w).mono ?_
  rintro e w' ⟨rfl, rfl⟩
  go_wp2_with fail
  refine (HFI.out w).mono ?_
  rintro e w1 ⟨rfl, x1⟩
  go_wp2_with fail
  refine (HKE.out w1 x1).mono ?_
  rintro e w2 ⟨rfl, x2⟩
  go_wp2_with fail
  refine (HNO.out w2).mono ?_
  rintro e w' ⟨rfl, rfl⟩
  go_wp2_with fail
  refine (HAD.out w2).mono ?_
  rintro e w3 ⟨rfl, x3⟩
  go_wp2_with fail
  refine (HNO.out w3).mono ?_
  rintro e w' ⟨rfl, rfl⟩
  go_wp2_with fail
  refine (HHA.out w3).mono ?_
  rintro e w4 ⟨rfl, x4⟩
  go_wp2_with fail
  refine (HNO.out w4).mono ?_
  rintro e w' ⟨rfl, rfl⟩
  go_wp2_with fail
  refine (HSP.out w4).mono ?_
  rintro e w' ⟨rfl, rfl⟩
  go_wp2_with fail
  refine (HNO.out w4).mono ?_
  rintro e w' ⟨rfl, rfl⟩
  go_wp2_with fail
  refine (HLN.out w4).mono ?_
  rintro e w' ⟨rfl, rfl⟩
  clear HNO HFI HAD HHA HSP HLN HKE
  go_wp2_with fail
  refine (rnew_any w4).mono ?_
  rintro e w5 ⟨b, rfl, R5, x5, hb⟩
  go_wp2_with fail
  refine (HMK.out w5).mono ?_
  rintro e w6 ⟨rfl, x6⟩
  have y4 := ((x1.trans x2).trans x3).trans x4
  have y6 := (y4.trans x5).trans x6
  have hb0 := Nat.le_trans y4.size hb
  have R6 := R5.ext0 x6
  clear x1 x2 x3 x4 x5 x6 R5 hb y4
  obtain ⟨hzero, hfl, hzl0⟩ := HZZ.out
  go_upto_region 5 with (fail)
  clear hfl hzero hzl0 HZZ
  show Code.wp _ _ _ _ (w6.alloc (.cells (rt ++ [Value.slice none 0 0, Value.slice none 0 0]).toArray 52))
  have BD := Blk.new w6 52 (rt ++ [Value.slice none 0 0, Value.slice none 0 0]).toArray
  have x7 : Ext [] w6 (w6.alloc (.cells (rt ++ [Value.slice none 0 0, Value.slice none 0 0]).toArray 52)) := (Ext.refl _ _).alloc _
  have A7 : Both w (w6.alloc (.cells (rt ++ [Value.slice none 0 0, Value.slice none 0 0]).toArray 52)) b (.slice none 0 0) w6.heap.size (.slice none 0 0) (.slice none 0 0) [] [] :=
    ⟨⟨R6.ext0 x7, y6.trans x7, hb0, (fun g h => by cases h)⟩, ⟨HRT.out ▸ BD, World.ownsRow_nil _ _ _ _, World.ownsRow_nil _ _ _ _, by simp, (fun g h => by cases h), (fun g h => by cases h), (fun g h => by cases h)⟩, y6.size, (fun g h => by cases h), (fun g h => by cases h)⟩
  clear BD x7 y6 hb0 R6
  generalize w6.alloc (.cells (rt ++ [Value.slice none 0 0, Value.slice none 0 0]).toArray 52) = w7 at *
  generalize w6.heap.size = bd at *
  clear hRl
  go_wp2_with fail
  go_loopw [7] (fun i wr => ∃ (k : Nat) (es : List RE) (v vk vs : Value), i = .int .i64 (k : Int) ∧ k ≤ len0 ∧ k ≤ 12 ∧ es.length ≤ k ∧ Both w wr b v bd vk vs es es) (fun i _ => 12 - (intOf i).toNat)
  case atStart => exact ⟨0, [], _, _, _, rfl, Nat.zero_le _, by omega, Nat.le_refl _, A7⟩
  case round =>
    clear A7
    obtain ⟨k, es, v, vk, vs, rfl, hk, hk12, hel, A⟩ := hrel
    by_cases hlt : k < len0 ∧ k < 12
    · obtain ⟨hlt, h12⟩ := hlt
      obtain ⟨ba, oa, wt, sd, k0, sum, ii, rfl, hbl, hk0, hsum, hpe⟩ := HAT.out k hlt
      have hpe2 : PartAt wr ba (oa + k * 67) (actV wt sd k0 sum ii) := fun j hj => (A.l.x.cell (p := ⟨ba, oa + k * 67 + j, none⟩) hbl (by simp)).trans (hpe j hj)
      have hbl2 : ba < wr.heap.size := Nat.lt_of_lt_of_le hbl A.l.x.size
      have hal := actV_length wt sd k0 sum ii hk0 hsum
      have hao := actV_one wt sd k0 sum ii
      have hue := Tryd.underlying54
      obtain ⟨av, hav⟩ : ∃ av, av = actV wt sd k0 sum ii := ⟨_, rfl⟩
      rw [← hav] at hpe2 hal hao
      have HAV := Lib.hid hav
      have hsze : (Tryd.prog.info? 54).map (·.size) = some av.length := by rw [hal]; kernel_rfl
      have hza := zero_act
      have hzl : (actV 0 0 (List.replicate 32 0) (List.replicate 32 0) 0).length = 67 := by rfl
      generalize actV 0 0 (List.replicate 32 0) (List.replicate 32 0) 0 = zz at *
      clear hav hpe
      go_upto_region 8 with (fail)
      go_wp2_with (with_reducible refine wpList_ldpart rfl 54 (.tmp 65) rfl ba (oa + k * 67) rfl av _ hpe2 hue rfl hsze ?_)
      refine upon_strow wr.heap.size 0 54 _ av (Blk.new wr 54 zz.toArray) (by rw [hal]; simp [hzl]) hao ?_
      intro w8 H8 x8 hs8
      have e8 : zz.toArray.toList.take 0 ++ av ++ zz.toArray.toList.drop (0 + av.length) = av := by
        rw [hal, List.take_zero, List.nil_append, List.drop_of_length_le (by simp [hzl]), List.append_nil]
      rw [e8, HAV.out] at H8
      have BX8 : ActB w8 wr.heap.size wt sd k0 sum ii := ⟨H8, hk0, hsum⟩
      have x18 : Ext [] wr w8 := ((Ext.refl [] wr).alloc _).trans' x8 (by simp)
      have HS8 := Lib.hid (show w8.heap.size = wr.heap.size + 1 by rw [hs8]; simp)
      clear hs8
      obtain ⟨sb, hsb⟩ := u8_is (sd.tmod 5)
      obtain ⟨c0, c1, -, hxl⟩ := BX8.cells
      clear e8 x8 H8 hza hzl hpe2 hue hsze hao hal
      generalize hbx : wr.heap.size = bx at *
      have HBX := Lib.hid hbx
      clear hbx
      go_upto_region 10 with (fail)
      have BS := Blk.new w8 5 #[.int .u8 (sb.toNat : Int)]
      have x89 : Ext [] w8 (w8.alloc (.cells #[.int .u8 (sb.toNat : Int)] 5)) := (Ext.refl _ _).alloc _
      have BX9 : ActB (w8.alloc (.cells #[.int .u8 (sb.toNat : Int)] 5)) bx wt sd k0 sum ii := ⟨BX8.h.ext x89 (by simp), hk0, hsum⟩
      have x19 := x18.trans x89
      have HS9 := Lib.hid (show (w8.alloc (.cells #[.int .u8 (sb.toNat : Int)] 5)).heap.size = bx + 2 by simp [HS8.out])
      generalize w8.alloc (.cells #[.int .u8 (sb.toNat : Int)] 5) = w9 at *
      generalize hgs : w8.heap.size = gs at *
      have HGS := Lib.hid hgs
      clear x18 x89 BX8 c0 c1 hxl hsb hgs
      have hr9 : Reads w9 (.slice (some ⟨gs, 0, none⟩) 1 1) 1 1 (bytesV [sb]) := blk_reads BS 1 rfl
      have hkey := lkey_any (.slice (some ⟨gs, 0, none⟩) 1 1) [sb] w9 (HG.out.ext (A.l.x.trans x19) (by simp) (by simp)) hr9 (by simp)
      have hkyl : (keyB [sb]).length = 32 := keyB_length _
      generalize keyB [sb] = ky at hkey hkyl
      have HKEY := Lib.hid hkey
      clear hkey
      go_wp2_with fail
      refine HKEY.out.mono ?_
      rintro e w10 ⟨rfl, x10⟩
      have BX10 : ActB w10 bx wt sd k0 sum ii := ⟨BX9.h.ext x10 (by simp), hk0, hsum⟩
      have BS10 := BS.ext x10 (by simp)
      have HS10 := Lib.hid (show bx + 2 ≤ w10.heap.size from HS9.out ▸ x10.size)
      have y10 := x19.trans x10
      have hkvl : (bytesV ky).length = 32 := by rw [bytesV_length, hkyl]
      have hkvo : ∀ u ∈ bytesV ky, u.oneCell' = true := by
        intro u hu
        simp only [bytesV, List.mem_map] at hu
        obtain ⟨x, _, rfl⟩ := hu
        rfl
      have hzk := zero_k32
      have hzkl : (bytesV (List.replicate 32 0)).length = 32 := by rfl
      clear hr9 BX9 BS x19 x10
      generalize bytesV (List.replicate 32 0) = zk at *
      go_wp2_with fail
      refine upon_strow w10.heap.size 0 22 _ (bytesV ky) (Blk.new w10 22 zk.toArray) (by rw [hkvl]; simp [hzkl]) hkvo ?_
      intro w11 H11 x11 hs11
      have e11 : zk.toArray.toList.take 0 ++ bytesV ky ++ zk.toArray.toList.drop (0 + (bytesV ky).length) = bytesV ky := by
        rw [hkvl, List.take_zero, List.nil_append, List.drop_of_length_le (by simp [hzkl]), List.append_nil]
      rw [e11] at H11
      have x1011 : Ext [] w10 w11 := ((Ext.refl [] w10).alloc _).trans' x11 (by simp)
      have BX11 : ActB w11 bx wt sd k0 sum ii := ⟨BX10.h.ext x1011 (by simp), hk0, hsum⟩
      have BS11 := BS10.ext x1011 (by simp)
      have y11 := y10.trans x1011
      clear e11 x11 hs11 hzk hzkl BX10 BS10 x1011 y10
      generalize w10.heap.size = bk at *
      obtain ⟨c0, -, -, hxl⟩ := BX11.cells
      go_upto_if 77 with (fail)
      clear c0 hxl
      go_cut [] from 53 to 160 (fun wx => ∃ kb : List UInt8, kb.length = 32 ∧ Blk wx bk 22 (bytesV kb) ∧ Ext [bk] w11 wx)
      case first =>
        by_cases h62 : (wt.tmod 6 == 2) = true
        · rw [h62]
          have hu := Tryd.underlying22
          have hkl0 : (bytesV k0).length = 32 := by rw [bytesV_length, hk0]
          have hsz0 : (Tryd.prog.info? 22).map (·.size) = some (bytesV k0).length := by rw [hkl0]; kernel_rfl
          have hp2 := BX11.part2
          go_wp2_with (with_reducible refine wpList_ldpart rfl 22 (.tmp 78) rfl bx 2 rfl (bytesV k0) _ hp2 hu rfl hsz0 ?_)
          refine upon_strow bk 0 22 _ (bytesV k0) H11 (by rw [hkl0, hkvl]; exact Nat.le_refl _) (by
            intro u hu
            simp only [bytesV, List.mem_map] at hu
            obtain ⟨x, _, rfl⟩ := hu
            rfl) ?_
          intro w12 H12 x12 hs12
          have e12 : (bytesV ky).take 0 ++ bytesV k0 ++ (bytesV ky).drop (0 + (bytesV k0).length) = bytesV k0 := by
            rw [hkl0, List.take_zero, List.nil_append, List.drop_of_length_le (by omega), List.append_nil]
          rw [e12] at H12
          go_wp2_with fail
          go_meet
          exact ⟨k0, hk0, H12, x12⟩
        · rw [show (wt.tmod 6 == 2) = false by simpa using h62]
          go_wp2_with fail
          go_meet
          exact ⟨ky, hkyl, H11, Ext.refl _ _⟩
      case rest =>
        obtain ⟨kb, hkb, BK, xc⟩ := hcut
        have hs8 := HS8.out
        have hs9 := HS10.out
        have hbx' := HBX.out
        have hbk : vk.ownBlock ≠ some bk := fun e => by have := owns_lt A.d.k e; omega
        have BXc : ActB wc bx wt sd k0 sum ii := ⟨BX11.h.ext xc (by simp; omega), hk0, hsum⟩
        have hrc : Reads wc (.slice (some ⟨gs, 0, none⟩) 1 1) 1 1 (bytesV [sb]) := blk_reads (BS11.ext xc (by simp; omega)) 1 rfl
        have Ac := A.ext0 (y11.trans' xc (by intro i hi; simp at hi; omega))
        rename_i KK aK
        refine aK _ _ ?_
        refine ract_round w wc b bd bk bx gs sb v vk vs es kb k0 sum wt sd ii HG.out Ac (by omega) hkb BK hbk BXc hrc _ (by kernel_rfl) _ _ _ _ _ _ _ _ _ _ _ _ _ _ _ _ _ _ _ _ _ _ _ _ _ _ _ _ _ _ _ _ _ _ _ _ _ _ _ _ _ _ _ _ _ _ _ _ _ _ _ _ _ _ _ _ _ _ _ _ _ _ _ _ _ _ _ _ _ _ _ _ _ _ _ _ _ _ _ _ _ _ _ _ _ _ _ _ _ _ _ _ _ _ _ _ _ _ _ _ _ _ _ _ _ _ _ _ _ _ _ _ _ _ _ _ _ _ _ _ _ _ _ _ _ _ _ _ _ _ _ _ _ _ _ _ _ _ _ _ _ _ _ _ _ _ _ _ _ _ _ _ _ _ _ _ _ ?_ ?_
        · exact fun _ _ _ _ _ h => h
        intro es2 v2 vk2 vs2 s11 s12 s13 s14 s15 s80 s81 s82 s83 s84 s85 s86 s87 s88 s89 s90 s91 s92 s93 s94 s95 s96 s97 s98 s99 s100 s101 s102 s103 s104 s105 s106 s107 s108 s109 s110 s111 s112 s113 s114 s115 s116 s117 s118 s119 s120 s121 s122 s123 s124 s125 s126 s127 s128 s129 s130 s131 s132 s133 s134 s135 s136 s137 s138 s139 s140 s141 s142 s143 s144 s145 s146 s147 s148 s149 s150 s151 s152 s153 s154 s155 s156 s157 s158 s159 s160 w' A' hl'
        clear A Ac BXc hrc BK xc BX11 BS11 H11 y11 hs8 hs9 hbx'
        go_wp2_with fail
        go_roundw
        case rel => exact ⟨k + 1, es2, v2, vk2, vs2, by go_num, by omega, by omega, by omega, A'⟩
        case measure => simp [intOf]; omega
    · have X := A.l.x
      clear A
      rcases (show ¬ k < len0 ∨ (k < len0 ∧ ¬ k < 12) by omega) with h1 | ⟨h1, h2⟩
      all_goals
        clear hlt
        go_wp2_with fail
        go_ret
        exact ⟨rfl, X⟩
end Go.Proofs.YtgcbgeombbohpaaDoor
