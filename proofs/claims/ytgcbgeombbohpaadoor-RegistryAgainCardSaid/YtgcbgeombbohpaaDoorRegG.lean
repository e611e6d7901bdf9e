/- The law RegistryAgain: the walk. -/
import Derived.Deep.RegionHeld3
import Derived.Test.YtgcbgeombbohpaaDoorRegF
namespace Go.Proofs.YtgcbgeombbohpaaDoor
open Go.RowKit
set_option maxRecDepth 100000

theorem two_keys (K1 K2 : List UInt8) (h : K1 ≠ K2) : addE [(K1, false)] K2 = 0 ∧ addL [(K1, false)] K2 = [(K1, false), (K2, false)] := by
  have e : findN [(K1, false)] K2 = 1 := by simp [findN, List.findIdx, List.findIdx.go, h]
  simp [addE, addL, e]
theorem two_has (K1 K2 : List UInt8) (h : K1 ≠ K2) : hasM [(K1, true), (K2, false)] K1 = false ∧ hasM [(K1, true), (K2, false)] K2 = true := by
  have e1 : findN [(K1, true), (K2, false)] K1 = 0 := by simp [findN, List.findIdx, List.findIdx.go]
  have e2 : findN [(K1, true), (K2, false)] K2 = 1 := by simp [findN, List.findIdx, List.findIdx.go, h]
  simp [hasM, e1, e2]
theorem two_no (K1 K2 sum s : List UInt8) (hs : s.length = 2048) (hv : verR K2 sum s ≠ 0) : fsV [(K1, true), (K2, false)] sum s = .tuple #[.int .i64 0, .int .i64 129] := by
  have h : fsN [(K1, true), (K2, false)] sum s = 2 := by simp [fsN, fsP, hv, List.findIdx, List.findIdx.go]
  unfold fsV
  rw [if_pos hs, h]
  rfl
theorem two_yes (K1 K2 sum s : List UInt8) (hs : s.length = 2048) (hv : verR K2 sum s = 0) : fsV [(K1, true), (K2, false)] sum s = .tuple #[.int .i64 1, .int .i64 0] := by
  have h : fsN [(K1, true), (K2, false)] sum s = 1 := by simp [fsN, fsP, hv, List.findIdx, List.findIdx.go]
  unfold fsV
  rw [if_pos hs, h]
  rfl

/-- A text of one byte, behind a draw. -/
theorem one_byte_drew (w : World) (x : UInt8) : Reads (w.alloc (.cells #[.int .u8 (x.toNat : Int)] 5 (1, 2))).drew (.slice (some ⟨w.heap.size, 0, none⟩) 1 1) 1 1 (bytesV [x]) := one_byte w x

set_option maxHeartbeats 16000000 in
theorem again_core (w : World) (a b K1 K2 SA SB SC : List UInt8) (G : DigG w) (hal : a.length = 32) (hbl : b.length = 32)
    (HKX : Hid (∀ v w', Ext [] w w' → Reads w' v 1 1 (bytesV [120]) → Calls Tryd.prog 10 #[v] w' fun e w'' => e = .returned (.agg (bytesV K1).toArray) ∧ Ext [] w' w''))
    (HKY : Hid (∀ v w', Ext [] w w' → Reads w' v 1 1 (bytesV [121]) → Calls Tryd.prog 10 #[v] w' fun e w'' => e = .returned (.agg (bytesV K2).toArray) ∧ Ext [] w' w''))
    (HSA : Hid (∀ v w', Ext [] w w' → Reads w' v 1 1 (bytesV [120]) → Calls Tryd.prog 12 #[v, .agg (bytesV a).toArray] w' fun e w'' => BytesPost w' SA e w''))
    (HSB : Hid (∀ v w', Ext [] w w' → Reads w' v 1 1 (bytesV [120]) → Calls Tryd.prog 12 #[v, .agg (bytesV b).toArray] w' fun e w'' => BytesPost w' SB e w''))
    (HSC : Hid (∀ v w', Ext [] w w' → Reads w' v 1 1 (bytesV [121]) → Calls Tryd.prog 12 #[v, .agg (bytesV b).toArray] w' fun e w'' => BytesPost w' SC e w''))
    (hA : SA.length = 2048) (hB : SB.length = 2048) (hC : SC.length = 2048) (hk1 : K1.length = 32) (hk2 : K2.length = 32) (hne : K1 ≠ K2)
    (HFA : Hid (verR K2 a SA ≠ 0)) (HFB : Hid (verR K2 b SB ≠ 0)) (HFC : Hid (verR K2 b SC = 0)) :
    Calls Tryd.prog 4 #[.agg (bytesV a).toArray, .agg (bytesV b).toArray] w fun e w' => e = .returned (.bool true) ∧ Ext [] w w' := by
  have HG := Lib.hid (fun w' (x' : Ext [] w w') => G.ext x' (by simp) (by simp))
  have HFI := Lib.hid (fun b' v es sum s sv w' (x : Ext [] w w') (h : RegAt w' b' v es) (hn : es.length ≤ 1000) hsl hs ho => rfindS_any b' v es sum s sv w' (HG.out w' x) h hn hsl hs ho)
  have H1 := Lib.hid (two_no K1 K2 a SA hA HFA.out)
  have H2 := Lib.hid (two_no K1 K2 b SB hB HFB.out)
  have H3 := Lib.hid (two_yes K1 K2 b SC hC HFC.out)
  have HAD1 := Lib.hid (addE_nil K1)
  have HAD2 := Lib.hid (two_keys K1 K2 hne)
  have HHAS := Lib.hid (two_has K1 K2 hne)
  have HSP := Lib.hid (show spE [(K1, false), (K2, false)] 0 = 0 ∧ spL [(K1, false), (K2, false)] 0 = [(K1, true), (K2, false)] from ⟨rfl, rfl⟩)
  have HSP2 := Lib.hid (show spE [(K1, true), (K2, false)] 2 = 2 ∧ spL [(K1, true), (K2, false)] 2 = [(K1, true), (K2, false)] from ⟨rfl, rfl⟩)
  have HSP3 := Lib.hid (show spE [(K1, true), (K2, false)] (-1) = 2 ∧ spL [(K1, true), (K2, false)] (-1) = [(K1, true), (K2, false)] from ⟨rfl, rfl⟩)
  have HBX := Lib.hid (fun (w' : World) => one_byte w' 120)
  have HBY := Lib.hid (fun (w' : World) => one_byte w' 121)
  have kx := fun (w : World) => Lib.run_convert_bytes_const (P := Tryd.prog) w 30 5 #[Value.int IntKind.u8 120] 1 1 Tryd.underlying30 Tryd.underlying5
  have ky := fun (w : World) => Lib.run_convert_bytes_const (P := Tryd.prog) w 30 5 #[Value.int IntKind.u8 121] 1 1 Tryd.underlying30 Tryd.underlying5
  have KXD := Lib.hid (fun (w : World) => (show (convert 30 30 (.slice (some ⟨w.heap.size, 0, none⟩) 1 1)).run Tryd.prog (w.alloc (.cells #[.int .u8 120] 5)).drew = .ok (.slice (some ⟨w.heap.size, 0, none⟩) 1 1) (w.alloc (.cells #[.int .u8 120] 5 (1, 2))).drew from kx w.drew))
  have KYD := Lib.hid (fun (w : World) => (show (convert 30 30 (.slice (some ⟨w.heap.size, 0, none⟩) 1 1)).run Tryd.prog (w.alloc (.cells #[.int .u8 121] 5)).drew = .ok (.slice (some ⟨w.heap.size, 0, none⟩) 1 1) (w.alloc (.cells #[.int .u8 121] 5 (1, 2))).drew from ky w.drew))
  have hav : (bytesV a).length = 32 := by rw [bytesV_length, hal]
  have hbv : (bytesV b).length = 32 := by rw [bytesV_length, hbl]
  obtain ⟨av, hava⟩ : ∃ av, av = bytesV a := ⟨_, rfl⟩
  obtain ⟨bv, hbva⟩ : ∃ bv, bv = bytesV b := ⟨_, rfl⟩
  have HAV := Lib.hid hava
  have HBV := Lib.hid hbva
  rw [← hava] at hav HSA ⊢
  rw [← hbva] at hbv HSB HSC ⊢
  clear hava hbva G
  have hu3 := Tryd.underlying22
  have hsza : (Tryd.prog.info? 22).map (·.size) = some av.length := by rw [hav]; kernel_rfl
  have hszb : (Tryd.prog.info? 22).map (·.size) = some bv.length := by rw [hbv]; kernel_rfl
  go_enter Tryd.func4, Tryd.ntmps4
  go_upto_region 1 with (fail)
  show Code.wp _ _ _ _ ((w.alloc (.cells av.toArray 22)).alloc (.cells bv.toArray 22))
  have BA : Blk ((w.alloc (.cells av.toArray 22)).alloc (.cells bv.toArray 22)) w.heap.size 22 av := (Blk.new w _ av.toArray).alloc _
  have BB : Blk ((w.alloc (.cells av.toArray 22)).alloc (.cells bv.toArray 22)) (w.heap.size + 1) 22 bv := Blk.new' _ _ bv.toArray _ (by simp)
  have x1 : Ext [] w ((w.alloc (.cells av.toArray 22)).alloc (.cells bv.toArray 22)) := ((Ext.refl _ _).alloc _).alloc _
  generalize ((w.alloc (.cells av.toArray 22)).alloc (.cells bv.toArray 22)) = w1 at *
  go_wp2_with fail
  refine (rnew_any w1).mono ?_
  rintro e w2 ⟨bg, rfl, hR0, x2, hb⟩
  have L2 : RegL w w2 bg (.slice none 0 0) [] := ⟨hR0, x1.trans x2, Nat.le_trans x1.size hb, fun g hg => by cases hg⟩
  have BA2 := BA.ext x2 (by simp)
  have BB2 := BB.ext x2 (by simp)
  clear hR0 x1 x2 BA BB hb
  go_wp2_with fail
  refine (keeps_any w2 (HG.out _ L2.x)).mono ?_
  rintro e w3 ⟨rfl, x3⟩
  have L3 := L2.ext0 x3
  have BA3 := BA2.ext x3 (by simp)
  have BB3 := BB2.ext x3 (by simp)
  clear L2 x3 BA2 BB2
  --BODY
  go_wp2_with fail
  have xa4 : Ext [] w3 (w3.alloc (.cells #[.int .u8 120] 5 (1, 2))) := (Ext.refl _ _).alloc _
  refine (HKX.out _ _ (L3.x.trans xa4) (HBX.out w3)).mono ?_
  rintro e wb4 ⟨rfl, xb4⟩
  have Lb4 := L3.ext0 (xa4.trans xb4)
  have BAb4 := BA3.ext (xa4.trans xb4) (by simp)
  have BBb4 := BB3.ext (xa4.trans xb4) (by simp)
  have HA4 := Lib.hid (radd_any bg _ _ K1 wb4 Lb4.at_ (by simp) hk1)
  clear L3 BA3 BB3 xa4 xb4
  go_wp2_with fail
  refine HA4.out.mono ?_
  intro e wc4 hp
  obtain ⟨vc4, rfl, Lc4, xc4⟩ := Lb4.post hp
  have BAc4 := BAb4.ext xc4 (Lb4.at_.apart BAb4 (by decide) (by decide))
  have BBc4 := BBb4.ext xc4 (Lb4.at_.apart BBb4 (by decide) (by decide))
  rw [HAD1.out.1]
  rw [HAD1.out.2] at Lc4
  clear hp Lb4 BAb4 BBb4 xc4
  go_wp2_with fail
  have xa5 : Ext [] wc4 (wc4.alloc (.cells #[.int .u8 121] 5 (1, 2))) := (Ext.refl _ _).alloc _
  refine (HKY.out _ _ (Lc4.x.trans xa5) (HBY.out wc4)).mono ?_
  rintro e wb5 ⟨rfl, xb5⟩
  have Lb5 := Lc4.ext0 (xa5.trans xb5)
  have BAb5 := BAc4.ext (xa5.trans xb5) (by simp)
  have BBb5 := BBc4.ext (xa5.trans xb5) (by simp)
  have HA5 := Lib.hid (radd_any bg _ _ K2 wb5 Lb5.at_ (by simp) hk2)
  clear Lc4 BAc4 BBc4 xa5 xb5
  go_wp2_with fail
  refine HA5.out.mono ?_
  intro e wc5 hp
  obtain ⟨vc5, rfl, Lc5, xc5⟩ := Lb5.post hp
  have BAc5 := BAb5.ext xc5 (Lb5.at_.apart BAb5 (by decide) (by decide))
  have BBc5 := BBb5.ext xc5 (Lb5.at_.apart BBb5 (by decide) (by decide))
  rw [HAD2.out.1]
  rw [HAD2.out.2] at Lc5
  clear hp Lb5 BAb5 BBb5 xc5
  have HS6 := Lib.hid (rspend_any bg _ _ 0 wc5 Lc5.at_ (by simp))
  go_wp2_with fail
  refine HS6.out.mono ?_
  intro e wc6 hp
  obtain ⟨vc6, rfl, Lc6, xc6⟩ := Lc5.post hp
  have BAc6 := BAc5.ext xc6 (Lc5.at_.apart BAc5 (by decide) (by decide))
  have BBc6 := BBc5.ext xc6 (Lc5.at_.apart BBc5 (by decide) (by decide))
  rw [HSP.out.1]
  rw [HSP.out.2] at Lc6
  clear hp Lc5 BAc5 BBc5 xc6
  have HF7 := Lib.hid (fun sv w' (x : Ext [] wc6 w') ho => (show Calls Tryd.prog 11 #[.pointer (some ⟨bg, 0, none⟩), .agg av.toArray, sv] w' fun e' w'' => e' = .returned (.tuple #[.int .i64 0, .int .i64 129]) ∧ Ext [] w' w'' from by
    have h := HFI.out bg vc6 _ a SA sv w' (Lc6.x.trans x) (Lc6.at_.ext0 x) (by simp) hal hA ho
    rw [H1.out, ← HAV.out] at h
    exact h))
  go_upto_region 4 with (fail)
  have zz7 : Ext [] wc6 wc6.drew := (Ext.refl _ _).drew
  refine wp_region_held_drew (S := fun w' => Ext [] wc6 w') (by kernel_rfl) zz7 (fun hS => ?_)
  refine wpAnyH_take (i := 0) (oi := ⟨some 37, _, _, _, _, _⟩) (v := ?_) rfl (by kernel_rfl) (by kernel_rfl) (by kernel_rfl) (fun _ _ _ h => h) (Or.inl ⟨by rfl, ?_⟩) (by assumption) ?_
  rotate_left 1
  · (intro w hSw; (try dsimp only at hSw); go_split_ands; go_simp; (try with_reducible rfl))
  try simp only [Act.put, List.setIfInBounds_toArray, List.set_cons_zero, List.set_cons_succ]
  refine wpAnyH_take (i := 1) (oi := ⟨some 38, _, _, _, _, _⟩) (v := .agg av.toArray) rfl (by kernel_rfl) (by kernel_rfl) (by kernel_rfl) (fun _ _ _ h => h) (yieldsIf_load_mid (by rfl) _ _ rfl w.heap.size 0 rfl av _ (fun w h => range_of_blk4 (BAc6.ext h (by simp))) hu3 rfl hsza) (by assumption) ?_
  try simp only [Act.put, List.setIfInBounds_toArray, List.set_cons_zero, List.set_cons_succ]
  refine wpAnyH_take (i := 4) (oi := ⟨some 41, _, _, _, _, _⟩) (v := .agg av.toArray) rfl (by kernel_rfl) (by kernel_rfl) (by kernel_rfl) (fun _ _ _ h => h) (yieldsIf_load_mid (by rfl) _ _ rfl w.heap.size 0 rfl av _ (fun w h => range_of_blk4 (BAc6.ext h (by simp))) hu3 rfl hsza) (by assumption) ?_
  try simp only [Act.put, List.setIfInBounds_toArray, List.set_cons_zero, List.set_cons_succ]
  refine wpAnyH_ready (rs := [2]) (by kernel_rfl) (by simp) ?_
  refine AllReadyH.cons (o := ⟨some 39, _, _, _, _, _⟩) rfl (fun K hK => ?_) AllReadyH.nil
  go_simp
  refine hK.out _ _ ((Ext.refl [] wc6).alloc _).drew (fun hS => ?_)
  clear hK K
  try simp only [Act.put, List.setIfInBounds_toArray, List.set_cons_zero, List.set_cons_succ]
  refine wpAnyH_ready (rs := [3]) (by kernel_rfl) (by simp) ?_
  refine AllReadyH.cons (o := ⟨some 40, _, _, _, _, _⟩) rfl (fun K hK => ?_) AllReadyH.nil
  have kcx := KXD.out wc6
  go_simp
  clear kcx
  refine hK.out _ _ ((Ext.refl [] wc6).alloc _).drew (fun hS => ?_)
  clear hK K
  try simp only [Act.put, List.setIfInBounds_toArray, List.set_cons_zero, List.set_cons_succ]
  refine wpAnyH_ready (rs := [5]) (by kernel_rfl) (by simp) ?_
  refine AllReadyH.cons (o := ⟨some 42, _, _, _, _, _⟩) rfl (fun K hK => ?_) AllReadyH.nil
  go_simp
  refine (HSA.out _ _ (Lc6.x.trans hS) (one_byte_drew wc6 120)).mono ?_
  rintro e W5 ⟨v5, rfl, hown5, x5, -⟩
  go_simp
  rw [hA] at hown5
  obtain ⟨g5, c5, cur5, rfl, -, -, -, -, -⟩ := owns_some hown5 (by omega)
  have hk := hS.trans x5
  refine hK.out _ _ hk (fun hS => ?_)
  clear hK K
  try simp only [Act.put, List.setIfInBounds_toArray, List.set_cons_zero, List.set_cons_succ]
  refine wpAnyH_ready (rs := [6]) (by kernel_rfl) (by simp) ?_
  refine AllReadyH.cons (o := ⟨some 43, _, _, _, _, _⟩) rfl (fun K hK => ?_) AllReadyH.nil
  go_simp
  refine (HF7.out _ _ hS hown5).mono ?_
  rintro e W6 ⟨rfl, x6⟩
  go_simp
  have hk := hS.trans x6
  refine hK.out _ _ hk (fun hS => ?_)
  clear hK K
  try simp only [Act.put, List.setIfInBounds_toArray, List.set_cons_zero, List.set_cons_succ]
  generalize W6 = wd7 at *
  refine wpAnyH_take (i := 7) (oi := ⟨some 36, _, _, _, _, _⟩) (v := ?_) rfl (by kernel_rfl) (by kernel_rfl) (by kernel_rfl) (fun _ _ _ h => h) (Or.inl ⟨by rfl, ?_⟩) (by assumption) ?_
  rotate_left 1
  · (intro w hSw; (try dsimp only at hSw); go_split_ands; go_simp; (try with_reducible rfl))
  try simp only [Act.put, List.setIfInBounds_toArray, List.set_cons_zero, List.set_cons_succ]
  refine wpAnyH_take (i := 8) (oi := ⟨some 44, _, _, _, _, _⟩) (v := ?_) rfl (by kernel_rfl) (by kernel_rfl) (by kernel_rfl) (fun _ _ _ h => h) (Or.inl ⟨by rfl, ?_⟩) (by assumption) ?_
  rotate_left 1
  · (intro w hSw; (try dsimp only at hSw); go_split_ands; go_simp; (try with_reducible rfl))
  try simp only [Act.put, List.setIfInBounds_toArray, List.set_cons_zero, List.set_cons_succ]
  refine wpAnyH_take (i := 10) (oi := ⟨some 6, _, _, _, _, _⟩) (v := ?_) rfl (by kernel_rfl) (by kernel_rfl) (by kernel_rfl) (fun _ _ _ h => h) (Or.inl ⟨by rfl, ?_⟩) (by assumption) ?_
  rotate_left 1
  · (intro w hSw; (try dsimp only at hSw); go_split_ands; go_simp; (try with_reducible rfl))
  try simp only [Act.put, List.setIfInBounds_toArray, List.set_cons_zero, List.set_cons_succ]
  refine wpAnyH_take (i := 9) (oi := ⟨some 45, _, _, _, _, _⟩) (v := ?_) rfl (by kernel_rfl) (by kernel_rfl) (by kernel_rfl) (fun _ _ _ h => h) (Or.inl ⟨by rfl, ?_⟩) (by assumption) ?_
  rotate_left 1
  · (intro w hSw; (try dsimp only at hSw); go_split_ands; go_simp; (try with_reducible rfl))
  try simp only [Act.put, List.setIfInBounds_toArray, List.set_cons_zero, List.set_cons_succ]
  refine wpAnyH_take (i := 11) (oi := ⟨some 7, _, _, _, _, _⟩) (v := ?_) rfl (by kernel_rfl) (by kernel_rfl) (by kernel_rfl) (fun _ _ _ h => h) (Or.inl ⟨by rfl, ?_⟩) (by assumption) ?_
  rotate_left 1
  · (intro w hSw; (try dsimp only at hSw); go_split_ands; go_simp; (try with_reducible rfl))
  try simp only [Act.put, List.setIfInBounds_toArray, List.set_cons_zero, List.set_cons_succ]
  refine wpAnyH_done (by kernel_rfl) ?_ _
  have Ld7 := Lc6.ext0 hS
  have BAd7 := BAc6.ext hS (by simp)
  have BBd7 := BBc6.ext hS (by simp)
  clear Lc6 BAc6 BBc6 HF7
  have HF8 := Lib.hid (fun sv w' (x : Ext [] wd7 w') ho => (show Calls Tryd.prog 11 #[.pointer (some ⟨bg, 0, none⟩), .agg bv.toArray, sv] w' fun e' w'' => e' = .returned (.tuple #[.int .i64 0, .int .i64 129]) ∧ Ext [] w' w'' from by
    have h := HFI.out bg vc6 _ b SB sv w' (Ld7.x.trans x) (Ld7.at_.ext0 x) (by simp) hbl hB ho
    rw [H2.out, ← HBV.out] at h
    exact h))
  go_upto_region 5 with (fail)
  have zz8 : Ext [] wd7 wd7.drew := (Ext.refl _ _).drew
  refine wp_region_held_drew (S := fun w' => Ext [] wd7 w') (by kernel_rfl) zz8 (fun hS => ?_)
  refine wpAnyH_take (i := 0) (oi := ⟨some 47, _, _, _, _, _⟩) (v := ?_) rfl (by kernel_rfl) (by kernel_rfl) (by kernel_rfl) (fun _ _ _ h => h) (Or.inl ⟨by rfl, ?_⟩) (by assumption) ?_
  rotate_left 1
  · (intro w hSw; (try dsimp only at hSw); go_split_ands; go_simp; (try with_reducible rfl))
  try simp only [Act.put, List.setIfInBounds_toArray, List.set_cons_zero, List.set_cons_succ]
  refine wpAnyH_take (i := 1) (oi := ⟨some 48, _, _, _, _, _⟩) (v := .agg bv.toArray) rfl (by kernel_rfl) (by kernel_rfl) (by kernel_rfl) (fun _ _ _ h => h) (yieldsIf_load_mid (by rfl) _ _ rfl (w.heap.size + 1) 0 rfl bv _ (fun w h => range_of_blk4 (BBd7.ext h (by simp))) hu3 rfl hszb) (by assumption) ?_
  try simp only [Act.put, List.setIfInBounds_toArray, List.set_cons_zero, List.set_cons_succ]
  refine wpAnyH_take (i := 4) (oi := ⟨some 51, _, _, _, _, _⟩) (v := .agg bv.toArray) rfl (by kernel_rfl) (by kernel_rfl) (by kernel_rfl) (fun _ _ _ h => h) (yieldsIf_load_mid (by rfl) _ _ rfl (w.heap.size + 1) 0 rfl bv _ (fun w h => range_of_blk4 (BBd7.ext h (by simp))) hu3 rfl hszb) (by assumption) ?_
  try simp only [Act.put, List.setIfInBounds_toArray, List.set_cons_zero, List.set_cons_succ]
  refine wpAnyH_ready (rs := [2]) (by kernel_rfl) (by simp) ?_
  refine AllReadyH.cons (o := ⟨some 49, _, _, _, _, _⟩) rfl (fun K hK => ?_) AllReadyH.nil
  go_simp
  refine hK.out _ _ ((Ext.refl [] wd7).alloc _).drew (fun hS => ?_)
  clear hK K
  try simp only [Act.put, List.setIfInBounds_toArray, List.set_cons_zero, List.set_cons_succ]
  refine wpAnyH_ready (rs := [3]) (by kernel_rfl) (by simp) ?_
  refine AllReadyH.cons (o := ⟨some 50, _, _, _, _, _⟩) rfl (fun K hK => ?_) AllReadyH.nil
  have kcx := KXD.out wd7
  go_simp
  clear kcx
  refine hK.out _ _ ((Ext.refl [] wd7).alloc _).drew (fun hS => ?_)
  clear hK K
  try simp only [Act.put, List.setIfInBounds_toArray, List.set_cons_zero, List.set_cons_succ]
  refine wpAnyH_ready (rs := [5]) (by kernel_rfl) (by simp) ?_
  refine AllReadyH.cons (o := ⟨some 52, _, _, _, _, _⟩) rfl (fun K hK => ?_) AllReadyH.nil
  go_simp
  refine (HSB.out _ _ (Ld7.x.trans hS) (one_byte_drew wd7 120)).mono ?_
  rintro e W5 ⟨v5, rfl, hown5, x5, -⟩
  go_simp
  rw [hB] at hown5
  obtain ⟨g5, c5, cur5, rfl, -, -, -, -, -⟩ := owns_some hown5 (by omega)
  have hk := hS.trans x5
  refine hK.out _ _ hk (fun hS => ?_)
  clear hK K
  try simp only [Act.put, List.setIfInBounds_toArray, List.set_cons_zero, List.set_cons_succ]
  refine wpAnyH_ready (rs := [6]) (by kernel_rfl) (by simp) ?_
  refine AllReadyH.cons (o := ⟨some 53, _, _, _, _, _⟩) rfl (fun K hK => ?_) AllReadyH.nil
  go_simp
  refine (HF8.out _ _ hS hown5).mono ?_
  rintro e W6 ⟨rfl, x6⟩
  go_simp
  have hk := hS.trans x6
  refine hK.out _ _ hk (fun hS => ?_)
  clear hK K
  try simp only [Act.put, List.setIfInBounds_toArray, List.set_cons_zero, List.set_cons_succ]
  generalize W6 = wd8 at *
  refine wpAnyH_take (i := 7) (oi := ⟨some 46, _, _, _, _, _⟩) (v := ?_) rfl (by kernel_rfl) (by kernel_rfl) (by kernel_rfl) (fun _ _ _ h => h) (Or.inl ⟨by rfl, ?_⟩) (by assumption) ?_
  rotate_left 1
  · (intro w hSw; (try dsimp only at hSw); go_split_ands; go_simp; (try with_reducible rfl))
  try simp only [Act.put, List.setIfInBounds_toArray, List.set_cons_zero, List.set_cons_succ]
  refine wpAnyH_take (i := 8) (oi := ⟨some 54, _, _, _, _, _⟩) (v := ?_) rfl (by kernel_rfl) (by kernel_rfl) (by kernel_rfl) (fun _ _ _ h => h) (Or.inl ⟨by rfl, ?_⟩) (by assumption) ?_
  rotate_left 1
  · (intro w hSw; (try dsimp only at hSw); go_split_ands; go_simp; (try with_reducible rfl))
  try simp only [Act.put, List.setIfInBounds_toArray, List.set_cons_zero, List.set_cons_succ]
  refine wpAnyH_take (i := 10) (oi := ⟨some 8, _, _, _, _, _⟩) (v := ?_) rfl (by kernel_rfl) (by kernel_rfl) (by kernel_rfl) (fun _ _ _ h => h) (Or.inl ⟨by rfl, ?_⟩) (by assumption) ?_
  rotate_left 1
  · (intro w hSw; (try dsimp only at hSw); go_split_ands; go_simp; (try with_reducible rfl))
  try simp only [Act.put, List.setIfInBounds_toArray, List.set_cons_zero, List.set_cons_succ]
  refine wpAnyH_take (i := 9) (oi := ⟨some 55, _, _, _, _, _⟩) (v := ?_) rfl (by kernel_rfl) (by kernel_rfl) (by kernel_rfl) (fun _ _ _ h => h) (Or.inl ⟨by rfl, ?_⟩) (by assumption) ?_
  rotate_left 1
  · (intro w hSw; (try dsimp only at hSw); go_split_ands; go_simp; (try with_reducible rfl))
  try simp only [Act.put, List.setIfInBounds_toArray, List.set_cons_zero, List.set_cons_succ]
  refine wpAnyH_take (i := 11) (oi := ⟨some 9, _, _, _, _, _⟩) (v := ?_) rfl (by kernel_rfl) (by kernel_rfl) (by kernel_rfl) (fun _ _ _ h => h) (Or.inl ⟨by rfl, ?_⟩) (by assumption) ?_
  rotate_left 1
  · (intro w hSw; (try dsimp only at hSw); go_split_ands; go_simp; (try with_reducible rfl))
  try simp only [Act.put, List.setIfInBounds_toArray, List.set_cons_zero, List.set_cons_succ]
  refine wpAnyH_done (by kernel_rfl) ?_ _
  have Ld8 := Ld7.ext0 hS
  have BAd8 := BAd7.ext hS (by simp)
  have BBd8 := BBd7.ext hS (by simp)
  clear Ld7 BAd7 BBd7 HF8
  have HF9 := Lib.hid (fun sv w' (x : Ext [] wd8 w') ho => (show Calls Tryd.prog 11 #[.pointer (some ⟨bg, 0, none⟩), .agg bv.toArray, sv] w' fun e' w'' => e' = .returned (.tuple #[.int .i64 1, .int .i64 0]) ∧ Ext [] w' w'' from by
    have h := HFI.out bg vc6 _ b SC sv w' (Ld8.x.trans x) (Ld8.at_.ext0 x) (by simp) hbl hC ho
    rw [H3.out, ← HBV.out] at h
    exact h))
  go_upto_region 6 with (fail)
  have zz9 : Ext [] wd8 wd8.drew := (Ext.refl _ _).drew
  refine wp_region_held_drew (S := fun w' => Ext [] wd8 w') (by kernel_rfl) zz9 (fun hS => ?_)
  refine wpAnyH_take (i := 0) (oi := ⟨some 57, _, _, _, _, _⟩) (v := ?_) rfl (by kernel_rfl) (by kernel_rfl) (by kernel_rfl) (fun _ _ _ h => h) (Or.inl ⟨by rfl, ?_⟩) (by assumption) ?_
  rotate_left 1
  · (intro w hSw; (try dsimp only at hSw); go_split_ands; go_simp; (try with_reducible rfl))
  try simp only [Act.put, List.setIfInBounds_toArray, List.set_cons_zero, List.set_cons_succ]
  refine wpAnyH_take (i := 1) (oi := ⟨some 58, _, _, _, _, _⟩) (v := .agg bv.toArray) rfl (by kernel_rfl) (by kernel_rfl) (by kernel_rfl) (fun _ _ _ h => h) (yieldsIf_load_mid (by rfl) _ _ rfl (w.heap.size + 1) 0 rfl bv _ (fun w h => range_of_blk4 (BBd8.ext h (by simp))) hu3 rfl hszb) (by assumption) ?_
  try simp only [Act.put, List.setIfInBounds_toArray, List.set_cons_zero, List.set_cons_succ]
  refine wpAnyH_take (i := 4) (oi := ⟨some 61, _, _, _, _, _⟩) (v := .agg bv.toArray) rfl (by kernel_rfl) (by kernel_rfl) (by kernel_rfl) (fun _ _ _ h => h) (yieldsIf_load_mid (by rfl) _ _ rfl (w.heap.size + 1) 0 rfl bv _ (fun w h => range_of_blk4 (BBd8.ext h (by simp))) hu3 rfl hszb) (by assumption) ?_
  try simp only [Act.put, List.setIfInBounds_toArray, List.set_cons_zero, List.set_cons_succ]
  refine wpAnyH_ready (rs := [2]) (by kernel_rfl) (by simp) ?_
  refine AllReadyH.cons (o := ⟨some 59, _, _, _, _, _⟩) rfl (fun K hK => ?_) AllReadyH.nil
  go_simp
  refine hK.out _ _ ((Ext.refl [] wd8).alloc _).drew (fun hS => ?_)
  clear hK K
  try simp only [Act.put, List.setIfInBounds_toArray, List.set_cons_zero, List.set_cons_succ]
  refine wpAnyH_ready (rs := [3]) (by kernel_rfl) (by simp) ?_
  refine AllReadyH.cons (o := ⟨some 60, _, _, _, _, _⟩) rfl (fun K hK => ?_) AllReadyH.nil
  have kcx := KYD.out wd8
  go_simp
  clear kcx
  refine hK.out _ _ ((Ext.refl [] wd8).alloc _).drew (fun hS => ?_)
  clear hK K
  try simp only [Act.put, List.setIfInBounds_toArray, List.set_cons_zero, List.set_cons_succ]
  refine wpAnyH_ready (rs := [5]) (by kernel_rfl) (by simp) ?_
  refine AllReadyH.cons (o := ⟨some 62, _, _, _, _, _⟩) rfl (fun K hK => ?_) AllReadyH.nil
  go_simp
  refine (HSC.out _ _ (Ld8.x.trans hS) (one_byte_drew wd8 121)).mono ?_
  rintro e W5 ⟨v5, rfl, hown5, x5, -⟩
  go_simp
  rw [hC] at hown5
  obtain ⟨g5, c5, cur5, rfl, -, -, -, -, -⟩ := owns_some hown5 (by omega)
  have hk := hS.trans x5
  refine hK.out _ _ hk (fun hS => ?_)
  clear hK K
  try simp only [Act.put, List.setIfInBounds_toArray, List.set_cons_zero, List.set_cons_succ]
  refine wpAnyH_ready (rs := [6]) (by kernel_rfl) (by simp) ?_
  refine AllReadyH.cons (o := ⟨some 63, _, _, _, _, _⟩) rfl (fun K hK => ?_) AllReadyH.nil
  go_simp
  refine (HF9.out _ _ hS hown5).mono ?_
  rintro e W6 ⟨rfl, x6⟩
  go_simp
  have hk := hS.trans x6
  refine hK.out _ _ hk (fun hS => ?_)
  clear hK K
  try simp only [Act.put, List.setIfInBounds_toArray, List.set_cons_zero, List.set_cons_succ]
  generalize W6 = wd9 at *
  refine wpAnyH_take (i := 7) (oi := ⟨some 56, _, _, _, _, _⟩) (v := ?_) rfl (by kernel_rfl) (by kernel_rfl) (by kernel_rfl) (fun _ _ _ h => h) (Or.inl ⟨by rfl, ?_⟩) (by assumption) ?_
  rotate_left 1
  · (intro w hSw; (try dsimp only at hSw); go_split_ands; go_simp; (try with_reducible rfl))
  try simp only [Act.put, List.setIfInBounds_toArray, List.set_cons_zero, List.set_cons_succ]
  refine wpAnyH_take (i := 8) (oi := ⟨some 64, _, _, _, _, _⟩) (v := ?_) rfl (by kernel_rfl) (by kernel_rfl) (by kernel_rfl) (fun _ _ _ h => h) (Or.inl ⟨by rfl, ?_⟩) (by assumption) ?_
  rotate_left 1
  · (intro w hSw; (try dsimp only at hSw); go_split_ands; go_simp; (try with_reducible rfl))
  try simp only [Act.put, List.setIfInBounds_toArray, List.set_cons_zero, List.set_cons_succ]
  refine wpAnyH_take (i := 10) (oi := ⟨some 10, _, _, _, _, _⟩) (v := ?_) rfl (by kernel_rfl) (by kernel_rfl) (by kernel_rfl) (fun _ _ _ h => h) (Or.inl ⟨by rfl, ?_⟩) (by assumption) ?_
  rotate_left 1
  · (intro w hSw; (try dsimp only at hSw); go_split_ands; go_simp; (try with_reducible rfl))
  try simp only [Act.put, List.setIfInBounds_toArray, List.set_cons_zero, List.set_cons_succ]
  refine wpAnyH_take (i := 9) (oi := ⟨some 65, _, _, _, _, _⟩) (v := ?_) rfl (by kernel_rfl) (by kernel_rfl) (by kernel_rfl) (fun _ _ _ h => h) (Or.inl ⟨by rfl, ?_⟩) (by assumption) ?_
  rotate_left 1
  · (intro w hSw; (try dsimp only at hSw); go_split_ands; go_simp; (try with_reducible rfl))
  try simp only [Act.put, List.setIfInBounds_toArray, List.set_cons_zero, List.set_cons_succ]
  refine wpAnyH_take (i := 11) (oi := ⟨some 11, _, _, _, _, _⟩) (v := ?_) rfl (by kernel_rfl) (by kernel_rfl) (by kernel_rfl) (fun _ _ _ h => h) (Or.inl ⟨by rfl, ?_⟩) (by assumption) ?_
  rotate_left 1
  · (intro w hSw; (try dsimp only at hSw); go_split_ands; go_simp; (try with_reducible rfl))
  try simp only [Act.put, List.setIfInBounds_toArray, List.set_cons_zero, List.set_cons_succ]
  refine wpAnyH_done (by kernel_rfl) ?_ _
  have Ld9 := Ld8.ext0 hS
  have BAd9 := BAd8.ext hS (by simp)
  have BBd9 := BBd8.ext hS (by simp)
  clear Ld8 BAd8 BBd8 HF9
  clear HFI HSA HSB HSC KXD KYD
  go_wp2_with fail
  have xa10 : Ext [] wd9 (wd9.alloc (.cells #[.int .u8 120] 5 (1, 2))) := (Ext.refl _ _).alloc _
  refine (HKX.out _ _ (Ld9.x.trans xa10) (HBX.out wd9)).mono ?_
  rintro e we10 ⟨rfl, xb10⟩
  have Le10 := Ld9.ext0 (xa10.trans xb10)
  have HH10 := Lib.hid (rhas_any bg _ _ K1 we10 Le10.at_ (by simp) hk1)
  rw [HHAS.out.1] at HH10
  clear Ld9 xa10 xb10
  go_wp2_with fail
  refine HH10.out.mono ?_
  rintro e wf10 ⟨rfl, xf10⟩
  have Lf10 := Le10.ext0 xf10
  clear Le10 HH10 xf10
  go_wp2_with fail
  have xa11 : Ext [] wf10 (wf10.alloc (.cells #[.int .u8 121] 5 (1, 2))) := (Ext.refl _ _).alloc _
  refine (HKY.out _ _ (Lf10.x.trans xa11) (HBY.out wf10)).mono ?_
  rintro e we11 ⟨rfl, xb11⟩
  have Le11 := Lf10.ext0 (xa11.trans xb11)
  have HH11 := Lib.hid (rhas_any bg _ _ K2 we11 Le11.at_ (by simp) hk2)
  rw [HHAS.out.2] at HH11
  clear Lf10 xa11 xb11
  go_wp2_with fail
  refine HH11.out.mono ?_
  rintro e wf11 ⟨rfl, xf11⟩
  have Lf11 := Le11.ext0 xf11
  clear Le11 HH11 xf11
  go_wp2_with fail
  refine (Lib.hid (rspend_any bg _ _ 2 wf11 Lf11.at_ (by simp))).out.mono ?_
  intro e wg12 hp
  obtain ⟨vg12, rfl, Lg12, xg12⟩ := Lf11.post hp
  rw [HSP2.out.1]
  rw [HSP2.out.2] at Lg12
  clear hp Lf11 xg12
  go_wp2_with fail
  refine (Lib.hid (rspend_any bg _ _ (-1) wg12 Lg12.at_ (by simp))).out.mono ?_
  intro e wg13 hp
  obtain ⟨vg13, rfl, Lg13, xg13⟩ := Lg12.post hp
  rw [HSP3.out.1]
  rw [HSP3.out.2] at Lg13
  clear hp Lg12 xg13
  go_wp2_with fail
  go_ret
  exact ⟨rfl, Lg13.x⟩
end Go.Proofs.YtgcbgeombbohpaaDoor
