/- The law RegistryOrder: the walk. -/
import Derived.Deep.RegionHeld3
import Derived.Test.YtgcbgeombbohpaaDoorRegM
namespace Go.Proofs.YtgcbgeombbohpaaDoor
open Go.RowKit
set_option maxRecDepth 100000

theorem one_lit (w : World) (k : Nat) (hk : k < 256) : Reads (w.alloc (.cells #[.int .u8 (k : Int)] 5)) (.slice (some ⟨w.heap.size, 0, none⟩) 1 1) 1 1 (bytesV [UInt8.ofNat k]) := by
  refine ⟨_, _, rfl, rfl, (fun e => by cases e), fun ad e j u hu => ?_⟩
  obtain rfl := Option.some.inj e
  rw [Addr.add_lit, Nat.zero_add]
  have e1 : bytesV [UInt8.ofNat k] = [.int .u8 (k : Int)] := by simp [bytesV, Nat.mod_eq_of_lt hk]
  rw [e1] at hu
  simp [World.cell?, World.alloc, -World.alloc_eq]
  exact hu
theorem one_lit_drew (w : World) (k : Nat) (hk : k < 256) : Reads (w.alloc (.cells #[.int .u8 (k : Int)] 5)).drew (.slice (some ⟨w.heap.size, 0, none⟩) 1 1) 1 1 (bytesV [UInt8.ofNat k]) := one_lit w k hk
theorem u8_wrap_small (k : Nat) (h : k < 256) : IntKind.u8.wrap (k : Int) = (k : Int) := by
  simp [IntKind.wrap, IntKind.bits, IntKind.signed]; omega

theorem RegL.ext1 {w0 w w' : World} {b bs : Nat} {v : Value} {es : List RE} {T : TypeId} {cs : List Value} (h : RegL w0 w b v es) (x : Ext [bs] w w') (hb : Blk w bs T cs) (h1 : T ≠ 59) (h2 : T ≠ 62) (hf : w0.heap.size ≤ bs) : RegL w0 w' b v es := by
  have ha := h.at_.apart hb h1 h2
  refine ⟨h.at_.ext x ?_ ?_, h.x.trans' x (by simp; exact hf), h.hb, h.hv⟩
  · intro hm
    obtain rfl : b = bs := by simpa using hm
    exact ha (by simp)
  · intro g hg hm
    obtain rfl : g = bs := by simpa using hm
    exact ha (by simp [hg])

def OrdS (w wr : World) (bg bs : Nat) (KK : Nat → List UInt8) (av : List Value) : Prop := ∃ v sp, RegL w wr bg v (esO KK sp 4) ∧ Blk wr w.heap.size 22 av ∧ Blk wr bs 31 (spV sp)
theorem OrdS.mk {w wr : World} {bg bs : Nat} {KK : Nat → List UInt8} {av : List Value} {v : Value} {sp : Nat → Bool} (h1 : RegL w wr bg v (esO KK sp 4)) (h2 : Blk wr w.heap.size 22 av) (h3 : Blk wr bs 31 (spV sp)) : OrdS w wr bg bs KK av := ⟨v, sp, h1, h2, h3⟩

set_option maxHeartbeats 16000000 in
theorem order_core (w : World) (sum : List UInt8) (KK SG : Nat → List UInt8) (G : DigG w) (hsl : sum.length = 32) (a1 : Option Addr) (len1 cap1 : Nat) (z1 : List Int) (r1 : IsRow .i64 w a1 len1 cap1 z1)
    (HKEY : Hid (∀ k, k < 4 → ∀ v w', Ext [] w w' → Reads w' v 1 1 (bytesV [UInt8.ofNat k]) → Calls Tryd.prog 10 #[v] w' fun e w'' => e = .returned (.agg (bytesV (KK k)).toArray) ∧ Ext [] w' w''))
    (HSIGN : Hid (∀ k, k < 4 → ∀ v w', Ext [] w w' → Reads w' v 1 1 (bytesV [UInt8.ofNat k]) → Calls Tryd.prog 12 #[v, .agg (bytesV sum).toArray] w' fun e w'' => BytesPost w' (SG k) e w''))
    (HSL : Hid (∀ k, (SG k).length = 2048)) (HKL : Hid (∀ k, (KK k).length = 32)) (HNE : Hid (∀ i k, i < k → k < 4 → KK i ≠ KK k))
    (HVE : Hid (∀ k, k < 4 → ∀ i, i < 4 → (verR (KK i) sum (SG k) = 0 ↔ i = k))) :
    Calls Tryd.prog 3 #[.agg (bytesV sum).toArray, .slice a1 len1 cap1] w fun e w' => e = .returned (.bool true) ∧ Ext [] w w' := by
  have HG := Lib.hid (fun w' (x' : Ext [] w w') => G.ext x' (by simp) (by simp))
  have HFI := Lib.hid (fun k (hk : k < 4) b' v sp sv w' (x : Ext [] w w') (h : RegAt w' b' v (esO KK sp 4)) ho => (show Calls Tryd.prog 11 #[.pointer (some ⟨b', 0, none⟩), .agg (bytesV sum).toArray, sv] w' fun e' w'' => e' = .returned (if sp k = true then .tuple #[.int .i64 0, .int .i64 129] else .tuple #[.int .i64 (k : Int), .int .i64 0]) ∧ Ext [] w' w'' from by
    have h := rfindS_any b' v _ sum (SG k) sv w' (HG.out w' x) h (by rw [esO_length]; omega) hsl (HSL.out k) ho
    rw [esO_fs KK sp 4 k hk sum (SG k) (HSL.out k) (HVE.out k hk)] at h
    exact h))
  have HAD := Lib.hid (fun n (hn : n < 4) => esO_add KK n (by omega) (fun i hi => HNE.out i n hi hn))
  have HONE := Lib.hid one_lit
  have HSPD := Lib.hid (fun sp k hk h => esO_spend KK sp 4 k hk h)
  have HEL := Lib.hid (esO_length KK)
  have hav : (bytesV sum).length = 32 := by rw [bytesV_length, hsl]
  obtain ⟨av, hava⟩ : ∃ av, av = bytesV sum := ⟨_, rfl⟩
  rw [← hava] at hav HSIGN HFI ⊢
  clear hava G
  have hu3 := Tryd.underlying22
  have hsza : (Tryd.prog.info? 22).map (·.size) = some av.length := by rw [hav]; kernel_rfl
  obtain ⟨hl, hm, -, b1, off1, hA, hB, hC⟩ := r1.at
  have HA := Lib.hid hA
  have HC := Lib.hid hC
  have HLEN := Lib.hid hl
  unfold maxLen at hm
  clear hA hC r1
  go_enter Tryd.func3, Tryd.ntmps3
  go_upto_region 1 with (fail)
  show Code.wp _ _ _ _ (w.alloc (.cells av.toArray 22))
  have BA : Blk (w.alloc (.cells av.toArray 22)) w.heap.size 22 av := Blk.new w _ av.toArray
  have x1 : Ext [] w (w.alloc (.cells av.toArray 22)) := (Ext.refl _ _).alloc _
  generalize w.alloc (.cells av.toArray 22) = w1 at *
  go_wp2_with fail
  refine (rnew_any w1).mono ?_
  rintro e w2 ⟨bg, rfl, hR0, x2, hb⟩
  have L2 : RegL w w2 bg (.slice none 0 0) (esO KK (fun _ => false) 0) := ⟨hR0, x1.trans x2, Nat.le_trans x1.size hb, fun g hg => by cases hg⟩
  have BA2 := BA.ext x2 (by simp)
  clear hR0 x1 x2 BA hb
  go_wp2_with fail
  refine (keeps_any w2 (HG.out _ L2.x)).mono ?_
  rintro e w3 ⟨rfl, x3⟩
  have L3 := L2.ext0 x3
  have BA3 := BA2.ext x3 (by simp)
  clear L2 x3 BA2
  go_wp2_with fail
  go_loopw [6] (fun i wr => ∃ k v, k ≤ 4 ∧ i = .int .i64 ((k : Nat) : Int) ∧ RegL w wr bg v (esO KK (fun _ => false) k) ∧ Blk wr w.heap.size 22 av) (fun i _ => 4 - (intOf i).toNat)
  case atStart => exact ⟨0, _, by omega, rfl, L3, BA3⟩
  case round =>
    obtain ⟨k, v, hk, rfl, L, B⟩ := hrel
    by_cases hlt : k < 4
    · have hw1 : IntKind.u8.wrap (k : Int) = (k : Int) := u8_wrap_small k (by omega)
      go_wp2_with fail
      have xa : Ext [] wr (wr.alloc (.cells #[.int .u8 (k : Int)] 5)) := (Ext.refl _ _).alloc _
      refine (HKEY.out k hlt _ _ (L.x.trans xa) (HONE.out wr k (by omega))).mono ?_
      rintro e wb ⟨rfl, xb⟩
      have Lb := L.ext0 (xa.trans xb)
      have Bb := B.ext (xa.trans xb) (by simp)
      have HAk := Lib.hid (radd_any bg v _ (KK k) wb Lb.at_ (by rw [HEL.out]; omega) (HKL.out k))
      clear L B xa xb
      generalize (bytesV (KK k)).toArray = kv at *
      go_wp2_with fail
      refine HAk.out.mono ?_
      intro e wc hp
      obtain ⟨vc, rfl, Lc, xc⟩ := Lb.post hp
      have Bc := Bb.ext xc (Lb.at_.apart Bb (by decide) (by decide))
      rw [(HAD.out k hlt).1]
      rw [(HAD.out k hlt).2] at Lc
      clear hp Lb Bb xc HAk hw1
      go_wp2_with fail
      go_roundw
      case rel => exact ⟨k + 1, vc, by omega, by go_num, Lc, Bc⟩
      case measure => simp [intOf]; omega
    · obtain rfl : k = 4 := by omega
      go_wp2_with fail
      have L4 : RegL w (wr.alloc (.cells #[.bool false, .bool false, .bool false, .bool false] 31)) bg v (esO KK (fun _ => false) 4) := L.ext0 ((Ext.refl _ _).alloc _)
      have BS4 : Blk (wr.alloc (.cells #[.bool false, .bool false, .bool false, .bool false] 31)) wr.heap.size 31 (spV (fun _ => false)) := Blk.new _ _ _
      have BA4 : Blk (wr.alloc (.cells #[.bool false, .bool false, .bool false, .bool false] 31)) w.heap.size 22 av := B.alloc _
      have hbs : w.heap.size < wr.heap.size := B.lt
      have X4 := L4.x
      clear L B
      generalize wr.alloc (.cells #[.bool false, .bool false, .bool false, .bool false] 31) = w4 at *
      generalize wr.heap.size = bs at *
      try generalize Value.bool (decide (((4 : Nat) : Int) < 4)) = q16
      generalize Value.int IntKind.i64 ((4 : Nat) : Int) = q6
      go_loopw [8] (fun i wr => ∃ j : Nat, j ≤ len1 ∧ j ≤ 7 ∧ i = .int .i64 (j : Int) ∧ OrdS w wr bg bs KK av) (fun i _ => 7 - (intOf i).toNat)
      case atStart => exact ⟨0, by omega, by omega, rfl, OrdS.mk L4 BA4 BS4⟩
      case round =>
        clear L4 BA4 BS4 X4
        obtain ⟨j, hj, hj7, rfl, v2, sp, L, B, BS⟩ := hrel
        by_cases hlt : j < len1 ∧ j < 7
        · obtain ⟨hlt, hl7⟩ := hlt
          obtain rfl := HA.out (by omega)
          have hcell : wr.cell? ⟨b1, off1 + j, none⟩ = some (.int .i64 (z1.getD j 0)) := by
            rw [L.x.cell (p := ⟨b1, off1 + j, none⟩) (hB (by omega)) (by simp)]; exact HC.out j (by omega)
          obtain ⟨q, hq, hq4⟩ := mod_nat (z1.getD j 0) 4 (by omega) (by omega)
          generalize z1.getD j 0 = zz at *
          go_upto_region 14 with (fail)
          rw [show wrap64 ((IntKind.u64.wrap zz).tmod 4) = (q : Int) from hq]
          have hw1 : IntKind.u8.wrap (q : Int) = (q : Int) := u8_wrap_small q (by omega)
          clear hq hcell
          obtain ⟨A, E, hAE, hAEs⟩ : ∃ A E : Int, (if sp q = true then Value.tuple #[.int .i64 0, .int .i64 129] else .tuple #[.int .i64 (q : Int), .int .i64 0]) = .tuple #[.int .i64 A, .int .i64 E] ∧ ((sp q = true ∧ E = 129) ∨ (sp q = false ∧ E = 0 ∧ A = (q : Int))) := by
            by_cases h : sp q = true
            · exact ⟨0, 129, by rw [if_pos h], Or.inl ⟨h, rfl⟩⟩
            · exact ⟨q, 0, by rw [if_neg h], Or.inr ⟨by simpa using h, rfl, rfl⟩⟩
          have HF := Lib.hid (fun sv w' (x : Ext [] wr w') ho => (show Calls Tryd.prog 11 #[.pointer (some ⟨bg, 0, none⟩), .agg av.toArray, sv] w' fun e' w'' => e' = .returned (.tuple #[.int .i64 A, .int .i64 E]) ∧ Ext [] w' w'' from by
            have h := HFI.out q hq4 bg v2 sp sv w' (L.x.trans x) (L.at_.ext0 x) ho
            rw [hAE] at h
            exact h))
          clear hAE
          have hN : (SG q).length = 2048 := HSL.out q
          have zz1 : Ext [] wr wr.drew := (Ext.refl _ _).drew
          refine wp_region_held_drew (S := fun w' => Ext [] wr w') (by kernel_rfl) zz1 (fun hS => ?_)
          refine wpAnyH_take (i := 0) (oi := ⟨some 44, _, _, _, _, _⟩) (v := ?_) rfl (by kernel_rfl) (by kernel_rfl) (by kernel_rfl) (fun _ _ _ h => h) (Or.inl ⟨by rfl, ?_⟩) (by assumption) ?_
          rotate_left 1
          · (intro w hSw; (try dsimp only at hSw); go_split_ands; go_simp; (try with_reducible rfl))
          try simp only [Act.put, List.setIfInBounds_toArray, List.set_cons_zero, List.set_cons_succ]
          refine wpAnyH_take (i := 1) (oi := ⟨some 45, _, _, _, _, _⟩) (v := .agg av.toArray) rfl (by kernel_rfl) (by kernel_rfl) (by kernel_rfl) (fun _ _ _ h => h) (yieldsIf_load_mid (by rfl) _ _ rfl w.heap.size 0 rfl av _ (fun w h => range_of_blk4 (B.ext h (by simp))) hu3 rfl hsza) (by assumption) ?_
          try simp only [Act.put, List.setIfInBounds_toArray, List.set_cons_zero, List.set_cons_succ]
          refine wpAnyH_take (i := 2) (oi := ⟨some 46, _, _, _, _, _⟩) (v := ?_) rfl (by kernel_rfl) (by kernel_rfl) (by kernel_rfl) (fun _ _ _ h => h) (Or.inl ⟨by rfl, ?_⟩) (by assumption) ?_
          rotate_left 1
          · (intro w hSw; (try dsimp only at hSw); go_split_ands; go_simp; (try with_reducible rfl))
          try simp only [Act.put, List.setIfInBounds_toArray, List.set_cons_zero, List.set_cons_succ]
          refine wpAnyH_take (i := 3) (oi := ⟨some 47, _, _, _, _, _⟩) (v := ?_) rfl (by kernel_rfl) (by kernel_rfl) (by kernel_rfl) (fun _ _ _ h => h) (Or.inl ⟨by rfl, ?_⟩) (by assumption) ?_
          rotate_left 1
          · (intro w hSw; (try dsimp only at hSw); go_split_ands; go_simp; (try with_reducible rfl))
          try simp only [Act.put, List.setIfInBounds_toArray, List.set_cons_zero, List.set_cons_succ]
          refine wpAnyH_take (i := 5) (oi := ⟨some 49, _, _, _, _, _⟩) (v := .agg av.toArray) rfl (by kernel_rfl) (by kernel_rfl) (by kernel_rfl) (fun _ _ _ h => h) (yieldsIf_load_mid (by rfl) _ _ rfl w.heap.size 0 rfl av _ (fun w h => range_of_blk4 (B.ext h (by simp))) hu3 rfl hsza) (by assumption) ?_
          try simp only [Act.put, List.setIfInBounds_toArray, List.set_cons_zero, List.set_cons_succ]
          refine wpAnyH_ready (rs := [4]) (by kernel_rfl) (by simp) ?_
          refine AllReadyH.cons (o := ⟨some 48, _, _, _, _, _⟩) rfl (fun K hK => ?_) AllReadyH.nil
          go_simp
          refine hK.out _ _ ((Ext.refl [] wr).alloc _).drew (fun hS => ?_)
          clear hK K
          try simp only [Act.put, List.setIfInBounds_toArray, List.set_cons_zero, List.set_cons_succ]
          refine wpAnyH_ready (rs := [6]) (by kernel_rfl) (by simp) ?_
          refine AllReadyH.cons (o := ⟨some 50, _, _, _, _, _⟩) rfl (fun K hK => ?_) AllReadyH.nil
          go_simp
          refine (HSIGN.out q hq4 _ _ (L.x.trans hS) (one_lit_drew wr q (by omega))).mono ?_
          rintro e W6 ⟨v5, rfl, hown5, x5, -⟩
          go_simp
          rw [hN] at hown5
          obtain ⟨g5, c5, cur5, rfl, -, -, -, -, -⟩ := owns_some hown5 (by omega)
          have hk := hS.trans x5
          refine hK.out _ _ hk (fun hS => ?_)
          clear hK K
          try simp only [Act.put, List.setIfInBounds_toArray, List.set_cons_zero, List.set_cons_succ]
          refine wpAnyH_ready (rs := [7]) (by kernel_rfl) (by simp) ?_
          refine AllReadyH.cons (o := ⟨some 51, _, _, _, _, _⟩) rfl (fun K hK => ?_) AllReadyH.nil
          go_simp
          refine (HF.out _ _ hS hown5).mono ?_
          rintro e W7 ⟨rfl, x6⟩
          go_simp
          have hk := hS.trans x6
          refine hK.out _ _ hk (fun hS => ?_)
          clear hK K
          try simp only [Act.put, List.setIfInBounds_toArray, List.set_cons_zero, List.set_cons_succ]
          generalize W7 = wd at *
          refine wpAnyH_take (i := 8) (oi := ⟨some 43, _, _, _, _, _⟩) (v := ?_) rfl (by kernel_rfl) (by kernel_rfl) (by kernel_rfl) (fun _ _ _ h => h) (Or.inl ⟨by rfl, ?_⟩) (by assumption) ?_
          rotate_left 1
          · (intro w hSw; (try dsimp only at hSw); go_split_ands; go_simp; (try with_reducible rfl))
          try simp only [Act.put, List.setIfInBounds_toArray, List.set_cons_zero, List.set_cons_succ]
          refine wpAnyH_take (i := 9) (oi := ⟨some 52, _, _, _, _, _⟩) (v := ?_) rfl (by kernel_rfl) (by kernel_rfl) (by kernel_rfl) (fun _ _ _ h => h) (Or.inl ⟨by rfl, ?_⟩) (by assumption) ?_
          rotate_left 1
          · (intro w hSw; (try dsimp only at hSw); go_split_ands; go_simp; (try with_reducible rfl))
          try simp only [Act.put, List.setIfInBounds_toArray, List.set_cons_zero, List.set_cons_succ]
          refine wpAnyH_take (i := 11) (oi := ⟨some 10, _, _, _, _, _⟩) (v := ?_) rfl (by kernel_rfl) (by kernel_rfl) (by kernel_rfl) (fun _ _ _ h => h) (Or.inl ⟨by rfl, ?_⟩) (by assumption) ?_
          rotate_left 1
          · (intro w hSw; (try dsimp only at hSw); go_split_ands; go_simp; (try with_reducible rfl))
          try simp only [Act.put, List.setIfInBounds_toArray, List.set_cons_zero, List.set_cons_succ]
          refine wpAnyH_take (i := 10) (oi := ⟨some 53, _, _, _, _, _⟩) (v := ?_) rfl (by kernel_rfl) (by kernel_rfl) (by kernel_rfl) (fun _ _ _ h => h) (Or.inl ⟨by rfl, ?_⟩) (by assumption) ?_
          rotate_left 1
          · (intro w hSw; (try dsimp only at hSw); go_split_ands; go_simp; (try with_reducible rfl))
          try simp only [Act.put, List.setIfInBounds_toArray, List.set_cons_zero, List.set_cons_succ]
          refine wpAnyH_take (i := 12) (oi := ⟨some 11, _, _, _, _, _⟩) (v := ?_) rfl (by kernel_rfl) (by kernel_rfl) (by kernel_rfl) (fun _ _ _ h => h) (Or.inl ⟨by rfl, ?_⟩) (by assumption) ?_
          rotate_left 1
          · (intro w hSw; (try dsimp only at hSw); go_split_ands; go_simp; (try with_reducible rfl))
          try simp only [Act.put, List.setIfInBounds_toArray, List.set_cons_zero, List.set_cons_succ]
          refine wpAnyH_done (by kernel_rfl) ?_ _
          have L5 := L.ext0 hS
          have B5 := B.ext hS (by simp)
          have BS5 := BS.ext hS (by simp)
          clear L B BS HF hS hk zz1
          have hsc : wd.cell? ⟨bs, q, none⟩ = some (.bool (sp q)) := by rw [BS5.cell q]; exact spV_at sp q hq4
          rcases hAEs with ⟨hsp, rfl⟩ | ⟨hsp, rfl, rfl⟩
          · rw [hsp] at hsc
            go_wp2_with fail
            go_roundw
            case rel => exact ⟨j + 1, by omega, by omega, by go_num, OrdS.mk L5 B5 BS5⟩
            case measure => simp [intOf]; omega
          · rw [hsp] at hsc
            have HSPq := Lib.hid hsp
            clear hsp
            go_wp2_with fail
            refine (rspend_any bg v2 _ (q : Int) wd L5.at_ (by rw [HEL.out]; omega)).mono ?_
            intro e w6 hp
            obtain ⟨v6, rfl, L6, x6⟩ := L5.post hp
            have B6 := B5.ext x6 (L5.at_.apart B5 (by decide) (by decide))
            have BS6 := BS5.ext x6 (L5.at_.apart BS5 (by decide) (by decide))
            rw [(HSPD.out sp q hq4 HSPq.out).1]
            rw [(HSPD.out sp q hq4 HSPq.out).2] at L6
            have hfr : w6.frozen? ⟨bs, q, none⟩ = false := BS6.frozen q
            have hsc6 : w6.cell? ⟨bs, q, none⟩ = some (.bool (sp q)) := by rw [BS6.cell q]; exact spV_at sp q hq4
            clear hp L5 B5 BS5 x6 hsc
            go_wp2_with fail
            go_roundw
            case rel =>
              have hq1 : q < (spV sp).length := by simp [spV]; omega
              have BS7 := BS6.set q (.bool true)
              rw [spV_set] at BS7
              exact ⟨j + 1, by omega, by omega, by go_num, OrdS.mk (L6.ext1 ((Ext.refl _ _).setCell (p := ⟨bs, q, none⟩) (by simp) _) BS6 (by decide) (by decide) (by omega)) (B6.setOther (p := ⟨bs, q, none⟩) (by simp; omega) _) BS7⟩
            case measure => simp [intOf]; omega
        · have X := L.x
          have HL4 := Lib.hid (rlen_any bg v2 _ wr L.at_)
          by_cases hl1 : j < len1
          all_goals
            go_wp2_with fail
            refine HL4.out.mono ?_
            rintro e w9 ⟨rfl, rfl⟩
            rw [HEL.out]
            go_wp2_with fail
            go_ret
            exact ⟨rfl, X⟩
end Go.Proofs.YtgcbgeombbohpaaDoor
