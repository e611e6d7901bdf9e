/- The law DigestJoins: the walk. -/
import Derived.Test.YtgpegjadjidjmaaDoorDSums
namespace Go.Proofs.YtgpegjadjidjmaaDoor
open Go.RowKit

theorem cutsOf_getD (n m i : Nat) (bs : List (List UInt8)) (hi : i < n) (hb : i < bs.length) : (cutsOf n m bs).getD i [] = (bs.getD i []).take m := by
  unfold cutsOf
  simp [List.getD, hi, hb]
theorem cutsOf_length (n m : Nat) (bs : List (List UInt8)) (hn : n ≤ bs.length) : (cutsOf n m bs).length = n := by
  unfold cutsOf; rw [List.length_map, List.length_take]; omega
theorem joinB_le_of (m : Nat) : ∀ (bs : List (List UInt8)), (∀ b ∈ bs, b.length ≤ m) → (joinB bs).length ≤ (m + 8) * bs.length
  | [], _ => by simp [joinB]
  | b :: r, h => by
    have := joinB_le_of m r (fun x hx => h x (by simp [hx]))
    have hb := h b (by simp)
    have e : joinB (b :: r) = be8 b.length ++ b ++ joinB r := by simp [joinB]
    rw [e, List.length_append, List.length_append, be8_length, List.length_cons, Nat.mul_succ]
    omega
theorem cutsOf_le (n m : Nat) (bs : List (List UInt8)) : ∀ b ∈ cutsOf n m bs, b.length ≤ m := by
  intro b hb
  unfold cutsOf at hb
  obtain ⟨x, _, rfl⟩ := List.mem_map.1 hb
  rw [List.length_take]; omega

theorem Reads.take {w : World} {ua : Option Addr} {uc : Nat} {b : List UInt8} (h : Reads w (.slice ua b.length uc) 1 b.length (bytesV b)) (k : Nat) (hk : k ≤ b.length) : Reads w (.slice ua k uc) 1 (b.take k).length (bytesV (b.take k)) := by
  obtain ⟨ao, c, he, -, hn, hc⟩ := h
  cases he
  refine ⟨ua, uc, by rw [List.length_take, Nat.min_eq_left hk], by rw [bytesV_length]; omega, fun e => ?_, fun ad e j u hu => hc ad e j u ?_⟩
  · have := hn e; rw [List.length_take]; exact ⟨by omega, this.2⟩
  · unfold bytesV at hu ⊢
    rw [List.map_take, List.getElem?_take] at hu
    split at hu
    · exact hu
    · cases hu

theorem Reads.drop {w : World} {ua : Option Addr} {uc : Nat} {b : List UInt8} (h : Reads w (.slice ua b.length uc) 1 b.length (bytesV b)) (k : Nat) (hk : k ≤ b.length) (hc : b.length ≤ uc) :
    Reads w (.slice (if uc = k then ua else ua.map (·.add k)) (b.length - k) (uc - k)) 1 (b.drop k).length (bytesV (b.drop k)) := by
  obtain ⟨ao, c, he, -, hn, hcell⟩ := h
  cases he
  refine ⟨_, _, by rw [List.length_drop], by rw [bytesV_length]; omega, fun e => ?_, fun ad e j u hu => ?_⟩
  · have hua : ua = none := by
      split at e
      · exact e
      · simpa using e
    have := hn hua
    rw [List.length_drop]; omega
  · unfold bytesV at hu
    rw [List.map_drop, List.getElem?_drop] at hu
    have hj : k + j < b.length := by have := (List.getElem?_eq_some_iff.1 hu).1; simpa using this
    rw [if_neg (by omega)] at e
    obtain ⟨ad0, rfl⟩ : ∃ ad0, ua = some ad0 := by cases ua with
      | none => simp at e
      | some a => exact ⟨a, rfl⟩
    simp at e
    subst e
    rw [Addr.add_add]
    exact hcell ad0 rfl (k + j) u hu

set_option maxHeartbeats 8000000 in
set_option maxRecDepth 100000 in
theorem joins_walk (v : Value) (bs : List (List UInt8)) (a1 : Int) (w : World) (G : DigG w) (hp : PartsArg w v bs) :
    Calls Tryd.prog 5 #[v, .int .i64 a1] w fun e w' => e = .returned (.bool true) ∧ Ext [] w w' := by
  obtain ⟨i1, hj, hy0, hy1, hy2⟩ := info_parts info_bytes
  have HG := Lib.hid (fun w' (x' : Ext [] w w') => G.ext x' (by simp) (by simp))
  obtain ⟨ao, c, vs, rfl, hmax, hvl, hrd, heach⟩ := hp
  have hnone : ao = none → bs.length = 0 := by
    obtain ⟨ao', c', he, -, hn, -⟩ := hrd
    injection he with h1 _ _
    subst h1
    intro h; have := (hn h).1; omega
  have HRD := Lib.hid (fun w' (x : Ext [] w w') => hrd.ext x)
  have HE := Lib.hid (fun i u (hu : vs[i]? = some u) w' (x : Ext [] w w') => (heach i u hu).ext x)
  have HN := Lib.hid hnone
  have HV := Lib.hid hvl
  clear G hrd heach hnone hvl
  unfold maxLen at hmax
  go_enter Tryd.func5, Tryd.ntmps5
  go_wp2_with fail
  go_loopw [5, 6] (fun l i wr => ∃ j : Nat, j ≤ bs.length ∧ j ≤ 6 ∧ i = .int .i64 j ∧ wr.ownsRow 0 22 1 l j ((vs.take j).map (cutOf 40)) ∧ Ext [] w wr ∧ (∀ g, l.ownBlock = some g → w.heap.size ≤ g)) (fun _ i _ => 6 - (intOf i).toNat)
  case atStart => exact ⟨0, by omega, by omega, rfl, by simpa using World.ownsRow_nil _ _ _ _, Ext.refl _ _, (fun g h => by cases h)⟩
  case round =>
    obtain ⟨j, hj1, hj6, rfl, hol, x, hfl⟩ := hrel
    obtain ⟨la, lc, rfl⟩ := owns_slice hol
    by_cases hlt : j < bs.length ∧ j < 6
    · obtain ⟨hlt, h6⟩ := hlt
      obtain ⟨ad, rfl⟩ : ∃ ad, ao = some ad := by
        cases ao with
        | none => have := HN.out rfl; omega
        | some ad => exact ⟨ad, rfl⟩
      have hkv : j < vs.length := by rw [HV.out]; exact hlt
      obtain ⟨u, hu⟩ : ∃ u, vs[j]? = some u := ⟨_, List.getElem?_eq_getElem hkv⟩
      have hcu : wr.cell? (ad.add j) = some u := by
        obtain ⟨ao', c', he, -, -, hc⟩ := HRD.out wr x
        injection he with h1 _ _
        subst h1
        exact hc ad rfl j u hu
      have hsv := Lib.hid (show (vs.take (j + 1)).map (cutOf 40) = (vs.take j).map (cutOf 40) ++ [cutOf 40 u] by
        rw [List.take_succ_eq_append_getElem hkv]
        rw [List.getElem?_eq_getElem hkv] at hu
        simp [Option.some.inj hu])
      have hee := HE.out j u hu wr x
      obtain ⟨ua, uc, hue, huc, hum, -⟩ := hee
      obtain ⟨lj, hlj⟩ : ∃ lj, lj = (bs.getD j []).length := ⟨_, rfl⟩
      rw [← hlj] at hue huc
      subst hue
      unfold maxLen at hum
      clear hlj hu
      have hcu2 : wr.drew.cell? (ad.add j) = some (.slice ua lj uc) := hcu
      have hcut := Lib.hid (show cutOf 40 (.slice ua lj uc) = .slice ua (if 40 < (lj : Int) then 40 else (lj : Int)).toNat uc by
        simp only [cutOf]; congr 1; split <;> omega)
      have h40 := Lib.hid (show (if 40 < (lj : Int) then 40 else (lj : Int)) = ((min lj 40 : Nat) : Int) by split <;> omega)
      have hb1 : 0 ≤ (if 40 < (lj : Int) then 40 else (lj : Int)) := by split <;> omega
      have hb2 : (if 40 < (lj : Int) then 40 else (lj : Int)) ≤ (uc : Int) := by split <;> omega
      go_upto_region 5 with (fail)
      go_region_law (refine step_app _ rfl (.tmp 20) (.tmp 32) 31 rfl 22 i1 (.slice none 0 0) 1 24 Tryd.underlying31 hj hy0 hy1 hy2 rfl (by decide) (.slice la j lc) _ _ rfl (owns_ext hol (((Ext.refl [] wr).alloc _).drew) (by simp)) (.slice (some ⟨wr.heap.size, 0, none⟩) 1 1) 1 [.slice ua (if 40 < (lj : Int) then 40 else (lj : Int)).toNat uc] rfl (blk_reads (Blk.new wr 22 #[.slice ua (if 40 < (lj : Int) then 40 else (lj : Int)).toNat uc]).drew 1 rfl) (by intro u hu; simp at hu; subst hu; rfl) (by unfold maxLen; omega) (by omega) ?_; intro v7 w7 hown7 hgrow7 hfr7 _)
      all_goals
        have x7 : Ext [] w w7 := ((x.alloc _).drew).grown hgrow7 (by intro g hg; exact .inr (hfl g hg))
        have fr7 := app_fresh ((x.alloc (.cells #[.slice ua (if 40 < (lj : Int) then 40 else (lj : Int)).toNat uc] 22)).drew) hfl hfr7
        rw [← hcut.out, ← hsv.out] at hown7
        clear hgrow7 hfr7 hol x hfl hcu hcu2 hb1 hb2
        go_wp2_with fail
        go_roundw
        case rel => exact ⟨j + 1, by omega, by omega, by go_num, hown7, x7, fr7⟩
        case measure => simp [intOf]; omega
    · have hlen : ((vs.take j).map (cutOf 40)).length = j := by
        rw [List.length_map, List.length_take, HV.out]; omega
      have hlen2 := cutsOf_length j 40 bs hj1
      have HP := Lib.hid (fun w' (xx : Ext [] wr w') => (show PartsIn w' (.slice la j lc) ((vs.take j).map (cutOf 40)) (cutsOf j 40 bs) from
        ⟨by rw [hlen]; exact owns_reads (owns_ext hol xx (by simp)), by rw [hlen, hlen2], fun i u hu => by
          have hij : i < j := by have := (List.getElem?_eq_some_iff.1 hu).1; rw [hlen] at this; exact this
          have hiv : i < vs.length := by rw [HV.out]; omega
          have hib : i < bs.length := by omega
          simp [hij, hiv] at hu
          subst hu
          have := (HE.out i _ (List.getElem?_eq_getElem hiv) w' (x.trans xx)).cut 40
          rw [cutsOf_getD j 40 i bs hij hib]
          exact this⟩))
      have hjl : (joinB (cutsOf j 40 bs)).length ≤ 1048576 := by
        have := joinB_le_of 40 (cutsOf j 40 bs) (cutsOf_le j 40 bs)
        rw [hlen2] at this
        omega
      have hcl : (cutsOf j 40 bs).length ≤ 1000 := by omega
      have HJ := Lib.hid (fun w' (xx : Ext [] wr w') => joined_any _ _ _ w' (HG.out w' (x.trans xx)) (HP.out w' xx) hjl hcl)
      have HRJ := Lib.hid (fun w' (xx : Ext [] wr w') => rjoined _ _ _ w' (HP.out w' xx) hjl hcl)
      have hOl : (bytesV (sumOf (joinB (cutsOf j 40 bs)))).length = 32 := by rw [bytesV_length, sumOf_length]
      have hob : ∀ u ∈ bytesV (sumOf (joinB (cutsOf j 40 bs))), u.oneCell' = true := bytesV_one _
      have heq := eq_sums (joinB (cutsOf j 40 bs)) (joinB (cutsOf j 40 bs))
      simp only [decide_true] at heq
      generalize bytesV (sumOf (joinB (cutsOf j 40 bs))) = ov at *
      clear hlen hlen2 hjl hcl HRD HN
      by_cases hlt1 : j < bs.length
      all_goals
        go_wp2_with fail
        refine (HJ.out wr (Ext.refl _ _)).mono ?_
        rintro e w3 ⟨rfl, x3⟩
        go_wp2_with fail
        refine upon_strow w3.heap.size 0 23 _ ov (Blk.new w3 23 (bytesV (List.replicate 32 0)).toArray) (by rw [hOl]; simp [bytesV]) hob ?_
        intro w4 H4 x4 _
        have e9 : (bytesV (List.replicate 32 0)).take 0 ++ ov ++ (bytesV (List.replicate 32 0)).drop (0 + ov.length) = ov := by
          rw [hOl, List.take_zero, List.nil_append, List.drop_of_length_le (by simp [bytesV]), List.append_nil]
        have H4 : Blk w4 w3.heap.size 23 ov := e9 ▸ H4
        have x34 : Ext [] w3 w4 := ((Ext.refl [] w3).alloc _).trans' x4 (by simp)
        have xr4 := x3.trans x34
        clear x4 x3 x34 e9
        generalize w3.heap.size = bs0 at *
        have HS := Lib.hid (fun w' (x : Ext [] w4 w') => (show w'.rangeAt bs0 0 ov ∧ Ext [] w4 w' from ⟨range_of_blk (H4.ext x (by simp)), x⟩))
        have c1 := fun w' (h : w'.rangeAt bs0 0 ov ∧ Ext [] w4 w') => (sums_any w' (HG.out _ (x.trans (xr4.trans h.2)))).mono (fun e w'' ⟨he, hx'⟩ => (show e = Ending.returned (.bool true) ∧ (w''.rangeAt bs0 0 ov ∧ Ext [] w4 w'') from ⟨he, HS.out _ (h.2.trans hx')⟩))
        have c2 := fun w' (h : w'.rangeAt bs0 0 ov ∧ Ext [] w4 w') => (HRJ.out w' (xr4.trans h.2)).mono (fun e w'' ⟨he, hx'⟩ => (show e = Ending.returned (.agg ov.toArray) ∧ (w''.rangeAt bs0 0 ov ∧ Ext [] w4 w'') from ⟨he, HS.out _ (h.2.trans hx')⟩))
        have C1 := Lib.hid c1
        have C2 := Lib.hid c2
        have hu := Tryd.underlying23
        have hsz : (Tryd.prog.info? 23).map (·.size) = some ov.length := by rw [hOl]; kernel_rfl
        have HSTART := Lib.hid (HS.out _ ((Ext.refl [] w4).drew))
        clear c1 c2
        go_wp2_with fail
        refine wp_region_held_drew (S := fun w' => w'.rangeAt bs0 0 ov ∧ Ext [] w4 w') (by kernel_rfl) HSTART.out (fun _ => ?_)
        refine wpAnyH_ready (rs := [0]) (by kernel_rfl) (by simp) ?_
        refine AllReadyH.cons (o := ⟨some 36, _, _, _, _, _⟩) rfl (fun K hK => ?_) AllReadyH.nil
        go_simp
        refine (C1.out _ (by assumption)).mono ?_
        rintro e w' ⟨rfl, hk⟩
        go_simp
        refine hK.out _ _ (by assumption) (fun _ => ?_)
        clear hK K
        try simp only [Act.put, List.setIfInBounds_toArray, List.set_cons_zero, List.set_cons_succ]
        refine wpAnyH_take (i := 1) (oi := ⟨some 37, _, _, _, _, _⟩) (v := ?_) rfl (by kernel_rfl) (by kernel_rfl) (by kernel_rfl) (fun _ _ _ h => h) (Or.inl ⟨by rfl, ?_⟩) (by assumption) ?_
        rotate_left 1
        · (intro w hSw; (try dsimp only at hSw); go_split_ands; go_simp; (try with_reducible rfl))
        try simp only [Act.put, List.setIfInBounds_toArray, List.set_cons_zero, List.set_cons_succ]
        refine wpAnyH_take (i := 2) (oi := ⟨some 38, _, _, _, _, _⟩) (v := ?_) rfl (by kernel_rfl) (by kernel_rfl) (by kernel_rfl) (fun _ _ _ h => h) (Or.inl ⟨by rfl, ?_⟩) (by assumption) ?_
        rotate_left 1
        · (intro w hSw; (try dsimp only at hSw); go_split_ands; go_simp; (try with_reducible rfl))
        try simp only [Act.put, List.setIfInBounds_toArray, List.set_cons_zero, List.set_cons_succ]
        refine wpAnyH_take (i := 3) (oi := ⟨some 39, _, _, _, _, _⟩) (v := .agg ov.toArray) rfl (by kernel_rfl) (by kernel_rfl) (by kernel_rfl) (fun _ _ _ h => h) (yieldsIf_load_mid (by rfl) _ _ rfl bs0 0 rfl ov _ (fun w h => h.1) hu rfl hsz) (by assumption) ?_
        try simp only [Act.put, List.setIfInBounds_toArray, List.set_cons_zero, List.set_cons_succ]
        refine wpAnyH_take (i := 4) (oi := ⟨some 40, _, _, _, _, _⟩) (v := ?_) rfl (by kernel_rfl) (by kernel_rfl) (by kernel_rfl) (fun _ _ _ h => h) (Or.inl ⟨by rfl, ?_⟩) (by assumption) ?_
        rotate_left 1
        · (intro w hSw; (try dsimp only at hSw); go_split_ands; go_simp; (try with_reducible rfl))
        try simp only [Act.put, List.setIfInBounds_toArray, List.set_cons_zero, List.set_cons_succ]
        refine wpAnyH_ready (rs := [5]) (by kernel_rfl) (by simp) ?_
        refine AllReadyH.cons (o := ⟨some 41, _, _, _, _, _⟩) rfl (fun K hK => ?_) AllReadyH.nil
        go_simp
        refine (C2.out _ (by assumption)).mono ?_
        rintro e w' ⟨rfl, hk⟩
        go_simp
        refine hK.out _ _ (by assumption) (fun _ => ?_)
        clear hK K
        try simp only [Act.put, List.setIfInBounds_toArray, List.set_cons_zero, List.set_cons_succ]
        refine wpAnyH_take (i := 6) (oi := ⟨some 42, _, _, _, _, _⟩) (v := ?_) rfl (by kernel_rfl) (by kernel_rfl) (by kernel_rfl) (fun _ _ _ h => h) (Or.inl ⟨by rfl, ?_⟩) (by assumption) ?_
        rotate_left 1
        · (intro w hSw; (try dsimp only at hSw); go_split_ands; go_simp; (try with_reducible rfl))
        try simp only [Act.put, List.setIfInBounds_toArray, List.set_cons_zero, List.set_cons_succ]
        refine wpAnyH_take (i := 7) (oi := ⟨some 43, _, _, _, _, _⟩) (v := ?_) rfl (by kernel_rfl) (by kernel_rfl) (by kernel_rfl) (fun _ _ _ h => h) (Or.inl ⟨by rfl, ?_⟩) (by assumption) ?_
        rotate_left 1
        · (intro w hSw; (try dsimp only at hSw); go_split_ands; go_simp; (try with_reducible rfl))
        try simp only [Act.put, List.setIfInBounds_toArray, List.set_cons_zero, List.set_cons_succ]
        refine wpAnyH_done (by kernel_rfl) ?_ _
        have x5 := xr4.trans hk.2
        clear C1 C2 HSTART hsz hu HS xr4 H4 HRJ HJ hOl hob heq
        by_cases hj0 : j = 0
        · subst hj0
          go_wp2_with fail
          go_ret
          exact ⟨rfl, x.trans x5⟩
        · have hjb : ((j : Int) == 0) = false := by rw [beq_eq_false_iff_ne]; omega
          have hiv : 0 < vs.length := by rw [HV.out]; omega
          have hib : 0 < bs.length := by omega
          obtain ⟨u0, hu0⟩ : ∃ u0, vs[0]? = some u0 := ⟨_, List.getElem?_eq_getElem hiv⟩
          have HB := Lib.hid (fun w'' (xx : Ext [] w w'') => (HE.out 0 u0 hu0 w'' xx).cut 40)
          obtain ⟨ua, uc, hue, huc, hum, -⟩ := HE.out 0 u0 hu0 w' (x.trans x5)
          obtain ⟨b0, hb0⟩ : ∃ b0, b0 = (bs.getD 0 []).take 40 := ⟨_, rfl⟩
          have hbl : min (bs.getD 0 []).length 40 = b0.length := by rw [hb0, List.length_take, Nat.min_comm]
          rw [← hb0] at HB
          rw [hue, show cutOf 40 (.slice ua (bs.getD 0 []).length uc) = .slice ua b0.length uc by rw [← hbl]; rfl] at HB
          have hbc : b0.length ≤ uc := by omega
          have hb40 : b0.length ≤ 40 := by omega
          obtain ⟨g, lc', cur, he, -, hjc, -, -, -⟩ := owns_some hol (by omega)
          cases he
          have hbc0 : (cutsOf j 40 bs).getD 0 [] = b0 := by rw [cutsOf_getD j 40 0 bs (by omega) hib, hb0]
          have hv0 : ((vs.take j).map (cutOf 40))[0]? = some (.slice ua b0.length uc) := by
            rw [List.getElem?_map, List.getElem?_take, if_pos (by omega), hu0, Option.map_some, hue, ← hbl]; rfl
          have hcell : w'.cell? ⟨g, 0, none⟩ = some (.slice ua b0.length uc) := by
            have h := (owns_ext hol x5 (by simp)).cells (g := g) rfl 0 _ hv0
            rwa [Addr.add_lit] at h
          unfold maxLen at hum
          have HBC := Lib.hid hbc0
          have HB0 := Lib.hid hb0
          have HUE := Lib.hid hue
          clear hbc0 hb0 hue hu0 hbl hjb
          have hjb : ((j : Int) == 0) = false := by rw [beq_eq_false_iff_ne]; omega
          by_cases hz : b0.length = 0
          · have hzb : ((b0.length : Int) == 0) = true := by rw [beq_iff_eq]; omega
            clear hz
            go_wp2_with fail
            go_ret
            exact ⟨rfl, x.trans x5⟩
          · have hzb : ((b0.length : Int) == 0) = false := by rw [beq_eq_false_iff_ne]; omega
            obtain ⟨k, hk2, hkl⟩ := mod_nat a1 (b0.length + 1) (by omega) (by omega)
            have hk2' : wrap64 ((IntKind.u64.wrap a1).tmod ((b0.length : Int) + 1)) = (k : Int) := by rw [← hk2]; push_cast; rfl
            have HK2 := Lib.hid hk2'
            clear hk2 hk2' hz
            go_upto_region 12 with (fail)
            rw [HK2.out]
            have q1 : (0 : Int) ≤ (k : Int) := by omega
            have q2 : (k : Int) ≤ (b0.length : Int) := by omega
            have q3 : (k : Int) ≤ (uc : Int) := by omega
            have q4 : (1 : Int) ≤ (j : Int) := by omega
            have q5 : k ≤ b0.length := by omega
            have q6 : k ≤ uc := by omega
            have q7 : 1 ≤ j := by omega
            have q8 : 0 < j := by omega
            have hta : ∀ w'', Ext [] w' w'' → Reads w'' (.slice (if lc = 1 then some ⟨g, 0, none⟩ else some ⟨g, 1, none⟩) (j - 1) (lc - 1)) 1 (j - 1) (((vs.take j).map (cutOf 40)).drop 1) := by
              intro w'' xx
              have hlen : ((vs.take j).map (cutOf 40)).length = j := by rw [List.length_map, List.length_take, HV.out]; omega
              refine ⟨_, _, rfl, by rw [List.length_drop, hlen]; omega, ?_, ?_⟩
              · intro e
                by_cases hl : lc = 1
                · rw [if_pos hl] at e; cases e
                · rw [if_neg hl] at e; cases e
              intro ad e i u hu
              rw [List.getElem?_drop] at hu
              have hi : 1 + i < j := by have := (List.getElem?_eq_some_iff.1 hu).1; omega
              rw [if_neg (by omega)] at e
              cases e
              have h := (owns_ext hol (x5.trans xx) (by simp)).cells (g := g) rfl (1 + i) u hu
              rw [Addr.add_lit] at h ⊢
              simpa using h
            have HTA := Lib.hid hta
            clear hta
            have HONE := Lib.hid (show ∀ u ∈ ((vs.take j).map (cutOf 40)).drop 1, u.oneCell' = true from by
              intro u hu
              obtain ⟨y, hy, rfl⟩ := List.mem_map.1 (List.mem_of_mem_drop hu)
              obtain ⟨i, hi, rfl⟩ := List.mem_iff_getElem.1 (List.mem_of_mem_take hy)
              obtain ⟨ya, yc, hye, -⟩ := HE.out i _ (List.getElem?_eq_getElem hi) w (Ext.refl _ _)
              rw [hye]; rfl)
            go_region_law (refine step_app _ rfl (.tmp 74) (.tmp 76) 31 rfl 22 i1 (.slice none 0 0) 1 24 Tryd.underlying31 hj hy0 hy1 hy2 rfl (by decide) (.slice (some ⟨w'.heap.size, 0, none⟩) 2 2) 2 [.slice ua k uc, .slice (if uc = k then ua else Option.map (fun x => x.add k) ua) (b0.length - k) (uc - k)] rfl (((Blk.new w' 22 #[.slice ua k uc, .slice (if uc = k then ua else Option.map (fun x => x.add k) ua) (b0.length - k) (uc - k)]).drew).owns rfl (by unfold maxLen; omega)) (.slice (if lc = 1 then some ⟨g, 0, none⟩ else some ⟨g, 1, none⟩) (j - 1) (lc - 1)) (j - 1) _ rfl (HTA.out _ (((Ext.refl [] w').alloc _).drew)) HONE.out (by unfold maxLen; omega) (by omega) ?_; intro v9 w9 hown9 hgrow9 hfr9 _)
            all_goals
              have x9 : Ext [] w' w9 := (((Ext.refl [] w').alloc (.cells #[.slice ua k uc, .slice (if uc = k then ua else Option.map (fun x => x.add k) ua) (b0.length - k) (uc - k)] 22)).drew).grown hgrow9 (by intro g hg; simp [Value.ownBlock] at hg; exact .inr (by omega))
              obtain ⟨va9, vc9, rfl⟩ := owns_slice hown9
              have hlen : ((vs.take j).map (cutOf 40)).length = j := by rw [List.length_map, List.length_take, HV.out]; omega
              have hlen2 := cutsOf_length j 40 bs hj1
              have hl9 : ([Value.slice ua k uc, Value.slice (if uc = k then ua else Option.map (fun x => x.add k) ua) (b0.length - k) (uc - k)] ++ ((vs.take j).map (cutOf 40)).drop 1).length = 2 + (j - 1) := by
                rw [List.length_append, List.length_drop, hlen]; rfl
              have HP9 := Lib.hid (fun w'' (xx : Ext [] w9 w'') => (show PartsIn w'' (.slice va9 (2 + (j - 1)) vc9) ([.slice ua k uc, .slice (if uc = k then ua else Option.map (fun x => x.add k) ua) (b0.length - k) (uc - k)] ++ ((vs.take j).map (cutOf 40)).drop 1) ([b0.take k, b0.drop k] ++ (cutsOf j 40 bs).drop 1) from
                ⟨by rw [hl9]; exact owns_reads (owns_ext hown9 xx (by simp)), by rw [hl9, List.length_append, List.length_drop, hlen2]; rfl, fun i u hu => by
                  have hB := HB.out w'' (x.trans (x5.trans (x9.trans xx)))
                  match i, hu with
                  | 0, hu => 
                    simp at hu; subst hu
                    exact hB.take k q5
                  | 1, hu =>
                    simp at hu; subst hu
                    exact hB.drop k q5 hbc
                  | i + 2, hu =>
                    have hu2 : (((vs.take j).map (cutOf 40)).drop 1)[i]? = some u := hu
                    rw [List.getElem?_drop] at hu2
                    have h := (HP.out w'' (x5.trans (x9.trans xx))).each (1 + i) u hu2
                    have e : ([b0.take k, b0.drop k] ++ (cutsOf j 40 bs).drop 1).getD (i + 2) [] = (cutsOf j 40 bs).getD (1 + i) [] := by
                      show ((cutsOf j 40 bs).drop 1).getD i [] = _
                      simp [List.getD, Nat.add_comm]
                    rw [e]; exact h⟩))
              have hle9 : ∀ b ∈ ([b0.take k, b0.drop k] ++ (cutsOf j 40 bs).drop 1), b.length ≤ 40 := by
                intro b hb
                rcases List.mem_append.1 hb with hb | hb
                · simp at hb
                  rcases hb with rfl | rfl
                  · rw [List.length_take]; omega
                  · rw [List.length_drop]; omega
                · exact cutsOf_le j 40 bs b (List.mem_of_mem_drop hb)
              have hbl9 : ([b0.take k, b0.drop k] ++ (cutsOf j 40 bs).drop 1).length = 2 + (j - 1) := by
                rw [List.length_append, List.length_drop, hlen2]; rfl
              have hjl9 : (joinB ([b0.take k, b0.drop k] ++ (cutsOf j 40 bs).drop 1)).length ≤ 1048576 := by
                have := joinB_le_of 40 _ hle9
                rw [hbl9] at this
                omega
              have hcl9 : ([b0.take k, b0.drop k] ++ (cutsOf j 40 bs).drop 1).length ≤ 1000 := by omega
              have HJ9 := Lib.hid (fun w'' (xx : Ext [] w9 w'') => joined_any _ _ _ w'' (HG.out w'' (x.trans (x5.trans (x9.trans xx)))) (HP9.out w'' xx) hjl9 hcl9)
              have HRJ9 := Lib.hid (fun w'' (xx : Ext [] w9 w'') => rjoined _ _ _ w'' (HP9.out w'' xx) hjl9 hcl9)
              have heq9 := eq_sums (joinB ([b0.take k, b0.drop k] ++ (cutsOf j 40 bs).drop 1)) (joinB ([b0.take k, b0.drop k] ++ (cutsOf j 40 bs).drop 1))
              simp only [decide_true] at heq9
              generalize (bytesV (sumOf (joinB ([b0.take k, b0.drop k] ++ (cutsOf j 40 bs).drop 1)))).toArray = ov9 at *
              clear hlen hlen2 hl9 hle9 hbl9 hjl9 hcl9 hgrow9 hfr9 hown9
              generalize (if uc = k then ua else Option.map (fun x => x.add k) ua) = us9
              generalize (if lc = 1 then some (⟨g, 0, none⟩ : Addr) else some ⟨g, 1, none⟩) = ut9
              go_wp2_with fail
              refine (HJ9.out w9 (Ext.refl _ _)).mono ?_
              rintro e w10 ⟨rfl, x10⟩
              go_wp2_with fail
              refine (HRJ9.out w10 x10).mono ?_
              rintro e w11 ⟨rfl, x11⟩
              go_wp2_with fail
              go_ret
              exact ⟨rfl, x.trans (x5.trans (x9.trans (x10.trans x11)))⟩
end Go.Proofs.YtgpegjadjidjmaaDoor
