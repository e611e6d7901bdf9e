/- The law InsnDecodes: the walk. -/
import Derived.Test.YtipcgebaihndgaaDecA
import Derived.Test.YtipcgebaihndgaaZeros
namespace Go.Proofs.Ytipcgebaihndgaa
open Go.RowKit

/-- The first m of a row of bytes. -/
theorem byte_reads {w : World} {a : Option Addr} {len cap : Nat} {zs : List Int} (h : IsRow .u8 w a len cap zs) (m : Nat) (hm : m ≤ len) :
    ((zs.take m).map (fun z => UInt8.ofNat z.toNat)).length = m ∧ Reads w (.slice a m cap) 1 m (bytesV ((zs.take m).map (fun z => UInt8.ofNat z.toNat))) := by
  rcases h with ⟨rfl, rfl, rfl, rfl⟩ | ⟨x, rfl, hl, hc, hz, hcell, hw⟩
  · obtain rfl : m = 0 := by omega
    exact ⟨rfl, none, 0, rfl, rfl, fun _ => ⟨rfl, rfl⟩, fun ad e => by cases e⟩
  · have e : ((zs.take m).map (fun z => UInt8.ofNat z.toNat)).length = m := by rw [List.length_map, List.length_take]; omega
    refine ⟨e, some x, cap, rfl, by rw [bytesV_length, e]; omega, (fun e => by cases e), fun ad had j u hu => ?_⟩
    obtain rfl := Option.some.inj had
    have hj : j < m := by have := (List.getElem?_eq_some_iff.1 hu).1; rw [bytesV_length, e] at this; exact this
    have hjz : j < zs.length := by omega
    have h1 := hcell j hjz
    rw [bytesV_at _ j (by omega)] at hu
    obtain rfl := Option.some.inj hu
    rw [h1]
    have hwz := hw _ (List.getElem_mem hjz)
    have b1 : 0 ≤ zs[j] ∧ zs[j] ≤ 255 := by simp [Lit.wf] at hwz; first | exact hwz | (simp [IntKind.min, IntKind.max] at hwz; omega)
    have e2 : ((zs.take m).map (fun z => UInt8.ofNat z.toNat)).getD j 0 = UInt8.ofNat (zs[j]).toNat := by
      rw [List.getD_eq_getElem?_getD, List.getElem?_eq_getElem (by omega)]
      simp
    have e3 : zs.getD j 0 = zs[j] := by simp [List.getD, hjz]
    rw [e2, e3, UInt8.toNat_ofNat']
    congr 2
    omega

theorem zeros_bytes (m : Nat) : zerosV m = bytesV (List.replicate m 0) := by simp [zerosV, bytesV]

set_option maxHeartbeats 8000000 in
set_option maxRecDepth 100000 in
theorem idecodes_walk (a0 : Option Addr) (len0 cap0 : Nat) (zs : List Int) (a1 : Int) (w : World) (hz : IsRow .u8 w a0 len0 cap0 zs) :
    Calls Try.prog 5 #[.slice a0 len0 cap0, .int .i64 a1] w fun e w' => e = .returned (.bool true) ∧ Ext [] w w' := by
  obtain ⟨i0, hi, hz0, hz1, hz2⟩ := info_parts info_byte
  have hlen : len0 ≤ cap0 := by rcases hz with ⟨-, rfl, rfl, -⟩ | ⟨x, -, h, -⟩ <;> omega
  have hcap : cap0 ≤ 9223372036854775807 := by rcases hz with ⟨-, rfl, rfl, -⟩ | ⟨x, -, -, h, -⟩ <;> (try unfold maxLen at h) <;> omega
  have hfz := byte_reads hz (min len0 200) (by omega)
  obtain ⟨n, hn⟩ : ∃ n, n = min len0 200 := ⟨_, rfl⟩
  have IFN := Lib.hid (show (if 200 < (len0 : Int) then 200 else (len0 : Int)) = (n : Int) by split <;> omega)
  have p1 : 0 ≤ (if 200 < (len0 : Int) then 200 else (len0 : Int)) := by split <;> omega
  have p2 : (if 200 < (len0 : Int) then 200 else (len0 : Int)) ≤ (cap0 : Int) := by split <;> omega
  rw [← hn] at hfz
  have hn6 : n ≤ 200 := by omega
  generalize (zs.take n).map (fun z => UInt8.ofNat z.toNat) = b0 at *
  obtain ⟨hbl, hbr⟩ := hfz
  subst hbl
  have HFR := Lib.hid (fun w' (x : Ext [] w w') => hbr.ext x)
  obtain ⟨q, hq, hq6⟩ := mod_nat a1 2100 (by omega) (by omega)
  have HK := Lib.hid hq
  have HFR2 := Lib.hid (fun w' (x : Ext [] w w') => (show Reads w' (.slice a0 (if 200 < (len0 : Int) then 200 else (len0 : Int)).toNat cap0) 1 (if 200 < (len0 : Int) then 200 else (len0 : Int)).toNat (bytesV b0) by rw [IFN.out, Int.toNat_natCast]; exact HFR.out w' x))
  have p3 : (if 200 < (len0 : Int) then 200 else (len0 : Int)).toNat ≤ 200 := by split <;> omega
  clear hz hn hbr hq
  go_enter Try.func5, Try.ntmps5
  go_upto_region 2 with (first
    | (at_builtin; refine wpList_app _ rfl (.tmp 8) (.tmp 13) 24 rfl 5 i0 (.int .u8 0) 1 1 Try.underlying24 hi hz0 hz1 hz2 rfl (by decide) (.slice (some ⟨w.heap.size, 0, none⟩) 0 0) 0 [] rfl ((Blk.new w 5 #[]).owns rfl (Nat.zero_le _)) _ _ (bytesV b0) rfl (HFR2.out _ ((Ext.refl [] w).alloc _)) (bytesV_one b0) (by unfold maxLen; omega) (by omega) ?_; intro v2 w2 hown2 hgrow2 hfr2 hnil2; rw [IFN.out] at hown2; simp only [Nat.zero_add, List.nil_append, Int.toNat_natCast] at hown2; have hnn : v2 ≠ .slice none 0 0 := (fun h => by have := (hnil2.1 h).1; cases this); obtain ⟨g2, c2, hv2⟩ : ∃ g c, v2 = .slice (some ⟨g, 0, none⟩) b0.length c := (by rcases hown2.2 with ⟨h, -⟩ | ⟨g, cap, cur, h, -⟩ <;> first | exact absurd h hnn | exact ⟨g, cap, h⟩); subst hv2; have hq2 := HK.out)
    | (at_builtin; go_must (refine wpList_zeros _ rfl (.tmp 14) (.tmp 18) 24 3 rfl 5 i0 Try.underlying24 Try.underlying3 hi hz0 hz1 hz2 g2 b0.length c2 _ rfl hown2 q (congrArg (Value.int .i64) HK.out) (by omega) ?_); intro v3 w3 hown3 hgrow3 hfr3))
  rw [IFN.out]
  simp only [Int.toNat_natCast]
  rw [zeros_bytes, ← bytesV_append] at hown3
  have fr2 : w.heap.size ≤ g2 := by
    rcases hfr2 with h | ⟨g', h, hle⟩
    · simp [Value.ownBlock] at h; omega
    · simp [Value.ownBlock] at h; simp at hle; omega
  have x3 : Ext [] w w3 := (((Ext.refl [] w).alloc _).grown hgrow2 (by intro g hg; simp [Value.ownBlock] at hg; exact .inr (by omega))).grown hgrow3 (by intro g hg; obtain rfl := Option.some.inj hg; exact .inr fr2)
  obtain ⟨bs, hbs⟩ : ∃ bs, bs = b0 ++ List.replicate q 0 := ⟨_, rfl⟩
  have hbl : b0.length + q = bs.length := by rw [hbs]; simp
  rw [← hbs, hbl] at hown3
  have hb23 : bs.length ≤ 2300 := by omega
  clear hgrow2 hgrow3 hfr2 hfr3 hnil2 hown2 hnn hq2 p1 p2 p3 HFR HFR2 IFN HK hbs hbl hn6 hq6 hlen hcap
  obtain ⟨a3, c3, rfl⟩ := owns_slice hown3
  have hcv3 := conv_bytes hown3
  have HED := Lib.hid (fun m hm => enc_dec bs m hm)
  go_wp2_with fail
  refine (decode_own (.slice a3 bs.length c3) bs w3 hown3 (by omega)).mono ?_
  intro e w4 hp4
  clear hcv3
  unfold DecPost at hp4
  by_cases hok : bs.length % 8 = 0 ∧ bs.length ≤ 2048
  · rw [if_pos hok] at hp4
    obtain ⟨v5, rfl, hown5, x4, -⟩ := hp4
    have hown3 := owns_ext hown3 x4 (by simp)
    have y4 := x3.trans x4
    have hm8 : bs.length = 8 * (bs.length / 8) := by omega
    have hd1 := rdecode_any (.slice a3 bs.length c3) bs (bs.length / 8)
    have HM8 := Lib.hid hm8
    have HL5 := Lib.hid (decN_length bs (bs.length / 8))
    have HED2 := Lib.hid (HED.out _ hm8)
    obtain ⟨m, hm⟩ : ∃ m, m = bs.length / 8 := ⟨_, rfl⟩
    rw [← hm] at HL5 HED2 HM8 hown5 hd1
    have HD1 := Lib.hid (fun w' => hd1 w' HM8.out)
    have hm256 : m ≤ 256 := by omega
    have q8 : ((bs.length : Int) % 8) = 0 := by omega
    have q9 : ¬ (2048 : Int) < (bs.length : Int) := by omega
    clear hm hm8 hd1 x3 x4 hok
    obtain ⟨a5, c5, rfl⟩ := owns_slice hown5
    generalize decN bs m = l5 at *
    go_wp2_with fail
    refine (parts_any w4).mono ?_
    rintro e w6 ⟨rfl, x6⟩
    have hown3 := owns_ext hown3 x6 (by simp)
    have hown5 := owns_ext hown5 x6 (by simp)
    have y6 := y4.trans x6
    have hcv6 := conv_bytes hown3
    go_wp2_with fail
    refine (HD1.out w6 (owns_reads hown3) (by omega)).mono ?_
    rintro e w7 ⟨v7, rfl, hown7, x7⟩
    have hown3 := owns_ext hown3 x7 (by simp)
    have hown5 := owns_ext hown5 x7 (by simp)
    have y7 := y6.trans x7
    obtain ⟨a7, c7, rfl⟩ := owns_slice hown7
    clear hcv6
    go_wp2_with fail
    refine (same_any (.slice a5 m c5) (.slice a7 m c7) l5 l5 w7 (by rw [HL5.out]; exact owns_reads hown5) (by rw [HL5.out]; exact owns_reads hown7) (by rw [HL5.out]; omega)).mono ?_
    rintro e w8 ⟨rfl, x8⟩
    rw [decide_eq_true (rfl : l5 = l5)]
    have hown5 := owns_ext hown5 x8 (by simp)
    have y8 := y7.trans x8
    go_wp2_with fail
    refine (encode_any (.slice a5 m c5) l5 w8 (by rw [HL5.out]; exact owns_reads hown5) (by rw [HL5.out]; omega)).mono ?_
    rintro e w9 ⟨v9, rfl, hown9, x9, -⟩
    rw [HED2.out] at hown9
    have hcv9 := conv_bytes hown9
    go_wp2_with fail
    go_ret
    exact ⟨rfl, y8.trans x9⟩
  · rw [if_neg hok] at hp4
    obtain ⟨rfl, x4⟩ := hp4
    have hown3 := owns_ext hown3 x4 (by simp)
    have y4 := x3.trans x4
    by_cases h8 : bs.length % 8 = 0
    · have q8 : ((bs.length : Int) % 8) = 0 := by omega
      have q9 : (2048 : Int) < (bs.length : Int) := by omega
      rw [if_pos h8]
      clear hok h8 x3 x4
      go_wp2_with fail
      refine (parts_any w4).mono ?_
      rintro e w6 ⟨rfl, x6⟩
      have hcv6 := conv_bytes (owns_ext hown3 x6 (by simp))
      go_wp2_with fail
      go_ret
      exact ⟨rfl, y4.trans x6⟩
    · have q8 : (((bs.length : Int) % 8) == 0) = false := by rw [beq_eq_false_iff_ne]; omega
      rw [if_neg h8]
      clear hok h8 x3 x4
      go_wp2_with fail
      refine (parts_any w4).mono ?_
      rintro e w6 ⟨rfl, x6⟩
      have hcv6 := conv_bytes (owns_ext hown3 x6 (by simp))
      go_wp2_with fail
      go_ret
      exact ⟨rfl, y4.trans x6⟩
end Go.Proofs.Ytipcgebaihndgaa
