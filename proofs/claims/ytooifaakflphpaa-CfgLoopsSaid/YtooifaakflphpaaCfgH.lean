/- The reference of layer 16: spread: all that may be come to from some. -/
import Derived.Test.YtooifaakflphpaaCfgG
import Derived.Test.YtooifaakflphpaaCfgE
namespace Go.Proofs.Ytooifaakflphpaa
open Go.RowKit
set_option maxRecDepth 100000

theorem owns_get {w : World} {T : TypeId} {a : Option Addr} {n c : Nat} {xs : List Value} (h : w.ownsRow 0 T 1 (.slice a n c) n xs) (m : Nat) (hm : m < n) :
    ∃ g, a = some ⟨g, 0, none⟩ ∧ g < w.heap.size ∧ w.cell? ⟨g, m, none⟩ = xs[m]? ∧ w.frozen? ⟨g, m, none⟩ = false := by
  obtain ⟨g, cap, cur, he, hb, -, -, -, ht⟩ := owns_some h (by omega)
  cases he
  rw [Nat.mul_one] at ht
  refine ⟨g, rfl, hb.lt, ?_, hb.frozen m⟩
  rw [hb.cell, ← ht, List.getElem?_take, if_pos hm]
theorem owns_set {w : World} {T : TypeId} {g n c : Nat} {xs : List Value} (h : w.ownsRow 0 T 1 (.slice (some ⟨g, 0, none⟩) n c) n xs) (m : Nat) (hm : m < n) (v : Value) :
    (w.setCell ⟨g, m, none⟩ v).ownsRow 0 T 1 (.slice (some ⟨g, 0, none⟩) n c) n (xs.set m v) := by
  obtain ⟨g', cap, cur, he, hb, hc, hmx, hl, ht⟩ := owns_some h (by omega)
  cases he
  have B := hb.set m v
  refine ⟨by rw [List.length_set]; exact h.1, .inr ⟨g, c, (cur.set m v).toArray, rfl, Nat.zero_le _, B, hc, hmx, by simp [hl], ?_⟩⟩
  rw [Nat.mul_one] at ht ⊢
  rw [← ht]
  show (cur.set m v).take n = _
  rw [List.take_set]

/-- May be come to from some. -/
def Clo (l : List Ins) (fr : List Bool) (j : Nat) : Prop := ∃ i, fr.getD i false = true ∧ Cf.Rch (nxM l) i j
def falses (g : List Bool) : Nat := (g.filter fun b => !b).length
theorem falses_set (g : List Bool) (m : Nat) (h0 : g.getD m false = false) (hl : m < g.length) : falses (g.set m true) + 1 = falses g := by
  induction g generalizing m with
  | nil => simp at hl
  | cons x c ih =>
    cases m with
    | zero =>
      have hx : x = false := by simpa using h0
      subst hx
      simp [falses]
    | succ m =>
      have := ih m (by simpa using h0) (by simpa using hl)
      cases x <;> simp [falses] at this ⊢ <;> omega
theorem getD_setB (g : List Bool) (m i : Nat) : (g.set m true).getD i false = if m = i ∧ i < g.length then true else g.getD i false := by
  simp only [List.getD_eq_getElem?_getD, List.getElem?_set]
  by_cases h : m = i
  · subst h
    by_cases hl : m < g.length
    · simp [hl]
    · simp [hl]
  · simp [h]

structure SpI (l : List Ins) (fr g0 g : List Bool) (b : Bool) : Prop where
  len : g.length = l.length
  up : ∀ j, g0.getD j false = true → g.getD j false = true
  inn : ∀ j, g.getD j false = true → Clo l fr j
  no : b = false → g = g0
  yes : b = true → falses g < falses g0
theorem SpI.add {l : List Ins} {fr g0 g : List Bool} {b : Bool} (h : SpI l fr g0 g b) (m : Nat) (hm : m < l.length) (h0 : g.getD m false = false) (hc : Clo l fr m) : SpI l fr g0 (g.set m true) true := by
  have hf := falses_set g m h0 (by rw [h.len]; exact hm)
  refine ⟨by rw [List.length_set]; exact h.len, fun j hj => ?_, fun j hj => ?_, (fun e => by cases e), fun _ => ?_⟩
  · rw [getD_setB]; split
    · rfl
    · exact h.up j hj
  · rw [getD_setB] at hj
    split at hj
    · rename_i e; rw [← e.1]; exact hc
    · exact h.inn j hj
  · cases b with
    | true => have := h.yes rfl; omega
    | false => rw [h.no rfl] at hf ⊢; omega
theorem SpI.keep {l : List Ins} {fr g0 g : List Bool} {b : Bool} (_h : SpI l fr g0 g b) (m : Nat) (j : Nat) (hj : g.getD j false = true) : (g.set m true).getD j false = true := by
  rw [getD_setB]; split
  · rfl
  · exact hj

/-- All that may be come to from some: a fresh row. -/
def SpreadPost (l : List Ins) (fr : List Bool) (w : World) (e : Ending) (w' : World) : Prop :=
  ∃ (u : Value) (g : List Bool), e = .returned u ∧ g.length = l.length ∧ (∀ j, g.getD j false = true ↔ Clo l fr j) ∧ w'.ownsRow 0 4 1 u l.length (g.map Value.bool) ∧ Ext [] w w' ∧ ∀ q, u.ownBlock = some q → w.heap.size ≤ q

theorem closed_all (l : List Ins) (fr g : List Bool) (h : ∀ j, fr.getD j false = true → g.getD j false = true) (hc : ∀ j, g.getD j false = true → ∀ m ∈ nxM l j, g.getD m false = true) (j : Nat) (hj : Clo l fr j) : g.getD j false = true := by
  obtain ⟨i, hi, k, hk⟩ := hj
  induction k generalizing j with
  | zero => rw [← show i = j from hk]; exact h i hi
  | succ k ih =>
    obtain ⟨b, hb, hm⟩ := hk
    exact hc b (ih b hb) j hm

/-- Up to a place nothing is missing. -/
def Upto (l : List Ins) (g : List Bool) (k : Nat) : Prop := ∀ j, j < k → g.getD j false = true → ∀ m ∈ nxM l j, g.getD m false = true

set_option maxHeartbeats 8000000 in
theorem spread_any (v v1 : Value) (l : List Ins) (fr : List Bool) (w : World) (hr : Reads w v 5 l.length (insV l)) (hl : l.length ≤ 100000) (hf : fr.length = l.length) (hr1 : Reads w v1 1 l.length (fr.map Value.bool)) :
    Calls Try.prog 28 #[v, v1] w (SpreadPost l fr w) := by
  obtain ⟨i0, hi, hz0, hz1, hz2⟩ := info_parts info_boolC
  have HNX := Lib.hid (fun w' (x' : Ext [] w w') k => rnext_any v l k w' (hr.ext x') hl)
  obtain ⟨la, lc, rfl⟩ : ∃ la lc, v = .slice la l.length lc := by
    obtain ⟨la, lc, e, -⟩ := hr
    exact ⟨la, lc, e⟩
  have HR1 := Lib.hid (fun w' (x' : Ext [] w w') => hr1.ext x')
  obtain ⟨fa, fc, rfl⟩ : ∃ fa fc, v1 = .slice fa l.length fc := by
    obtain ⟨la, lc, e, -⟩ := hr1
    exact ⟨la, lc, e⟩
  have HFL := Lib.hid hf
  clear hr hr1 hf
  go_enter Try.func28, Try.ntmps28
  have HB := Lib.hid (show (w.alloc (.cells #[] 4)).ownsRow 0 4 1 (.slice (some ⟨w.heap.size, 0, none⟩) 0 0) 0 [] from (Blk.new w 4 #[]).owns rfl (by unfold maxLen; omega))
  go_upto_region 2 with (at_builtin; go_must (refine wpList_app _ rfl (.tmp 10) (.tmp 11) 26 rfl 4 i0 _ 1 1 Try.underlying26 hi hz0 hz1 hz2 rfl (by decide) (.slice (some ⟨w.heap.size, 0, none⟩) 0 0) 0 [] rfl HB.out (.slice fa l.length fc) l.length (fr.map Value.bool) rfl (HR1.out _ ((Ext.refl _ _).alloc _)) (by intro u hu; obtain ⟨b, -, rfl⟩ := List.mem_map.1 hu; rfl) (by unfold maxLen; omega) (by omega) ?_); intro v5 w1 hown1 hgrow1 hfr1 _)
  have hg0 : ∀ q, v5.ownBlock = some q → w.heap.size ≤ q := by
    intro q hq
    rcases hfr1 with h | ⟨g', h, hle⟩
    · rw [h] at hq; cases hq; exact Nat.le_refl _
    · rw [h] at hq; cases hq; simp at hle; omega
  have x1 : Ext [] w w1 := ((Ext.refl _ _).alloc _).grown hgrow1 (by intro q hq; cases hq; exact .inr (Nat.le_refl _))
  rw [Nat.zero_add, List.nil_append] at hown1
  obtain ⟨va, vc, rfl⟩ := owns_slice hown1
  have HG0 := Lib.hid hg0
  have S0 : SpI l fr fr fr false := ⟨HFL.out, fun _ h => h, fun j hj => ⟨j, hj, Cf.Rch.here j⟩, fun _ => rfl, fun e => by cases e⟩
  have HS0 := Lib.hid S0
  clear S0 HB hfr1 hgrow1 hg0
  go_wp2_with fail
  go_loopg [6, 7, 8, 9] (2 * falses fr + 1) (fun gk s6 _ _ _ wr => ∃ (b : Bool) (g : List Bool), s6 = .bool b ∧ wr.ownsRow 0 4 1 (.slice va l.length vc) l.length (g.map Value.bool) ∧ Ext [] w wr ∧ Hid (g.length = l.length ∧ (∀ j, fr.getD j false = true → g.getD j false = true) ∧ (∀ j, g.getD j false = true → Clo l fr j) ∧ (b = false → Upto l g l.length) ∧ 2 * falses g + (if b = true then 1 else 0) ≤ gk))
  case atStart => exact ⟨true, fr, rfl, hown1, x1, Lib.hid ⟨HFL.out, fun _ h => h, HS0.out.inn, (fun e => by cases e), by rw [if_pos rfl]; omega⟩⟩
  case round =>
    clear hown1 x1 HS0
    obtain ⟨b, g, rfl, hown, x, HI⟩ := hrel
    cases b with
    | false =>
      obtain ⟨i1, i2, i3, i4, -⟩ := HI.out
      have HC := Lib.hid (show ∀ j, g.getD j false = true ↔ Clo l fr j from fun j => ⟨i3 j, fun h => by
        refine closed_all l fr g i2 (fun j hj m hm => ?_) j h
        have hjl : j < l.length := by
          rw [← i1]
          refine Nat.lt_of_not_le fun hle => ?_
          rw [List.getD_eq_getElem?_getD, List.getElem?_eq_none hle] at hj
          cases hj
        exact i4 rfl j hjl hj m hm⟩)
      clear i1 i2 i3 i4
      go_wp2_with fail
      go_ret
      exact ⟨_, g, rfl, HI.out.1, HC.out, hown, x, HG0.out⟩
    | true =>
      go_wp2_with fail
      go_loopw [6, 7, 8, 9] (fun s6 s7 _ _ wx => ∃ (k : Nat) (b : Bool) (g2 : List Bool), k ≤ l.length ∧ s6 = .bool b ∧ s7 = .int .i64 (k : Int) ∧ wx.ownsRow 0 4 1 (.slice va l.length vc) l.length (g2.map Value.bool) ∧ Ext [] w wx ∧ Hid (SpI l fr g g2 b ∧ (b = false → Upto l g2 k))) (fun _ s7 _ _ _ => l.length - (intOf s7).toNat)
      case atStart => exact ⟨0, false, g, Nat.zero_le _, rfl, rfl, hown, x, Lib.hid ⟨⟨HI.out.1, fun _ h => h, HI.out.2.2.1, fun _ => rfl, fun e => by cases e⟩, fun _ j hj => by omega⟩⟩
      case round =>
        clear hown x
        obtain ⟨k, b, g2, hk, rfl, rfl, hown, x, HJ⟩ := hrel
        by_cases hlt : k < l.length
        · obtain ⟨ob, rfl, hobl, hck, hfk⟩ := owns_get hown k hlt
          have hg2k : (g2.map Value.bool)[k]? = some (.bool (g2.getD k false)) := by
            have : k < g2.length := by rw [HJ.out.1.len]; exact hlt
            rw [List.getElem?_map, List.getElem?_eq_getElem this]
            simp [this]
          rw [hg2k] at hck
          obtain ⟨c, hc⟩ : ∃ c, g2.getD k false = c := ⟨_, rfl⟩
          rw [hc] at hck
          clear hg2k
          cases c with
          | false =>
            have HJ2 := Lib.hid (show SpI l fr g g2 b ∧ (b = false → Upto l g2 (k + 1)) from ⟨HJ.out.1, fun e j hj hjt => by
              by_cases h : j < k
              · exact HJ.out.2 e j h hjt
              · obtain rfl : j = k := by omega
                rw [hc] at hjt; cases hjt⟩)
            clear hc
            go_wp2_with fail
            go_roundw
            case rel => exact ⟨k + 1, b, g2, by omega, rfl, by go_num, hown, x, HJ2⟩
            case measure => simp [intOf]; omega
          | true =>
            have HCK := Lib.hid (HJ.out.1.inn k hc)
            have HC2 := Lib.hid hc
            have hN := HNX.out wr x (k : Int)
            have hnx : nxA l (k : Int) = nxL l k := by unfold nxA; rw [if_pos (by omega), Int.toNat_natCast]
            rw [hnx] at hN
            have HN := Lib.hid hN
            clear hN hnx hc
            go_wp2_with fail
            refine HN.out.mono ?_
            rintro e w2 ⟨u, rfl, hrow, x2, hfr⟩
            clear HN hck hfk
            rw [nxL_nat, show (nxL l k).length = (nxM l k).length from by unfold nxM; rw [List.length_map]] at hrow
            have hne : ∀ q, u.ownBlock = some q → q ≠ ob := by intro q hq; have := hfr q hq; omega
            have HOW := Lib.hid (fun w' (x' : Ext [ob] w2 w') => owns_ext hrow x' (by intro q hq; have := hne q hq; simp; omega))
            have hnl : (nxM l k).length ≤ 2 := by have := nxL_len l k; unfold nxM; rw [List.length_map]; exact this
            have HLT := Lib.hid (nxM_lt l k)
            have HST := Lib.hid (fun m (hm : m ∈ nxM l k) => (show Clo l fr m from by obtain ⟨i, hi, hr⟩ := HCK.out; exact ⟨i, hi, hr.step hm⟩))
            obtain ⟨ua, uc, rfl⟩ := owns_slice hrow
            obtain ⟨ns, hns⟩ : ∃ ns, ns = nxM l k := ⟨_, rfl⟩
            have HNS := Lib.hid hns
            rw [← hns] at HOW hnl HLT HST
            rw [← hns]
            have hown2 := owns_ext hown x2 (by simp)
            have x02 := x.trans x2
            have hob : w.heap.size ≤ ob := HG0.out ob rfl
            clear hns hrow hfr hne hown x x2
            go_wp2_with fail
            go_loopw [6, 9] (fun s6 s9 wx => ∃ (q : Nat) (b3 : Bool) (g3 : List Bool), q ≤ ns.length ∧ s6 = .bool b3 ∧ s9 = .int .i64 (q : Int) ∧ wx.ownsRow 0 4 1 (.slice (some ⟨ob, 0, none⟩) l.length vc) l.length (g3.map Value.bool) ∧ Ext [ob] w2 wx ∧ Hid (SpI l fr g g3 b3 ∧ (b3 = false → b = false) ∧ (∀ m ∈ ns.take q, g3.getD m false = true))) (fun _ s9 _ => ns.length - (intOf s9).toNat)
            case atStart => exact ⟨0, b, g2, Nat.zero_le _, rfl, rfl, hown2, Ext.refl _ _, Lib.hid ⟨HJ.out.1, id, by simp⟩⟩
            case round =>
              clear hown2
              obtain ⟨q, b3, g3, hq, rfl, rfl, hown, x, HK⟩ := hrel
              by_cases hlt3 : q < ns.length
              · obtain ⟨rg, uc', he, hrgl, hcy⟩ := nat_at wr _ ns (HOW.out wr x) q hlt3
                cases he
                have hyl := HLT.out ns[q] (List.getElem_mem hlt3)
                have HCY := Lib.hid (HST.out ns[q] (List.getElem_mem hlt3))
                have HTK := Lib.hid (show ns.take (q + 1) = ns.take q ++ [ns[q]] from List.take_succ_eq_append_getElem hlt3)
                generalize ns[q] = y at *
                obtain ⟨ob', he, hobl', hcm, hfm⟩ := owns_get hown y hyl
                cases he
                have hg3y : (g3.map Value.bool)[y]? = some (.bool (g3.getD y false)) := by
                  have : y < g3.length := by rw [HK.out.1.len]; exact hyl
                  rw [List.getElem?_map, List.getElem?_eq_getElem this]
                  simp [this]
                rw [hg3y] at hcm
                obtain ⟨c, hc⟩ : ∃ c, g3.getD y false = c := ⟨_, rfl⟩
                rw [hc] at hcm
                clear hg3y
                cases c with
                | true =>
                  have HK2 := Lib.hid (show SpI l fr g g3 b3 ∧ (b3 = false → b = false) ∧ (∀ m ∈ ns.take (q + 1), g3.getD m false = true) from ⟨HK.out.1, HK.out.2.1, fun m hm => by
                    rw [HTK.out] at hm
                    rcases List.mem_append.1 hm with hm | hm
                    · exact HK.out.2.2 m hm
                    · simp at hm; rw [hm]; exact hc⟩)
                  clear hc
                  go_wp2_with fail
                  go_roundw
                  case rel => exact ⟨q + 1, b3, g3, by omega, rfl, by go_num, hown, x, HK2⟩
                  case measure => simp [intOf]; omega
                | false =>
                  have HK2 := Lib.hid (show SpI l fr g (g3.set y true) true ∧ (true = false → b = false) ∧ (∀ m ∈ ns.take (q + 1), (g3.set y true).getD m false = true) from ⟨HK.out.1.add y hyl hc HCY.out, (fun e => by cases e), fun m hm => by
                    rw [HTK.out] at hm
                    rcases List.mem_append.1 hm with hm | hm
                    · exact HK.out.1.keep y m (HK.out.2.2 m hm)
                    · simp at hm
                      rw [hm, getD_setB, if_pos ⟨rfl, by rw [HK.out.1.len]; exact hyl⟩]⟩)
                  have hset := owns_set hown y hyl (.bool true)
                  rw [show (g3.map Value.bool).set y (.bool true) = (g3.set y true).map Value.bool from by rw [List.map_set]] at hset
                  clear hc
                  go_wp2_with fail
                  go_roundw
                  case rel => exact ⟨q + 1, true, g3.set y true, by omega, rfl, by go_num, hset, x.setCell (.inl (by simp)) _, HK2⟩
                  case measure => simp [intOf]; omega
              · obtain rfl : q = ns.length := by omega
                have HJ2 := Lib.hid (show SpI l fr g g3 b3 ∧ (b3 = false → Upto l g3 (k + 1)) from ⟨HK.out.1, fun e j hj hjt m hm => by
                  have e3 : g3 = g := HK.out.1.no e
                  have e2 : g2 = g := HJ.out.1.no (HK.out.2.1 e)
                  by_cases h : j < k
                  · rw [e3] at hjt ⊢
                    have := HJ.out.2 (HK.out.2.1 e) j h
                    rw [e2] at this
                    exact this hjt m hm
                  · obtain rfl : j = k := by omega
                    refine HK.out.2.2 m ?_
                    rw [List.take_length, HNS.out]
                    exact hm⟩)
                have x03 : Ext [] w wr := x02.trans' x (by intro i hi; simp at hi; subst hi; exact .inr hob)
                go_wp2_with fail
                go_roundw
                case rel => exact ⟨k + 1, b3, g3, by omega, rfl, by go_num, hown, x03, HJ2⟩
                case measure => simp [intOf]; omega
        · obtain rfl : k = l.length := by omega
          have HM := Lib.hid (show 2 * falses g2 + (if b = true then 1 else 0) < gk ∧ 2 * falses g2 + (if b = true then 1 else 0) ≤ 2 * falses g2 + (if b = true then 1 else 0) from by
            refine ⟨?_, Nat.le_refl _⟩
            have h5 : 2 * falses g + 1 ≤ gk := by have h := HI.out.2.2.2.2; simpa using h
            cases b with
            | true => have := HJ.out.1.yes rfl; rw [if_pos rfl]; omega
            | false => have := HJ.out.1.no rfl; rw [this]; simp; omega)
          go_wp2_with fail
          go_roundg (2 * falses g2 + (if b = true then 1 else 0))
          case measure => exact HM.out.1
          case rel => exact ⟨b, g2, rfl, hown, x, Lib.hid ⟨HJ.out.1.len, fun j hj => HJ.out.1.up j (HI.out.2.1 j hj), HJ.out.1.inn, HJ.out.2, HM.out.2⟩⟩
end Go.Proofs.Ytooifaakflphpaa
