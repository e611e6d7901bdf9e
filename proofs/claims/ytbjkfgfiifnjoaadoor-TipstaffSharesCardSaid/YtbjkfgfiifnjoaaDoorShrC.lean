/- TipstaffShares: the walk. -/
import Derived.Test.YtbjkfgfiifnjoaaDoorShrA
import Derived.Test.YtbjkfgfiifnjoaaDoorStands
import Derived.Deep.CutBlock
namespace Go.Proofs.YtbjkfgfiifnjoaaDoor
open Go.RowKit
set_option maxRecDepth 100000

/-- A row of truths that came in. -/
def OrdAt (w : World) (a : Option Addr) (len cap : Nat) : Prop :=
  len ≤ cap ∧ cap ≤ maxLen ∧ ∀ k, k < len → ∃ b o q, a = some ⟨b, o, none⟩ ∧ b < w.heap.size ∧ w.cell? ⟨b, o + k, none⟩ = some (.bool q)

theorem ord_of_row {w : World} {a : Option Addr} {len cap : Nat} (h : RowOf (Flat [.bool]) 1 w a len cap) : OrdAt w a len cap := by
  rcases h with ⟨rfl, rfl, rfl⟩ | ⟨x, rfl, hl, hm, hc⟩
  · exact ⟨Nat.le_refl _, Nat.zero_le _, fun k hk => by omega⟩
  · obtain ⟨b, o, spot⟩ := x
    have hat : ∀ k, k < len → ∃ q, w.cell? ((⟨b, o, spot⟩ : Addr).add k) = some (.bool q) := by
      intro k hk
      obtain ⟨cs, -, hf, hcs⟩ := hc k (by omega)
      obtain ⟨v, r, rfl, ⟨q, rfl⟩, hr⟩ := hf
      have h0 := hcs 0 (by omega)
      rw [Nat.mul_one, Addr.add_add] at h0
      exact ⟨q, h0⟩
    refine ⟨hl, hm, fun k hk => ?_⟩
    obtain ⟨q0, h00⟩ := hat 0 (by omega)
    have hs : spot = none := by
      have := World.cell?_spot h00
      simpa [Addr.add] using this
    subst hs
    obtain ⟨q, h0⟩ := hat k hk
    rw [Addr.add_lit] at h0
    exact ⟨b, o, q, rfl, by have := World.block_lt_of_cell? w _ h0; simpa using this, h0⟩

set_option maxHeartbeats 8000000 in
theorem shares_walk (z0 z1 : Int) (oa : Option Addr) (len cap : Nat) (w : World) (G : DigG w) (HO : OrdAt w oa len cap) :
    Calls Tryd.prog 5 #[.agg #[.int .i64 z0, .int .i64 z1], .slice oa len cap] w fun e w' => e = .returned (.bool true) ∧ Ext [] w w' := by
  have HG := Lib.hid (fun w' (x' : Ext [] w w') => G.ext x' (by simp) (by simp))
  have hcap : len ≤ 9223372036854775807 := by have h1 := HO.1; have h2 := HO.2.1; unfold maxLen at h2; omega
  have HOR := Lib.hid HO.2.2
  clear G HO
  go_enter Tryd.func5, Tryd.ntmps5
  go_upto_region 1 with (fail)
  have Bn := Blk.new w 59 #[.int .i64 z0, .int .i64 z1]
  have x1 : Ext [] w (w.alloc (.cells #[.int .i64 z0, .int .i64 z1] 59)) := (Ext.refl _ _).alloc _
  have s1 : (w.alloc (.cells #[.int .i64 z0, .int .i64 z1] 59)).heap.size = w.heap.size + 1 := by simp
  generalize w.alloc (.cells #[.int .i64 z0, .int .i64 z1] 59) = w1 at *
  go_wp2_with fail
  refine (S.obj_new 2 w1 (by omega) (by omega)).mono ?_
  rintro e w2 ⟨rfl, O2, x2, s2⟩
  have Bn := Bn.ext x2 (by simp)
  have X2 := x1.trans x2
  clear x1 x2
  rw [s1] at O2 s2 ⊢
  go_wp2_with fail
  refine (shr_new w2).mono ?_
  rintro e w3 ⟨rfl, F3, x3, s3⟩
  have Bn := Bn.ext x3 (by simp)
  have O3 := O2.ext0 x3
  have X3 := X2.trans x3
  clear X2 x3 O2
  rw [s2] at F3 s3 ⊢
  go_wp2_with fail
  refine (shr_new w3).mono ?_
  rintro e w4 ⟨rfl, F4, x4, s4⟩
  have Bn := Bn.ext x4 (by simp)
  have O4 := O3.ext0 x4
  have F3 := F3.ext x4 (by simp) (by simp)
  have X4 := X3.trans x4
  clear X3 x4 O3
  rw [s3] at F4 s4 ⊢
  go_wp2_with fail
  refine (S.obj_make O4 ⟨#[120]⟩ (by simp) (by omega)).mono ?_
  rintro e w5 ⟨b0, rfl, hb0, O5, x5⟩
  have Bn := Bn.ext x5 (by simp <;> omega)
  have F3 := F3.ext x5 (by simp <;> omega) (by simp <;> omega)
  have F4 := F4.ext x5 (by simp <;> omega) (by simp <;> omega)
  have X5 := X4.trans' x5 (by intro j hj; simp at hj; omega)
  have O5 : S.ObjAt w5 (w.heap.size + 1 + 1) (w.heap.size + 1) 2 1 [entS b0 (.string ⟨#[120]⟩) 1] := O5
  have D : ShrB w.heap.size (w.heap.size + 1 + 1) (w.heap.size + 1) (w.heap.size + 1 + 2 + 1) (w.heap.size + 1 + 2) (w.heap.size + 1 + 2 + 2 + 1) (w.heap.size + 1 + 2 + 2) b0 := by
    refine ⟨?_, ?_, ?_, ?_, ?_⟩ <;> omega
  have I5 : Shr w w5 (w.heap.size + 1 + 1) (w.heap.size + 1) (w.heap.size + 1 + 2 + 1) (w.heap.size + 1 + 2) (w.heap.size + 1 + 2 + 2 + 1) (w.heap.size + 1 + 2 + 2) b0 [entS b0 (.string ⟨#[120]⟩) 1] 0 0 := ⟨O5, F3, F4, X5⟩
  clear F3 F4 O5 O4 X4 x5 hb0 X5 s1 s2 s3 s4
  generalize w.heap.size + 1 + 1 = bt at *
  generalize w.heap.size + 1 + 2 + 2 + 1 = b2 at *
  generalize w.heap.size + 1 + 2 + 2 = a2 at *
  generalize w.heap.size + 1 + 2 + 1 = b1 at *
  generalize w.heap.size + 1 + 2 = a1 at *
  generalize w.heap.size + 1 = bm at *
  go_wp2_with fail
  refine (stands_any w5 (HG.out _ I5.x)).mono ?_
  rintro e w6 ⟨rfl, x6⟩
  have Bn := Bn.ext x6 (by simp)
  have I6 := I5.ext0 x6
  clear x6 I5
  go_wp2_with fail
  refine (opens_top w6).mono ?_
  rintro e w7 ⟨rfl, x7⟩
  have Bn := Bn.ext x7 (by simp)
  have I7 := I6.ext0 x7
  clear x7 I6 HG
  obtain ⟨k0, hk0, hk8⟩ := mod_nat z0 8 (by omega) (by omega)
  obtain ⟨m, hm0, hm8⟩ := mod_nat z1 8 (by omega) (by omega)
  have hk0 : wrap64 ((IntKind.u64.wrap z0).tmod 8) = (k0 : Int) := hk0
  have hm0 : wrap64 ((IntKind.u64.wrap z1).tmod 8) = (m : Int) := hm0
  have c0 := Bn.cell 0
  have c1 := Bn.cell 1
  have hbl := Bn.lt
  simp only [List.getElem?_cons_zero, List.getElem?_cons_succ] at c0 c1
  go_upto_region 7 with (fail)
  go_quiet (fail)
  have I8 := I7.ext0 ((Ext.refl _ w7).drewN nq)
  try rw [hk0]
  try rw [hm0]
  try rw [IntWalk.wrap64_in (1 + (k0 : Int)) (by omega)]
  rw [show 1 + (k0 : Int) = ((1 + k0 : Nat) : Int) by omega]
  obtain ⟨k, hk⟩ : ∃ k, k = 1 + k0 := ⟨_, rfl⟩
  rw [← hk]
  have hk1 : 1 ≤ k := by omega
  have hk8' : k ≤ 8 := by omega
  clear hk hk0 hm0 hk8 c0 c1 hbl Bn I7
  generalize w7.drewN nq = w8 at *
  generalize (Value.string ⟨#[120]⟩) = xs at I8
  have hkm : wrap64 ((k : Int) + (m : Int)) = (k : Int) + (m : Int) := IntWalk.wrap64_in _ (by omega)
  have HD := Lib.hid D
  have HB := Lib.hid (show ∀ h, ∀ y ∈ [entS b0 xs h], y.b = b0 from fun h y hy => by simp [entS] at hy; rw [hy])
  clear D
  go_wp2_with fail
  go_loopw [15] (fun v wr => ∃ i : Nat, i ≤ k + m ∧ v = .int .i64 (i : Int) ∧ Shr w wr bt bm b1 a1 b2 a2 b0 [entS b0 xs (max 1 i)] (min i k) (i - k)) (fun v _ => k + m - (intOf v).toNat)
  case atStart => exact ⟨0, by omega, rfl, by simpa using I8⟩
  case round =>
    obtain ⟨i, hi, rfl, I⟩ := hrel
    clear I8
    by_cases hlt : i < k + m
    · have q1 : (i : Int) < (k : Int) + (m : Int) := by omega
      by_cases hik : i < k
      · have q2 : ¬ (k : Int) ≤ (i : Int) := by omega
        by_cases hi0 : i = 0
        · have q3 : ¬ 0 < (i : Int) := by omega
          have e1 : min i k = i := by omega
          have e2 : i - k = 0 := by omega
          have e3 : max 1 i = 1 := by omega
          rw [e1, e2, e3] at I
          go_wp2_with fail
          refine (shr_open b1 a1 i wr I.f1 (by omega)).mono ?_
          rintro e w9 ⟨rfl, F9, x9, -⟩
          have I9 := I.fd1 HD.out (HB.out _) F9 x9
          clear F9 x9 I
          go_wp2_with fail
          go_roundw
          case rel =>
            refine ⟨i + 1, by omega, by go_num, ?_⟩
            rw [show min (i + 1) k = i + 1 by omega, show i + 1 - k = 0 by omega, show max 1 (i + 1) = 1 by omega]
            exact I9
          case measure => simp [intOf]; omega
        · have q3 : 0 < (i : Int) := by omega
          have e1 : min i k = i := by omega
          have e2 : i - k = 0 := by omega
          have e3 : max 1 i = i := by omega
          rw [e1, e2, e3] at I
          go_wp2_with fail
          refine (shr_hold I.o (by omega)).mono ?_
          rintro e w9 ⟨rfl, O9, x9, -⟩
          have I9 := I.obj HD.out O9 (x9.sub (fun j hj => by simp at hj ⊢; exact .inl (.inr hj)))
          clear O9 x9 I
          go_wp2_with fail
          refine (shr_open b1 a1 i w9 I9.f1 (by omega)).mono ?_
          rintro e w10 ⟨rfl, F10, x10, -⟩
          have I10 := I9.fd1 HD.out (HB.out _) F10 x10
          clear F10 x10 I9
          go_wp2_with fail
          go_roundw
          case rel =>
            refine ⟨i + 1, by omega, by go_num, ?_⟩
            rw [show min (i + 1) k = i + 1 by omega, show i + 1 - k = 0 by omega, show max 1 (i + 1) = i + 1 by omega]
            exact I10
          case measure => simp [intOf]; omega
      · have q2 : (k : Int) ≤ (i : Int) := by omega
        have q3 : 0 < (i : Int) := by omega
        obtain ⟨n2, hn2⟩ : ∃ n2, n2 = i - k := ⟨_, rfl⟩
        have e1 : min i k = k := by omega
        have e3 : max 1 i = i := by omega
        rw [e1, ← hn2, e3] at I
        go_wp2_with fail
        refine (shr_hold I.o (by omega)).mono ?_
        rintro e w9 ⟨rfl, O9, x9, -⟩
        have I9 := I.obj HD.out O9 (x9.sub (fun j hj => by simp at hj ⊢; exact .inl (.inr hj)))
        clear O9 x9 I
        go_wp2_with fail
        refine (shr_open b2 a2 n2 w9 I9.f2 (by omega)).mono ?_
        rintro e w10 ⟨rfl, F10, x10, -⟩
        have I10 := I9.fd2 HD.out (HB.out _) F10 x10
        clear F10 x10 I9
        go_wp2_with fail
        go_roundw
        case rel =>
          refine ⟨i + 1, by omega, by go_num, ?_⟩
          rw [show min (i + 1) k = k by omega, show i + 1 - k = n2 + 1 by omega, show max 1 (i + 1) = i + 1 by omega]
          exact I10
        case measure => simp [intOf]; omega
    · have hik : i = k + m := by omega
      have q1 : ¬ (i : Int) < (k : Int) + (m : Int) := by omega
      rw [show min i k = k by omega, show i - k = m by omega, show max 1 i = k + m by omega] at I
      go_wp2_with fail
      clear hlt hik q1 hi
      go_loopw [19] (fun v wr => ∃ i n1 n2 : Nat, i ≤ k + m ∧ v = .int .i64 (i : Int) ∧ n1 + n2 = k + m - i ∧ n1 ≤ 8 ∧ n2 ≤ 7 ∧ Shr w wr bt bm b1 a1 b2 a2 b0 (if n1 + n2 = 0 then [] else [entS b0 xs (n1 + n2)]) n1 n2) (fun v _ => k + m - (intOf v).toNat)
      case atStart => exact ⟨0, k, m, by omega, rfl, by omega, by omega, by omega, by rw [if_neg (by omega)]; exact I⟩
      case round =>
        clear I
        obtain ⟨i, n1, n2, hi, rfl, hs, hn1, hn2, I⟩ := hrel
        by_cases hlt : i < k + m
        · have q1 : (i : Int) < (k : Int) + (m : Int) := by omega
          rw [if_neg (by omega)] at I
          go_wp2_with fail
          refine (shr_used b1 a1 n1 wr I.f1 hn1).mono ?_
          rintro e w2 ⟨la, lc, rfl, hown, x2⟩
          have I2 := I.ext0 x2
          clear I x2
          go_upto_region 24 with (fail)
          go_cut [134] from 104 to 184 (fun c wx => ∃ q : Bool, c = .bool q ∧ (q = true → 0 < n2) ∧ (q = false → 0 < n1) ∧ Ext [] w2 wx)
          case first =>
            by_cases h0 : n1 = 0
            · have hb : ((n1 : Int) == 0) = true := by rw [beq_iff_eq]; omega
              go_wp2_with fail
              go_meet
              exact ⟨true, rfl, (fun _ => by omega), (fun h => by cases h), Ext.refl _ _⟩
            · have hb : ((n1 : Int) == 0) = false := by rw [beq_eq_false_iff_ne]; omega
              by_cases hil : i < len
              · obtain ⟨ob, oo, q, rfl, hob, hoc⟩ := HOR.out i hil
                have hc2 := (I2.x.cell (p := ⟨ob, oo + i, none⟩) hob (by simp)).trans hoc
                cases q
                · go_wp2_with fail
                  go_meet
                  exact ⟨false, rfl, (fun h => by cases h), (fun _ => by omega), Ext.refl _ _⟩
                · go_wp2_with fail
                  refine (shr_used b2 a2 n2 w2 I2.f2 (by omega)).mono ?_
                  rintro e w3 ⟨la2, lc2, rfl, -, x3⟩
                  by_cases h2 : 0 < n2
                  · have h2' : 0 < (n2 : Int) := by omega
                    go_wp2_with fail
                    go_meet
                    exact ⟨true, rfl, (fun _ => h2), (fun h => by cases h), x3⟩
                  · have h2' : ¬ 0 < (n2 : Int) := by omega
                    go_wp2_with fail
                    go_meet
                    exact ⟨false, rfl, (fun h => by cases h), (fun _ => by omega), x3⟩
              · have hil' : ¬ (i : Int) < (len : Int) := by omega
                go_wp2_with fail
                go_meet
                exact ⟨false, rfl, (fun h => by cases h), (fun _ => by omega), Ext.refl _ _⟩
          case rest =>
            obtain ⟨q, rfl, hq1, hq2, xq⟩ := hcut
            go_upto_if 134 with (fail)
            go_cut [20, 21] from 104 to 184 (fun l p wx => ∃ (bb n : Nat) (l1 : Option Addr) (l2 : Nat), l = .slice l1 (n + 1) l2 ∧ p = .pointer (some ⟨bb, 0, none⟩) ∧ wx.ownsRow 0 3 1 (.slice l1 (n + 1) l2) (n + 1) (ints (List.range (n + 1))) ∧ Ext [] w2 wx ∧ ((bb = b1 ∧ n + 1 = n1) ∨ (bb = b2 ∧ n + 1 = n2)))
            case first =>
              have I3 := I2.ext0 xq
              have hown3 := owns_ext hown xq (by simp)
              cases q
              · have h1 := hq2 rfl
                go_wp2_with fail
                go_meet
                obtain ⟨n, rfl⟩ : ∃ n, n1 = n + 1 := ⟨n1 - 1, by omega⟩
                exact ⟨b1, n, la, lc, rfl, rfl, hown3, xq, .inl ⟨rfl, rfl⟩⟩
              · have h1 := hq1 rfl
                go_wp2_with fail
                refine (shr_used b2 a2 n2 _ I3.f2 (by omega)).mono ?_
                rintro e w3 ⟨la2, lc2, rfl, hown2, x3⟩
                go_wp2_with fail
                go_meet
                obtain ⟨n, rfl⟩ : ∃ n, n2 = n + 1 := ⟨n2 - 1, by omega⟩
                exact ⟨b2, n, la2, lc2, rfl, rfl, hown2, xq.trans x3, .inr ⟨rfl, rfl⟩⟩
            case rest =>
              obtain ⟨bb, n, l1, l2, rfl, rfl, hown3, x3, hbb⟩ := hcut
              have I3 := I2.ext0 x3
              obtain ⟨h, hh⟩ : ∃ h, h = n1 + n2 := ⟨_, rfl⟩
              rw [← hh] at I3
              have hne : ((h : Int) != (k : Int) + (m : Int) - (i : Int)) = false := by rw [bne_eq_false_iff_eq]; omega
              have hkmi : wrap64 ((k : Int) + (m : Int) - (i : Int)) = (k : Int) + (m : Int) - (i : Int) := IntWalk.wrap64_in _ (by omega)
              have hkm1 : wrap64 ((k : Int) + (m : Int) - 1) = (k : Int) + (m : Int) - 1 := IntWalk.wrap64_in _ (by omega)
              have hnw : wrap64 (n : Int) = (n : Int) := IntWalk.wrap64_in _ (by omega)
              have hnl : (n : Int) < (n : Int) + 1 := by omega
              obtain ⟨g, gc, cur, he, -, hgc, hgm, -, -⟩ := owns_some hown3 (by omega)
              cases he
              have hcell : wc.cell? ⟨g, n, none⟩ = some (.int .i64 (n : Int)) := by rw [hown3.cellAt n (by omega)]; simp [ints]
              clear xq x3 I2 hown hq1 hq2
              go_wp2_with fail
              refine (shr_held I3.o).mono ?_
              rintro e w4 ⟨rfl, rfl⟩
              go_wp2_with fail
              rcases hbb with ⟨hbe, hn⟩ | ⟨hbe, hn⟩
              · rw [hbe]
                refine (shr_close b1 a1 n1 wc I3.f1 (by omega) (by omega) (n : Int) (by omega)).mono ?_
                rintro e w4 ⟨rfl, F4, x4, -⟩
                have I4 := I3.fd1 HD.out (HB.out _) F4 x4
                rw [show n1 - 1 = n by omega] at I4
                clear F4 x4 I3 hown3
                go_wp2_with fail
                by_cases hl : h = 1
                · have hlast : ((i : Int) == (k : Int) + (m : Int) - 1) = true := by rw [beq_iff_eq]; omega
                  have HL := Lib.hid hlast
                  clear hlast
                  rw [hl] at I4
                  refine (shr_drop_last I4.o).mono ?_
                  rintro e w5 ⟨rfl, O5, x5, -⟩
                  have I5 := I4.obj HD.out O5 x5
                  clear O5 x5 I4
                  go_upto_region 30 with (fail)
                  have hlast := HL.out
                  go_wp2_with fail
                  go_roundw
                  case rel =>
                    refine ⟨i + 1, n, n2, by omega, by go_num, by omega, by omega, by omega, ?_⟩
                    rw [if_pos (by omega)]
                    exact I5
                  case measure => simp [intOf]; omega
                · have hlast : ((i : Int) == (k : Int) + (m : Int) - 1) = false := by rw [beq_eq_false_iff_ne]; omega
                  refine (shr_drop I4.o (by omega)).mono ?_
                  rintro e w5 ⟨rfl, O5, x5, -⟩
                  have I5 := I4.obj HD.out O5 (x5.sub (fun j hj => by simp at hj ⊢; exact .inl (.inr hj)))
                  clear O5 x5 I4
                  go_wp2_with fail
                  go_roundw
                  case rel =>
                    refine ⟨i + 1, n, n2, by omega, by go_num, by omega, by omega, by omega, ?_⟩
                    rw [if_neg (by omega), show n + n2 = h - 1 by omega]
                    exact I5
                  case measure => simp [intOf]; omega
              · rw [hbe]
                refine (shr_close b2 a2 n2 wc I3.f2 (by omega) (by omega) (n : Int) (by omega)).mono ?_
                rintro e w4 ⟨rfl, F4, x4, -⟩
                have I4 := I3.fd2 HD.out (HB.out _) F4 x4
                rw [show n2 - 1 = n by omega] at I4
                clear F4 x4 I3 hown3
                go_wp2_with fail
                by_cases hl : h = 1
                · have hlast : ((i : Int) == (k : Int) + (m : Int) - 1) = true := by rw [beq_iff_eq]; omega
                  have HL := Lib.hid hlast
                  clear hlast
                  rw [hl] at I4
                  refine (shr_drop_last I4.o).mono ?_
                  rintro e w5 ⟨rfl, O5, x5, -⟩
                  have I5 := I4.obj HD.out O5 x5
                  clear O5 x5 I4
                  go_upto_region 30 with (fail)
                  have hlast := HL.out
                  go_wp2_with fail
                  go_roundw
                  case rel =>
                    refine ⟨i + 1, n1, n, by omega, by go_num, by omega, by omega, by omega, ?_⟩
                    rw [if_pos (by omega)]
                    exact I5
                  case measure => simp [intOf]; omega
                · have hlast : ((i : Int) == (k : Int) + (m : Int) - 1) = false := by rw [beq_eq_false_iff_ne]; omega
                  refine (shr_drop I4.o (by omega)).mono ?_
                  rintro e w5 ⟨rfl, O5, x5, -⟩
                  have I5 := I4.obj HD.out O5 (x5.sub (fun j hj => by simp at hj ⊢; exact .inl (.inr hj)))
                  clear O5 x5 I4
                  go_wp2_with fail
                  go_roundw
                  case rel =>
                    refine ⟨i + 1, n1, n, by omega, by go_num, by omega, by omega, by omega, ?_⟩
                    rw [if_neg (by omega), show n1 + n = h - 1 by omega]
                    exact I5
                  case measure => simp [intOf]; omega
        · have hik : i = k + m := by omega
          have q1 : ¬ (i : Int) < (k : Int) + (m : Int) := by omega
          rw [if_pos (by omega)] at I
          have h1 : n1 = 0 := by omega
          have h2 : n2 = 0 := by omega
          subst h1 h2
          go_wp2_with fail
          refine (shr_live I.o).mono ?_
          rintro e w2 ⟨la, lc, rfl, x2⟩
          have I2 := I.ext0 x2
          clear I x2
          go_wp2_with fail
          refine (shr_free b1 a1 w2 I2.f1).mono ?_
          rintro e w3 ⟨rfl, x3⟩
          have I3 := I2.ext0 x3
          clear I2 x3
          go_wp2_with fail
          refine (shr_free b2 a2 w3 I3.f2).mono ?_
          rintro e w4 ⟨rfl, x4⟩
          have I4 := I3.ext0 x4
          clear I3 x4
          go_wp2_with fail
          go_ret
          exact ⟨rfl, I4.x⟩

theorem shares_flat (cs : Array Value) (oa : Option Addr) (len cap : Nat) (w : World) (h : Flat [.int .i64, .int .i64] cs.toList) (ho : RowOf (Flat [.bool]) 1 w oa len cap) (G : DigG w) :
    Calls Tryd.prog 5 #[.agg cs, .slice oa len cap] w fun e w' => e = .returned (.bool true) ∧ Ext [] w w' := by
  obtain ⟨_, r, e, ⟨l0, rfl, -⟩, _, r', rfl, ⟨l1, rfl, -⟩, rfl⟩ := h
  obtain rfl : cs = #[.int .i64 l0, .int .i64 l1] := by
    apply Array.toList_inj.1; exact e
  exact shares_walk l0 l1 oa len cap w G (ord_of_row ho)
end Go.Proofs.YtbjkfgfiifnjoaaDoor
