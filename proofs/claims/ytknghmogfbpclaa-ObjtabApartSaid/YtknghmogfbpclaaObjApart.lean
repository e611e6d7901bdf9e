/- The law ObjtabApart: the walk. -/
import Derived.Test.YtknghmogfbpclaaObjLaw
namespace Go.Proofs.Ytknghmogfbpclaa
open Go.RowKit

/-- Objects 1 to n, of ten times their place each, held hs times. -/
def RowE (l : List Ent) (n : Nat) (hs : Nat → Nat) (B : Nat) : Prop :=
  l.length = n ∧ ∀ j (hj : j < l.length), l[j].id = j + 1 ∧ l[j].x = .int .i64 (10 * (j : Int)) ∧ l[j].h = hs j ∧ B ≤ l[j].b

theorem RowE.snoc {l : List Ent} {n : Nat} {hs : Nat → Nat} {B : Nat} (h : RowE l n hs B) (b : Nat) (hb : B ≤ b) (e : Ent) (he : e = ⟨n + 1, b, .int .i64 (10 * (n : Int)), hs n⟩) : RowE (l ++ [e]) (n + 1) hs B := by
  subst he
  refine ⟨by simp [h.1], fun j hj => ?_⟩
  rw [List.getElem_append]
  split
  · rename_i hlt; exact h.2 j hlt
  · rename_i hge
    simp only [List.length_append, List.length_cons, List.length_nil] at hj
    have hn : j = n := by have := h.1; omega
    subst hn
    simp [hb]

theorem RowE.set {l : List Ent} {n : Nat} {hs : Nat → Nat} {B : Nat} (h : RowE l n hs B) (i : Nat) (hi : i < l.length) (h' : Nat) : RowE (l.set i { l[i] with h := h' }) n (fun j => if j = i then h' else hs j) B := by
  refine ⟨by simp [h.1], fun j hj => ?_⟩
  simp only [List.length_set] at hj
  have h1 := h.2 j hj
  rw [List.getElem_set]
  split
  · rename_i e; subst e
    simp only [if_true]
    exact ⟨h1.1, h1.2.1, trivial, h1.2.2.2⟩
  · rename_i e
    refine ⟨h1.1, h1.2.1, ?_, h1.2.2.2⟩
    show _ = if j = i then h' else hs j
    rw [if_neg (by omega)]
    exact h1.2.2.1

set_option maxHeartbeats 4000000 in
set_option maxRecDepth 100000 in
theorem apart_walk (a0 a1 a2 : Int) (w : World) :
    Calls Try.prog 4 #[.int .i64 a0, .int .i64 a1, .int .i64 a2] w fun e w' => e = .returned (.bool true) ∧ Below w.heap.size w w' := by
  obtain ⟨q, hq, hq10⟩ := mod_nat a0 10 (by omega) (by omega)
  have HK := Lib.hid hq
  clear hq
  obtain ⟨m, hm, hm50⟩ := mod_nat a2 50 (by omega) (by omega)
  have HM := Lib.hid hm
  clear hm
  go_enter Try.func4, Try.ntmps4
  go_wp2_with fail
  rw [show wrap64 ((IntKind.u64.wrap a0).tmod 10) = (q : Int) from HK.out, IntWalk.wrap64_in (2 + (q : Int)) (by omega), show 2 + (q : Int) = ((2 + q : Nat) : Int) by omega]
  obtain ⟨k, hk⟩ : ∃ k, k = 2 + q := ⟨_, rfl⟩
  rw [← hk]
  have hk1 : 2 ≤ k := by omega
  have hk2 : k ≤ 11 := by omega
  clear hk HK hq10
  refine (I.obj_new k w (by omega) (by omega)).mono ?_
  rintro e w1 ⟨rfl, H1, x1, hs1⟩
  clear hs1
  go_wp2_with fail
  refine (holds_any _).mono ?_
  rintro e w3 ⟨rfl, x3⟩
  have H3 := H1.ext0 x3
  have y3 := x1.trans x3
  clear H1 x1 x3
  go_wp2_with fail
  obtain ⟨bt, hbt⟩ : ∃ bt, bt = w.heap.size + 1 := ⟨_, rfl⟩
  have hbt1 : w.heap.size ≤ bt := by omega
  rw [← hbt] at H3 ⊢
  clear hbt
  go_loopw [10, 11, 12] (fun v _ _ wr => ∃ (i : Nat) (l : List Ent), i ≤ k ∧ v = .int .i64 (i : Int) ∧ RowE l i (fun _ => 1) w.heap.size ∧ I.ObjAt wr bt w.heap.size k i l ∧ Ext [] w wr) (fun v _ _ _ => k - (intOf v).toNat)
  case atStart => exact ⟨0, [], by omega, rfl, ⟨rfl, by simp⟩, H3, y3⟩
  case round =>
    clear H3 y3
    obtain ⟨i, l, hi, rfl, HR, H, x⟩ := hrel
    by_cases hlt : i < k
    · have hll : l.length < k := by have := HR.1; omega
      go_wp2_with fail
      refine (I.obj_make H _ hll (by omega)).mono ?_
      rintro e w4 ⟨b, rfl, hb, H4, x4⟩
      have hxs := x.size
      have y4 := x.trans' x4 (by simp; omega)
      have HR4 := HR.snoc b (by omega) _ rfl
      clear H x x4 HR hll hb hxs
      go_wp2_with fail
      go_roundw
      case rel => exact ⟨i + 1, _, by omega, by go_num, HR4, H4, y4⟩
      case measure => simp [intOf]; omega
    · have hik : i = k := by omega
      go_wp2_with fail
      generalize Value.bool (decide ((i : Int) < (k : Int))) = q40
      generalize Value.int IntKind.i64 (i : Int) = q10
      rw [hik] at H HR
      clear hik hlt hi
      obtain ⟨wi, hwi, hwik⟩ := mod_nat a1 k (by omega) (by omega)
      rw [show wrap64 ((IntKind.u64.wrap a1).tmod (k : Int)) = (wi : Int) from hwi, show wrap64 ((IntKind.u64.wrap a2).tmod 50) = (m : Int) from HM.out, IntWalk.wrap64_in (1 + (wi : Int)) (by omega)]
      clear hwi HM
      obtain ⟨wo, rfl⟩ : ∃ wo : World, wo = wr := ⟨_, rfl⟩
      go_loopw [15] (fun v wr => ∃ (i : Nat) (l : List Ent), i ≤ m ∧ v = .int .i64 (i : Int) ∧ RowE l k (fun j => if j = wi then i + 1 else 1) w.heap.size ∧ I.ObjAt wr bt w.heap.size k k l ∧ Ext [] w wr) (fun v _ => m - (intOf v).toNat)
      case atStart => exact ⟨0, l, by omega, rfl, ⟨HR.1, fun j hj => by have := HR.2 j hj; simpa using this⟩, H, x⟩
      case round =>
        clear H x HR
        obtain ⟨i, l, hi, rfl, HR, H, x⟩ := hrel
        have hwl : wi < l.length := by have := HR.1; omega
        have hrow := HR.2 wi hwl
        by_cases hlt : i < m
        · have HL := Lib.hid HR
          have HRW := Lib.hid hrow
          clear HR hrow
          go_wp2_with fail
          refine (I.obj_hold' H wi hwl _ (by rw [HRW.out.1]; push_cast; omega) (by rw [HRW.out.2.2.1]; simp; omega)).mono ?_
          rintro e w4 ⟨rfl, H4, x4, -⟩
          have y4 := x.trans' x4 (by have := HRW.out.2.2.2; simp; omega)
          have HR4 := HL.out.set wi hwl (l[wi].h + 1)
          rw [HRW.out.2.2.1] at HR4 H4
          simp only [if_true] at HR4 H4
          clear H x x4
          go_wp2_with fail
          go_roundw
          case rel =>
            refine ⟨i + 1, _, by omega, by go_num, ⟨HR4.1, fun j hj => ?_⟩, H4, y4⟩
            have := HR4.2 j hj
            refine ⟨this.1, this.2.1, ?_, this.2.2.2⟩
            rw [this.2.2.1]
            by_cases hjw : j = wi <;> simp [hjw]
          case measure => simp [intOf]; omega
        · have him : i = m := by omega
          have HR' : RowE l k (fun j => if j = wi then m + 1 else 1) w.heap.size := by rw [← him]; exact HR
          clear HR hrow
          go_wp2_with fail
          generalize Value.bool (decide ((i : Int) < (m : Int))) = q71
          generalize Value.int IntKind.i64 (i : Int) = q15
          clear him hlt hi
          obtain ⟨wo2, rfl⟩ : ∃ wo2 : World, wo2 = wr := ⟨_, rfl⟩
          go_loopw [16, 17, 18, 19] (fun v _ _ _ wr => ∃ (i : Nat), i ≤ k ∧ v = .int .i64 ((i : Int) + 1) ∧ I.ObjAt wr bt w.heap.size k k l ∧ Ext [] w wr) (fun v _ _ _ _ => k + 1 - (intOf v).toNat)
          case atStart => exact ⟨0, by omega, rfl, H, x⟩
          case round =>
            clear H x
            obtain ⟨i, hi, rfl, H, x⟩ := hrel
            by_cases hlt : i < k
            · have hil : i < l.length := by have := HR'.1; omega
              have hrow := HR'.2 i hil
              have HRW := Lib.hid hrow
              clear hrow
              by_cases heq : i = wi
              · subst heq
                go_wp2_with fail
                refine (I.obj_get' H i hil _ (by rw [HRW.out.1]; rfl)).mono ?_
                rintro e w4 ⟨rfl, rfl⟩
                rw [HRW.out.2.1]
                go_wp2_with fail
                refine (I.obj_held' H i hil _ (by rw [HRW.out.1]; rfl)).mono ?_
                rintro e w4 ⟨rfl, rfl⟩
                rw [HRW.out.2.2.1]
                simp only [if_true]
                push_cast
                go_wp2_with fail
                go_roundw
                case rel => exact ⟨i + 1, by omega, by push_cast; rfl, H, x⟩
                case measure => simp [intOf]; omega
              · have hne : (((i : Int) + 1) == 1 + (wi : Int)) = false := by rw [beq_eq_false_iff_ne]; omega
                have hne2 : (((i : Int) + 1) == (wi : Int) + 1) = false := by rw [beq_eq_false_iff_ne]; omega
                go_wp2_with fail
                refine (I.obj_get' H i hil _ (by rw [HRW.out.1]; rfl)).mono ?_
                rintro e w4 ⟨rfl, rfl⟩
                rw [HRW.out.2.1]
                go_wp2_with fail
                refine (I.obj_held' H i hil _ (by rw [HRW.out.1]; rfl)).mono ?_
                rintro e w4 ⟨rfl, rfl⟩
                rw [HRW.out.2.2.1]
                rw [if_neg heq]
                go_wp2_with fail
                go_roundw
                case rel => exact ⟨i + 1, by omega, by push_cast; rfl, H, x⟩
                case measure => simp [intOf]; omega
            · have hfull := HR'.1
              have HF := Lib.hid hfull
              clear hfull HR'
              go_wp2_with fail
              refine (I.obj_make_full H _ HF.out).mono ?_
              rintro e w5 ⟨rfl, x5⟩
              go_wp2_with fail
              go_ret
              exact ⟨rfl, (x.trans x5).below (Nat.le_refl _) (by simp)⟩
end Go.Proofs.Ytknghmogfbpclaa
