/- Package tipstafflaw12: to, may; the reference's rights: All, Within. -/
import Derived.Test.YtnjgehfnafdldaaDoorTokH
import Derived.Test.YtnjgehfnafdldaaDoorSpaceRef
namespace Go.Proofs.YtnjgehfnafdldaaDoor
open Go.RowKit
set_option maxRecDepth 100000

theorem to_any (r : Rt) (w : World) : Calls Tryd.prog 22 #[r.val] w fun e w' => e = .returned r.val ∧ Ext [] w w' := by
  unfold Rt.val
  obtain ⟨ac, ap, am, ah, av, aq⟩ := r
  dsimp only
  go_enter Tryd.func22, Tryd.ntmps22
  go_wp2_with fail
  go_returns
  exact ⟨rfl, ((Ext.refl _ _).alloc _).alloc _⟩

theorem rall_any (w : World) : Calls Tryd.prog 19 #[] w fun e w' => e = .returned Rt.all.val ∧ Ext [] w w' := by
  go_enter Tryd.func19, Tryd.ntmps19
  go_wp2_with fail
  go_returns
  exact ⟨rfl, (Ext.refl _ _).alloc _⟩

theorem within_all (a b : Rt) : a.within b = (((bits .and .u16 (a.c.toNat : Int) (b.c.toNat : Int)) == (a.c.toNat : Int)) && (((bits .and .u16 (a.p.toNat : Int) (b.p.toNat : Int)) == (a.p.toNat : Int)) && (((bits .and .u16 (a.m.toNat : Int) (b.m.toNat : Int)) == (a.m.toNat : Int)) && (((bits .and .u16 (a.h.toNat : Int) (b.h.toNat : Int)) == (a.h.toNat : Int)) && ((!a.v || b.v) && (!b.s || a.s)))))) := by
  rw [Bool.eq_iff_iff]
  unfold Rt.within Rt.common
  rw [bv16_and, bv16_and, bv16_and, bv16_and]
  obtain ⟨ac, ap, am, ah, av, aq⟩ := a
  obtain ⟨bc, bp, bm, bh, bv, bq⟩ := b
  simp only [Bool.and_eq_true, beq_iff_eq, decide_eq_true_eq, Rt.mk.injEq, Int.ofNat_inj, BitVec.toNat_inj]
  cases av <;> cases bv <;> cases aq <;> cases bq <;> simp

set_option maxHeartbeats 4000000 in
theorem rwithin_any (a b : Rt) (w : World) : Calls Tryd.prog 18 #[a.val, b.val] w fun e w' => e = .returned (.bool (a.within b)) ∧ Ext [] w w' := by
  rw [within_all]
  unfold Rt.val
  obtain ⟨ac, ap, am, ah, av, aq⟩ := a
  obtain ⟨bc, bp, bm, bh, bv, bq⟩ := b
  dsimp only
  generalize (ac.toNat : Int) = ac
  generalize (ap.toNat : Int) = ap
  generalize (am.toNat : Int) = am
  generalize (ah.toNat : Int) = ah
  generalize (bc.toNat : Int) = bc
  generalize (bp.toNat : Int) = bp
  generalize (bm.toNat : Int) = bm
  generalize (bh.toNat : Int) = bh
  generalize h1 : ((bits .and .u16 ac bc) == ac) = q1
  generalize h2 : ((bits .and .u16 ap bp) == ap) = q2
  generalize h3 : ((bits .and .u16 am bm) == am) = q3
  generalize h4 : ((bits .and .u16 ah bh) == ah) = q4
  go_enter Tryd.func18, Tryd.ntmps18
  cases q1 with
  | false =>
    go_wp2_with fail
    go_ret
    exact ⟨rfl, ((Ext.refl _ _).alloc _).alloc _⟩
  | true =>
    cases q2 with
    | false =>
      go_wp2_with fail
      go_ret
      exact ⟨rfl, ((Ext.refl _ _).alloc _).alloc _⟩
    | true =>
      cases q3 with
      | false =>
        go_wp2_with fail
        go_ret
        exact ⟨rfl, ((Ext.refl _ _).alloc _).alloc _⟩
      | true =>
        cases q4 with
        | false =>
          go_wp2_with fail
          go_ret
          exact ⟨rfl, ((Ext.refl _ _).alloc _).alloc _⟩
        | true =>
          cases av <;> cases bv <;> cases bq <;> cases aq
          all_goals
            go_wp2_with fail
            go_ret
            exact ⟨rfl, ((Ext.refl _ _).alloc _).alloc _⟩
end Go.Proofs.YtnjgehfnafdldaaDoor
