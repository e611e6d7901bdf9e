/- Package bmap: the order of keys; insertion, as slices.SortStableFunc does it with eight at most. -/
import Derived.Laws.Cover1
import Derived.Test.YtbjkfgfiifnjoaaDoorBmF
import Derived.Test.YtbjkfgfiifnjoaaDoorSlc
namespace Go.Proofs.YtbjkfgfiifnjoaaDoor
open Go.RowKit
set_option maxRecDepth 100000

def cmpK (a b : Nat) : Int := if a < b then -1 else if b < a then 1 else 0
theorem keyS_less : ∀ a b : Fin 8, Op.bytesLess (keyS a.val).toList (keyS b.val).toList = decide (a.val < b.val) := by decide +kernel

theorem bm_cmp (a b : Nat) (ha : a < 8) (hb : b < 8) (w : World) : Calls Tryd.prog 68 #[.string (keyS a), .string (keyS b)] w fun e w' => e = .returned (.int .i64 (cmpK a b)) ∧ w = w' := by
  have HC := Lib.hid (show cmpK a b = if a < b then -1 else if b < a then 1 else 0 from rfl)
  have h1 := keyS_less ⟨a, ha⟩ ⟨b, hb⟩
  have h2 := keyS_beq ⟨a, ha⟩ ⟨b, hb⟩
  simp only at h1 h2
  generalize cmpK a b = R at *
  generalize keyS a = s1 at *
  generalize keyS b = s2 at *
  rcases Nat.lt_trichotomy a b with h | h | h
  · have hR : R = -1 := by rw [HC.out, if_pos h]
    subst hR
    rw [decide_eq_true h] at h1
    clear h2 HC h
    go_enter Tryd.func68, Tryd.ntmps68
    go_wp2
    go_ret
    exact ⟨rfl, rfl⟩
  · have hR : R = 0 := by rw [HC.out, if_neg (by omega), if_neg (by omega)]
    subst hR
    rw [decide_eq_false (by omega)] at h1
    rw [decide_eq_true h] at h2
    clear HC h
    go_enter Tryd.func68, Tryd.ntmps68
    go_wp2
    go_ret
    exact ⟨rfl, rfl⟩
  · have hR : R = 1 := by rw [HC.out, if_neg (by omega), if_pos h]
    subst hR
    rw [decide_eq_false (by omega)] at h1
    rw [decide_eq_false (by omega)] at h2
    clear HC h
    go_enter Tryd.func68, Tryd.ntmps68
    go_wp2
    go_ret
    exact ⟨rfl, rfl⟩

/-- The keys of entries that stand in memory. -/
structure KeyAt (w : World) (x : BE) : Prop where
  b : Blk w x.e 122 [.string (keyS x.k), .pointer (some ⟨x.c, 0, none⟩), .int .i64 (x.u : Int)]
  k : x.k < 8
theorem KeyAt.ext {S : List Nat} {w w' : World} {x : BE} (h : KeyAt w x) (e : Ext S w w') (hn : x.e ∉ S) : KeyAt w' x := ⟨h.b.ext e hn, h.k⟩

theorem bm_sclos (x y : BE) (w : World) (hx : KeyAt w x) (hy : KeyAt w y) :
    Calls Tryd.prog 67 #[.pointer (some ⟨x.e, 0, none⟩), .pointer (some ⟨y.e, 0, none⟩)] w fun e w' => e = .returned (.int .i64 (cmpK x.k y.k)) ∧ Ext [] w w' := by
  have HC := Lib.hid (fun w => bm_cmp x.k y.k hx.k hy.k w)
  have c0 := hx.b.cell 0
  have d0 := hy.b.cell 0
  have hl1 := hx.b.lt
  have hl2 := hy.b.lt
  simp only [List.getElem?_cons_zero] at c0 d0
  clear hx hy
  generalize keyS x.k = s1 at *
  generalize keyS y.k = s2 at *
  generalize x.e = e1 at *
  generalize y.e = e2 at *
  go_enter Tryd.func67, Tryd.ntmps67
  go_upto_region 1 with (fail)
  go_quiet ((go_at_call 68; exact quiet_left (HC.out _)))
  have x9 : Ext [] w (w.drewN nq) := (Ext.refl _ _).drewN nq
  go_wp2_with fail
  go_ret
  exact ⟨rfl, x9⟩
end Go.Proofs.YtbjkfgfiifnjoaaDoor
