/- Package rights: All, Common, Within. -/
import Derived.Laws.StructEq
import Derived.Laws.BitsAllLaws
import Derived.ChangeKeysEq
import Derived.Deep.RegionHeld3
import Derived.Test.YtbjkfgfiifnjoaaDoorSpMT
namespace Go.Proofs.YtbjkfgfiifnjoaaDoor
open Go.RowKit
set_option maxRecDepth 100000

/-- Rights, as bits. -/
structure Rt where
  c : BitVec 16
  p : BitVec 16
  m : BitVec 16
  h : BitVec 16
  v : Bool
  s : Bool
deriving DecidableEq

def Rt.cells (r : Rt) : List Value := [.int .u16 (r.c.toNat : Int), .int .u16 (r.p.toNat : Int), .int .u16 (r.m.toNat : Int), .int .u16 (r.h.toNat : Int), .bool r.v, .bool r.s]
def Rt.val (r : Rt) : Value := .agg #[.int .u16 (r.c.toNat : Int), .int .u16 (r.p.toNat : Int), .int .u16 (r.m.toNat : Int), .int .u16 (r.h.toNat : Int), .bool r.v, .bool r.s]
def Rt.common (a b : Rt) : Rt := ⟨a.c &&& b.c, a.p &&& b.p, a.m &&& b.m, a.h &&& b.h, a.v && b.v, a.s || b.s⟩
def Rt.within (a b : Rt) : Bool := decide (a.common b = a)
def Rt.all : Rt := ⟨255#16, 15#16, 63#16, 255#16, true, false⟩
def Rt.none : Rt := ⟨0#16, 0#16, 0#16, 0#16, false, false⟩

theorem bv16_and (x y : BitVec 16) : bits .and .u16 (x.toNat : Int) (y.toNat : Int) = ((x &&& y).toNat : Int) := by
  rw [u16_and_nat _ _ x.isLt y.isLt, BitVec.toNat_and]

theorem all_any (w : World) : Calls Tryd.prog 35 #[] w fun e w' => e = .returned Rt.all.val ∧ Ext [] w w' := by
  go_enter Tryd.func35, Tryd.ntmps35
  go_wp2_with fail
  go_returns
  exact ⟨rfl, (Ext.refl _ _).alloc _⟩

set_option maxHeartbeats 4000000 in
theorem common_any (a b : Rt) (w : World) : Calls Tryd.prog 37 #[a.val, b.val] w fun e w' => e = .returned (a.common b).val ∧ Ext [] w w' := by
  unfold Rt.val Rt.common
  obtain ⟨ac, ap, am, ah, av, aq⟩ := a
  obtain ⟨bc, bp, bm, bh, bv, bq⟩ := b
  dsimp only
  rw [← bv16_and, ← bv16_and, ← bv16_and, ← bv16_and]
  go_enter Tryd.func37, Tryd.ntmps37
  cases av <;> cases aq
  all_goals
    go_wp2_with fail
    go_returns
    exact ⟨rfl, (((Ext.refl _ _).alloc _).alloc _).alloc _⟩

theorem eq_rt_raw (d : Nat) (a b c e a' b' c' e' : Int) (x y x' y' : Bool) (w : World) :
    (Op.equalIn (d + 2) 84 (.agg #[.int .u16 a, .int .u16 b, .int .u16 c, .int .u16 e, .bool x, .bool y]) (.agg #[.int .u16 a', .int .u16 b', .int .u16 c', .int .u16 e', .bool x', .bool y'])).run Tryd.prog w
      = .ok (a == a' && (b == b' && (c == c' && (e == e' && (x == x' && y == y'))))) w := by
  have p16 : ∀ (xs : Array Value) off v, xs[off]? = some v → (part 82 xs off).run Tryd.prog w = .ok v w := fun xs off v hx => run_part_plain w (by kernel_rfl) hx
  have pb : ∀ (xs : Array Value) off v, xs[off]? = some v → (part 4 xs off).run Tryd.prog w = .ok v w := fun xs off v hx => run_part_plain w (by kernel_rfl) hx
  have e16 : ∀ a b : Int, (Op.equalIn (d + 1) 82 (.int .u16 a) (.int .u16 b)).run Tryd.prog w = .ok (a == b) w := fun a b => run_equalIn_int w d _ .u16 .u16 a b Tryd.underlying82
  have eb : ∀ a b : Bool, (Op.equalIn (d + 1) 4 (.bool a) (.bool b)).run Tryd.prog w = .ok (a == b) w := fun a b => run_equalIn_bool w d _ a b Tryd.underlying4
  rw [run_equalIn_struct w (d + 1) _ _ _ (by simp [Program.fieldsOf, Tryd.underlying84]) (by kernel_rfl)]
  simp [Program.fieldsOf, Tryd.underlying84, Op.eqFields, Sem.run_bind, p16, pb, e16, eb]
  by_cases h1 : a = a' <;> by_cases h2 : b = b' <;> by_cases h3 : c = c' <;> by_cases h4 : e = e' <;> by_cases h5 : x = x' <;> cases y <;> cases y' <;> simp [h1, h2, h3, h4, h5]

theorem rt_beq (x y : Rt) : (((x.c.toNat : Int) == (y.c.toNat : Int)) && (((x.p.toNat : Int) == (y.p.toNat : Int)) && (((x.m.toNat : Int) == (y.m.toNat : Int)) && (((x.h.toNat : Int) == (y.h.toNat : Int)) && ((x.v == y.v) && (x.s == y.s)))))) = decide (x = y) := by
  rw [Bool.eq_iff_iff]
  obtain ⟨a, b, c, d, e, f⟩ := x
  obtain ⟨a', b', c', d', e', f'⟩ := y
  simp only [Bool.and_eq_true, beq_iff_eq, decide_eq_true_eq, Rt.mk.injEq, Int.ofNat_inj, BitVec.toNat_inj]

theorem eql_rt (x y : Rt) (w : World) : (binOp .eql 84 x.val y.val).run Tryd.prog w = .ok (.bool (decide (x = y))) w := by
  unfold Rt.val
  rw [run_eql_struct, show (10000 : Nat) = 9998 + 2 from rfl]
  rw [eq_rt_raw, rt_beq]
  rfl
theorem neq_rt (x y : Rt) (w : World) : (binOp .neq 84 x.val y.val).run Tryd.prog w = .ok (.bool (!decide (x = y))) w := by
  unfold Rt.val
  rw [run_neq_struct, show (10000 : Nat) = 9998 + 2 from rfl]
  rw [eq_rt_raw, rt_beq]
  rfl

theorem ifs_rt {α : Type} (x y : Rt) (A B : α) : (if (x.c.toNat : Int) = (y.c.toNat : Int) then if (x.p.toNat : Int) = (y.p.toNat : Int) then if (x.m.toNat : Int) = (y.m.toNat : Int) then if (x.h.toNat : Int) = (y.h.toNat : Int) then if x.v = y.v then if x.s = y.s then A else B else B else B else B else B else B) = if x = y then A else B := by
  obtain ⟨a, b, c, d, e, f⟩ := x
  obtain ⟨a', b', c', d', e', f'⟩ := y
  simp only [Int.ofNat_inj, BitVec.toNat_inj, Rt.mk.injEq]
  by_cases h1 : a = a' <;> by_cases h2 : b = b' <;> by_cases h3 : c = c' <;> by_cases h4 : d = d' <;> by_cases h5 : e = e' <;> by_cases h6 : f = f' <;> simp [h1, h2, h3, h4, h5, h6]

set_option maxHeartbeats 4000000 in
theorem within_any (a b : Rt) (w : World) : Calls Tryd.prog 41 #[a.val, b.val] w fun e w' => e = .returned (.bool (a.within b)) ∧ Ext [] w w' := by
  have HC := Lib.hid (fun w' => common_any a b w')
  obtain ⟨q, hq⟩ : ∃ q, q = decide (a.common b = a) := ⟨_, rfl⟩
  unfold Rt.within
  rw [← hq]
  have HQ := Lib.hid hq
  clear hq
  generalize (a.common b) = cm at *
  unfold Rt.val at *
  go_enter Tryd.func41, Tryd.ntmps41
  obtain ⟨w2, hw2⟩ : ∃ w2, w2 = (w.alloc (.cells #[.int .u16 (a.c.toNat : Int), .int .u16 (a.p.toNat : Int), .int .u16 (a.m.toNat : Int), .int .u16 (a.h.toNat : Int), .bool a.v, .bool a.s] 84)).alloc (.cells #[.int .u16 (b.c.toNat : Int), .int .u16 (b.p.toNat : Int), .int .u16 (b.m.toNat : Int), .int .u16 (b.h.toNat : Int), .bool b.v, .bool b.s] 84) := ⟨_, rfl⟩
  have BA : Blk w2 w.heap.size 84 a.cells := by rw [hw2]; exact (Blk.new w _ _).alloc _
  have BB : Blk w2 (w.heap.size + 1) 84 b.cells := by rw [hw2]; exact Blk.new' _ _ _ _ (by simp)
  have X : Ext [] w w2 := by rw [hw2]; exact ((Ext.refl _ _).alloc _).alloc _
  go_upto_region 1 with (fail)
  rw [← hw2]
  clear hw2
  have zz : Ext [] w2 w2.drew := (Ext.refl _ _).drew
  refine wp_region_held_drew (S := fun w' => Ext [] w2 w') (by kernel_rfl) zz (fun hS => ?_)
  refine wpAnyH_take (i := 0) (oi := ⟨some 5, _, _, _, _, _⟩) (v := ?_) rfl (by kernel_rfl) (by kernel_rfl) (by kernel_rfl) (fun _ _ _ h => h) (Or.inl ⟨by rfl, ?_⟩) (by assumption) ?_
  rotate_left 1
  · (intro w hSw; (try dsimp only at hSw); go_split_ands; have c0 := (BA.ext hSw (by simp)).cell; have l0 := (BA.ext hSw (by simp)).lt; unfold Rt.cells at c0; have q0 := c0 0; have q1 := c0 1; have q2 := c0 2; have q3 := c0 3; have q4 := c0 4; have q5 := c0 5; simp only [List.getElem?_cons_zero, List.getElem?_cons_succ] at q0 q1 q2 q3 q4 q5; clear c0; (try go_simp); (try with_reducible rfl))
  try simp only [Act.put, List.setIfInBounds_toArray, List.set_cons_zero, List.set_cons_succ]
  refine wpAnyH_take (i := 1) (oi := ⟨some 6, _, _, _, _, _⟩) (v := ?_) rfl (by kernel_rfl) (by kernel_rfl) (by kernel_rfl) (fun _ _ _ h => h) (Or.inl ⟨by rfl, ?_⟩) (by assumption) ?_
  rotate_left 1
  · (intro w hSw; (try dsimp only at hSw); go_split_ands; have c0 := (BB.ext hSw (by simp)).cell; have l0 := (BB.ext hSw (by simp)).lt; unfold Rt.cells at c0; have q0 := c0 0; have q1 := c0 1; have q2 := c0 2; have q3 := c0 3; have q4 := c0 4; have q5 := c0 5; simp only [List.getElem?_cons_zero, List.getElem?_cons_succ] at q0 q1 q2 q3 q4 q5; clear c0; (try go_simp); (try with_reducible rfl))
  try simp only [Act.put, List.setIfInBounds_toArray, List.set_cons_zero, List.set_cons_succ]
  refine wpAnyH_take (i := 3) (oi := ⟨some 8, _, _, _, _, _⟩) (v := ?_) rfl (by kernel_rfl) (by kernel_rfl) (by kernel_rfl) (fun _ _ _ h => h) (Or.inl ⟨by rfl, ?_⟩) (by assumption) ?_
  rotate_left 1
  · (intro w hSw; (try dsimp only at hSw); go_split_ands; have c0 := (BA.ext hSw (by simp)).cell; have l0 := (BA.ext hSw (by simp)).lt; unfold Rt.cells at c0; have q0 := c0 0; have q1 := c0 1; have q2 := c0 2; have q3 := c0 3; have q4 := c0 4; have q5 := c0 5; simp only [List.getElem?_cons_zero, List.getElem?_cons_succ] at q0 q1 q2 q3 q4 q5; clear c0; (try go_simp); (try with_reducible rfl))
  try simp only [Act.put, List.setIfInBounds_toArray, List.set_cons_zero, List.set_cons_succ]
  refine wpAnyH_ready (rs := [2]) (by kernel_rfl) (by simp) ?_
  refine AllReadyH.cons (o := ⟨some 7, _, _, _, _, _⟩) rfl (fun K hK => ?_) AllReadyH.nil
  go_simp
  refine (HC.out _).mono ?_
  rintro e W2 ⟨rfl, x6⟩
  go_simp
  have hk := hS.trans x6
  refine hK.out _ _ hk (fun hS => ?_)
  clear hK K
  try simp only [Act.put, List.setIfInBounds_toArray, List.set_cons_zero, List.set_cons_succ]
  generalize W2 = wd at *
  refine wpAnyH_take (i := 4) (oi := ⟨some 9, _, _, _, _, _⟩) (v := ?_) rfl (by kernel_rfl) (by kernel_rfl) (by kernel_rfl) (fun _ _ _ h => h) (Or.inl ⟨by rfl, ?_⟩) (by assumption) ?_
  rotate_left 1
  · (intro w hSw; (try dsimp only at hSw); go_split_ands; go_simp; rw [ifs_rt cm a, show (if cm = a then Result.ok (Next.value (Value.bool true)) w else Result.ok (Next.value (Value.bool false)) w) = Result.ok (Next.value (Value.bool q)) w from by rw [HQ.out]; by_cases e : cm = a <;> simp [e]]; (try go_simp); (try with_reducible rfl))
  try simp only [Act.put, List.setIfInBounds_toArray, List.set_cons_zero, List.set_cons_succ]
  refine wpAnyH_take (i := 5) (oi := ⟨some 4, _, _, _, _, _⟩) (v := ?_) rfl (by kernel_rfl) (by kernel_rfl) (by kernel_rfl) (fun _ _ _ h => h) (Or.inl ⟨by rfl, ?_⟩) (by assumption) ?_
  rotate_left 1
  · (intro w hSw; (try dsimp only at hSw); go_split_ands; (try go_simp); (try with_reducible rfl))
  try simp only [Act.put, List.setIfInBounds_toArray, List.set_cons_zero, List.set_cons_succ]
  refine wpAnyH_done (by kernel_rfl) ?_ _
  go_wp2_with fail
  go_returns
  exact ⟨rfl, X.trans hS⟩
end Go.Proofs.YtbjkfgfiifnjoaaDoor
