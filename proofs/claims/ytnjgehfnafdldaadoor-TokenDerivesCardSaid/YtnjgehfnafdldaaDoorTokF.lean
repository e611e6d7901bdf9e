/- Package token: Command, Program, Map. -/
import Derived.Test.YtnjgehfnafdldaaDoorTokE
namespace Go.Proofs.YtnjgehfnafdldaaDoor
open Go.RowKit
set_option maxRecDepth 100000

theorem field_c (a b c d : Int) (x y : Bool) (w : World) : (Instr.field 28 (.agg #[.int .u16 a, .int .u16 b, .int .u16 c, .int .u16 d, .bool x, .bool y]) 0).run Tryd.prog w = .ok (.int .u16 a) w := by
  have p16 : ∀ (xs : Array Value) off v, xs[off]? = some v → (part 26 xs off).run Tryd.prog w = .ok v w := fun xs off v hx => run_part_plain w (by kernel_rfl) hx
  unfold Instr.field
  simp [Sem.run_bind, asAgg, p16]

theorem command_any (bs : List Nat) (ch : List Tk) (n : Int) (w : World) (H : TokAt w bs ch) :
    Calls Tryd.prog 23 #[ptrV bs, .int .i64 n] w fun e w' => e = .returned (.int .i64 (hasE (rOf ch).c n)) ∧ Ext [] w w' := by
  have HO := Lib.hid (fun w' (x' : Ext [] w w') => of_any bs ch w' (H.ext0 x'))
  have HH := Lib.hid (fun w' => thas_any (rOf ch).c n w')
  obtain ⟨E, hE⟩ : ∃ E, E = hasE (rOf ch).c n := ⟨_, rfl⟩
  rw [← hE] at HH ⊢
  clear hE
  generalize ptrV bs = p at *
  generalize rOf ch = r at *
  clear H
  unfold Rt.val at HO
  go_enter Tryd.func23, Tryd.ntmps23
  go_wp2_with fail
  refine (HO.out w (Ext.refl _ _)).mono ?_
  rintro e w2 ⟨rfl, x2⟩
  have hf := field_c (r.c.toNat : Int) (r.p.toNat : Int) (r.m.toNat : Int) (r.h.toNat : Int) r.v r.s w2
  go_wp2_with fail
  refine (HH.out w2).mono ?_
  rintro e w3 ⟨rfl, rfl⟩
  go_wp2_with fail
  go_returns
  exact ⟨rfl, x2⟩

theorem field_p (a b c d : Int) (x y : Bool) (w : World) : (Instr.field 28 (.agg #[.int .u16 a, .int .u16 b, .int .u16 c, .int .u16 d, .bool x, .bool y]) 1).run Tryd.prog w = .ok (.int .u16 b) w := by
  have p16 : ∀ (xs : Array Value) off v, xs[off]? = some v → (part 26 xs off).run Tryd.prog w = .ok v w := fun xs off v hx => run_part_plain w (by kernel_rfl) hx
  unfold Instr.field
  simp [Sem.run_bind, asAgg, p16]

theorem program_any (bs : List Nat) (ch : List Tk) (n : Int) (w : World) (H : TokAt w bs ch) :
    Calls Tryd.prog 24 #[ptrV bs, .int .i64 n] w fun e w' => e = .returned (.int .i64 (hasE (rOf ch).p n)) ∧ Ext [] w w' := by
  have HO := Lib.hid (fun w' (x' : Ext [] w w') => of_any bs ch w' (H.ext0 x'))
  have HH := Lib.hid (fun w' => thas_any (rOf ch).p n w')
  obtain ⟨E, hE⟩ : ∃ E, E = hasE (rOf ch).p n := ⟨_, rfl⟩
  rw [← hE] at HH ⊢
  clear hE
  generalize ptrV bs = p at *
  generalize rOf ch = r at *
  clear H
  unfold Rt.val at HO
  go_enter Tryd.func24, Tryd.ntmps24
  go_wp2_with fail
  refine (HO.out w (Ext.refl _ _)).mono ?_
  rintro e w2 ⟨rfl, x2⟩
  have hf := field_p (r.c.toNat : Int) (r.p.toNat : Int) (r.m.toNat : Int) (r.h.toNat : Int) r.v r.s w2
  go_wp2_with fail
  refine (HH.out w2).mono ?_
  rintro e w3 ⟨rfl, rfl⟩
  go_wp2_with fail
  go_returns
  exact ⟨rfl, x2⟩

theorem field_m (a b c d : Int) (x y : Bool) (w : World) : (Instr.field 28 (.agg #[.int .u16 a, .int .u16 b, .int .u16 c, .int .u16 d, .bool x, .bool y]) 2).run Tryd.prog w = .ok (.int .u16 c) w := by
  have p16 : ∀ (xs : Array Value) off v, xs[off]? = some v → (part 26 xs off).run Tryd.prog w = .ok v w := fun xs off v hx => run_part_plain w (by kernel_rfl) hx
  unfold Instr.field
  simp [Sem.run_bind, asAgg, p16]

theorem map_any (bs : List Nat) (ch : List Tk) (n : Int) (w : World) (H : TokAt w bs ch) :
    Calls Tryd.prog 25 #[ptrV bs, .int .i64 n] w fun e w' => e = .returned (.int .i64 (hasE (rOf ch).m n)) ∧ Ext [] w w' := by
  have HO := Lib.hid (fun w' (x' : Ext [] w w') => of_any bs ch w' (H.ext0 x'))
  have HH := Lib.hid (fun w' => thas_any (rOf ch).m n w')
  obtain ⟨E, hE⟩ : ∃ E, E = hasE (rOf ch).m n := ⟨_, rfl⟩
  rw [← hE] at HH ⊢
  clear hE
  generalize ptrV bs = p at *
  generalize rOf ch = r at *
  clear H
  unfold Rt.val at HO
  go_enter Tryd.func25, Tryd.ntmps25
  go_wp2_with fail
  refine (HO.out w (Ext.refl _ _)).mono ?_
  rintro e w2 ⟨rfl, x2⟩
  have hf := field_m (r.c.toNat : Int) (r.p.toNat : Int) (r.m.toNat : Int) (r.h.toNat : Int) r.v r.s w2
  go_wp2_with fail
  refine (HH.out w2).mono ?_
  rintro e w3 ⟨rfl, rfl⟩
  go_wp2_with fail
  go_returns
  exact ⟨rfl, x2⟩
end Go.Proofs.YtnjgehfnafdldaaDoor
