/- TipstaffShares: what its tables hold; the calls, said of them. -/
import Derived.Test.YtbjkfgfiifnjoaaDoorFdUsed
import Derived.Test.YtbjkfgfiifnjoaaDoorObjT
import Derived.Test.YtbjkfgfiifnjoaaDoorObjLiveT
import Derived.Test.YtbjkfgfiifnjoaaDoorFlat
namespace Go.Proofs.YtbjkfgfiifnjoaaDoor
open Go.RowKit
set_option maxRecDepth 100000

/-- A table of eight, of which the first n are of the one object. -/
def rep2 (n : Nat) : List Int := List.replicate n 1 ++ List.replicate (8 - n) 0

theorem rep2_facts : ∀ n : Fin 9, (rep2 n.val).length = 8 ∧ usedFrom (rep2 n.val) 0 = List.range n.val ∧
    (∀ i : Fin 8, i.val < n.val → (rep2 n.val).getD i.val 0 = 1) ∧ (n.val < 8 → (rep2 n.val).getD n.val 1 = 0 ∧ (rep2 n.val).set n.val 1 = rep2 (n.val + 1)) ∧
    (0 < n.val → (rep2 n.val).getD (n.val - 1) 0 = 1 ∧ (rep2 n.val).set (n.val - 1) 0 = rep2 (n.val - 1)) := by decide +kernel

theorem shr_new (w : World) :
    Calls Tryd.prog 22 #[.int .i64 8] w fun e w' => e = .returned (.tuple #[.pointer (some ⟨w.heap.size + 1, 0, none⟩), .int .i64 0]) ∧
      FdAt w' (w.heap.size + 1) w.heap.size (rep2 0) ∧ Ext [] w w' ∧ w'.heap.size = w.heap.size + 2 := fd_new 8 w (by omega) (by omega)

theorem shr_open (bt ba n : Nat) (w : World) (H : FdAt w bt ba (rep2 n)) (hn : n < 8) :
    Calls Tryd.prog 25 #[.pointer (some ⟨bt, 0, none⟩), .int .i64 1] w fun e w' => e = .returned (.tuple #[.int .i64 n, .int .i64 0]) ∧
      FdAt w' bt ba (rep2 (n + 1)) ∧ Ext [ba] w w' ∧ w'.heap.size = w.heap.size := by
  have F := rep2_facts ⟨n, by omega⟩
  simp only at F
  obtain ⟨hl, -, h1, h2, -⟩ := F
  obtain ⟨h2, h3⟩ := h2 hn
  have h := fd_open bt ba n (rep2 n) 1 w H (by omega) (by omega) (by omega) h2 (fun i hi => by rw [h1 ⟨i, by omega⟩ hi]; omega)
  rw [h3] at h
  exact h

theorem shr_close (bt ba n : Nat) (w : World) (H : FdAt w bt ba (rep2 n)) (hn : n ≤ 8) (h0 : 0 < n) (i : Int) (hi : i = (n : Int) - 1) :
    Calls Tryd.prog 28 #[.pointer (some ⟨bt, 0, none⟩), .int .i64 i] w fun e w' => e = .returned (.tuple #[.int .i64 1, .int .i64 0]) ∧
      FdAt w' bt ba (rep2 (n - 1)) ∧ Ext [ba] w w' ∧ w'.heap.size = w.heap.size := by
  have F := rep2_facts ⟨n, by omega⟩
  simp only at F
  obtain ⟨hl, -, -, -, h4⟩ := F
  obtain ⟨h4, h5⟩ := h4 h0
  have h := fd_close bt ba (n - 1) (rep2 n) w H (by omega) (by rw [h4]; omega)
  rw [h5, h4] at h
  rw [show i = ((n - 1 : Nat) : Int) by omega]
  exact h

def ShrUsed (n : Nat) (w : World) (e : Ending) (w' : World) : Prop :=
  ∃ a c, e = .returned (.slice a n c) ∧ w'.ownsRow 0 3 1 (.slice a n c) n (ints (List.range n)) ∧ Ext [] w w'
theorem shr_used (bt ba n : Nat) (w : World) (H : FdAt w bt ba (rep2 n)) (hn : n ≤ 8) :
    Calls Tryd.prog 26 #[.pointer (some ⟨bt, 0, none⟩)] w (ShrUsed n w) := by
  have F := rep2_facts ⟨n, by omega⟩
  simp only at F
  obtain ⟨-, hu, -, -, -⟩ := F
  refine (fd_used bt ba (rep2 n) w H).mono ?_
  rintro e w' ⟨a, c, rfl, hown, x, -⟩
  rw [hu] at hown ⊢
  rw [List.length_range] at hown ⊢
  exact ⟨a, c, rfl, hown, x⟩

theorem shr_free (bt ba : Nat) (w : World) (H : FdAt w bt ba (rep2 0)) :
    Calls Tryd.prog 31 #[.pointer (some ⟨bt, 0, none⟩)] w fun e w' => e = .returned (.int .i64 8) ∧ Ext [] w w' :=
  fd_free bt ba (rep2 0) w H

/-! ### The object -/
def entS (b : Nat) (x : Value) (h : Nat) : Ent := ⟨1, b, x, h⟩
theorem shr_hold {bt bm b h : Nat} {x : Value} {w : World} (H : S.ObjAt w bt bm 2 1 [entS b x h]) (hh : h < 1000) :
    Calls Tryd.prog 24 #[.pointer (some ⟨bt, 0, none⟩), .int .i64 1] w fun e w' => e = .returned (.int .i64 0) ∧
      S.ObjAt w' bt bm 2 1 [entS b x (h + 1)] ∧ Ext [b] w w' ∧ w'.heap.size = w.heap.size := S.obj_hold H 0 (by simp) hh
theorem shr_held {bt bm b h : Nat} {x : Value} {w : World} (H : S.ObjAt w bt bm 2 1 [entS b x h]) :
    Calls Tryd.prog 27 #[.pointer (some ⟨bt, 0, none⟩), .int .i64 1] w fun e w' => e = .returned (.int .i64 (h : Int)) ∧ w = w' := S.obj_held H 0 (by simp)
theorem shr_drop {bt bm b h : Nat} {x : Value} {w : World} (H : S.ObjAt w bt bm 2 1 [entS b x h]) (hh : 2 ≤ h) :
    Calls Tryd.prog 29 #[.pointer (some ⟨bt, 0, none⟩), .int .i64 1] w fun e w' => e = .returned (.tuple #[.bool false, .int .i64 0]) ∧
      S.ObjAt w' bt bm 2 1 [entS b x (h - 1)] ∧ Ext [b] w w' ∧ w'.heap.size = w.heap.size := S.obj_drop H 0 (by simp) hh
theorem shr_drop_last {bt bm b : Nat} {x : Value} {w : World} (H : S.ObjAt w bt bm 2 1 [entS b x 1]) :
    Calls Tryd.prog 29 #[.pointer (some ⟨bt, 0, none⟩), .int .i64 1] w fun e w' => e = .returned (.tuple #[.bool true, .int .i64 0]) ∧
      S.ObjAt w' bt bm 2 1 [] ∧ Ext [bm, b] w w' ∧ w'.heap.size = w.heap.size := S.obj_drop_last H 0 (by simp) rfl
theorem shr_live {bt bm : Nat} {w : World} (H : S.ObjAt w bt bm 2 1 []) :
    Calls Tryd.prog 30 #[.pointer (some ⟨bt, 0, none⟩)] w fun e w' => ∃ a c, e = .returned (.slice a 0 c) ∧ Ext [] w w' := by
  refine (live_str bt bm [] w (H.t.cell 2) H.m (by simp) (by simp) (by simp)).mono ?_
  rintro e w' ⟨v, rfl, hown, x⟩
  obtain ⟨a, c, rfl⟩ := owns_slice hown
  exact ⟨a, c, rfl, x⟩

/-! ### All of them together -/
/-- The blocks: fresh, each another one. -/
structure ShrB (B bt bm b1 a1 b2 a2 b0 : Nat) : Prop where
  fr : B ≤ bt ∧ B ≤ bm ∧ B ≤ b1 ∧ B ≤ a1 ∧ B ≤ b2 ∧ B ≤ a2 ∧ B ≤ b0
  ne1 : b1 ≠ bt ∧ b1 ≠ bm ∧ b1 ≠ b0 ∧ b1 ≠ a2 ∧ b1 ≠ b2
  ne2 : a1 ≠ bt ∧ a1 ≠ bm ∧ a1 ≠ b0 ∧ a1 ≠ a2 ∧ a1 ≠ b2
  ne3 : b2 ≠ bt ∧ b2 ≠ bm ∧ b2 ≠ b0
  ne4 : a2 ≠ bt ∧ a2 ≠ bm ∧ a2 ≠ b0

/-- What is there: the objects, the first table's descriptors, the second one's. -/
structure Shr (w0 w : World) (bt bm b1 a1 b2 a2 b0 : Nat) (l : List Ent) (n1 n2 : Nat) : Prop where
  o : S.ObjAt w bt bm 2 1 l
  f1 : FdAt w b1 a1 (rep2 n1)
  f2 : FdAt w b2 a2 (rep2 n2)
  x : Ext [] w0 w

section
variable {w0 w w' : World} {bt bm b1 a1 b2 a2 b0 : Nat} {l l' : List Ent} {n1 n2 n' : Nat}
theorem Shr.ext0 (h : Shr w0 w bt bm b1 a1 b2 a2 b0 l n1 n2) (x : Ext [] w w') : Shr w0 w' bt bm b1 a1 b2 a2 b0 l n1 n2 :=
  ⟨h.o.ext0 x, h.f1.ext x (by simp) (by simp), h.f2.ext x (by simp) (by simp), h.x.trans x⟩
theorem Shr.fd1 (D : ShrB w0.heap.size bt bm b1 a1 b2 a2 b0) (h : Shr w0 w bt bm b1 a1 b2 a2 b0 l n1 n2) (hb : ∀ y ∈ l, y.b = b0) (f : FdAt w' b1 a1 (rep2 n')) (x : Ext [a1] w w') : Shr w0 w' bt bm b1 a1 b2 a2 b0 l n' n2 := by
  obtain ⟨⟨f1, f2, f3, f4, f5, f6, f7⟩, ⟨p1, p2, p3, p4, p5⟩, ⟨q1, q2, q3, q4, q5⟩, ⟨r1, r2, r3⟩, ⟨s1, s2, s3⟩⟩ := D
  exact ⟨h.o.ext x (by simp; omega) (by simp; omega) (fun y hy => by have := hb y hy; simp; omega), f, h.f2.ext x (by simp; omega) (by simp; omega), h.x.trans' x (by intro i hi; simp at hi; omega)⟩
theorem Shr.fd2 (D : ShrB w0.heap.size bt bm b1 a1 b2 a2 b0) (h : Shr w0 w bt bm b1 a1 b2 a2 b0 l n1 n2) (hb : ∀ y ∈ l, y.b = b0) (f : FdAt w' b2 a2 (rep2 n')) (x : Ext [a2] w w') : Shr w0 w' bt bm b1 a1 b2 a2 b0 l n1 n' := by
  obtain ⟨⟨f1, f2, f3, f4, f5, f6, f7⟩, ⟨p1, p2, p3, p4, p5⟩, ⟨q1, q2, q3, q4, q5⟩, ⟨r1, r2, r3⟩, ⟨s1, s2, s3⟩⟩ := D
  exact ⟨h.o.ext x (by simp; omega) (by simp; omega) (fun y hy => by have := hb y hy; simp; omega), h.f1.ext x (by simp; omega) (by simp; omega), f, h.x.trans' x (by intro i hi; simp at hi; omega)⟩
theorem Shr.obj (D : ShrB w0.heap.size bt bm b1 a1 b2 a2 b0) (h : Shr w0 w bt bm b1 a1 b2 a2 b0 l n1 n2) (o : S.ObjAt w' bt bm 2 1 l') (x : Ext [bm, b0] w w') : Shr w0 w' bt bm b1 a1 b2 a2 b0 l' n1 n2 := by
  obtain ⟨⟨f1, f2, f3, f4, f5, f6, f7⟩, ⟨p1, p2, p3, p4, p5⟩, ⟨q1, q2, q3, q4, q5⟩, ⟨r1, r2, r3⟩, ⟨s1, s2, s3⟩⟩ := D
  exact ⟨o, h.f1.ext x (by simp; omega) (by simp; omega), h.f2.ext x (by simp; omega) (by simp; omega), h.x.trans' x (by intro i hi; simp at hi; omega)⟩
end

/-! ### opens -/
set_option maxHeartbeats 1000000 in
theorem opens_top (w : World) : Calls Tryd.prog 19 #[] w fun e w' => e = .returned (.bool true) ∧ Ext [] w w' := by
  go_enter Tryd.func19, Tryd.ntmps19
  go_wp2_with fail
  refine (fd_new 2 w (by omega) (by omega)).mono ?_; rintro e w1 ⟨rfl, H1, x1, -⟩
  have H1 : FdAt w1 (w.heap.size + 1) w.heap.size [0, 0] := H1
  go_wp2_with fail
  refine (fd_open _ _ 0 _ 5 _ H1 (by omega) (by omega) (by decide) rfl (by omega)).mono ?_; rintro e w2 ⟨rfl, H2, x2, -⟩
  have H2 : FdAt w2 (w.heap.size + 1) w.heap.size [5, 0] := H2
  go_wp2_with fail
  refine (fd_get _ _ 0 _ _ H2 (by decide) (by decide)).mono ?_; rintro e w3 ⟨rfl, rfl⟩
  go_wp2
  go_ret
  exact ⟨rfl, x1.trans' x2 (by simp)⟩

end Go.Proofs.YtbjkfgfiifnjoaaDoor
