/- Package space: Make. -/
import Derived.Test.YtbjkfgfiifnjoaaDoorSpPT
namespace Go.Proofs.YtbjkfgfiifnjoaaDoor
open Go.RowKit
set_option maxRecDepth 100000

/-- What Make tells, and the tree behind it. -/
def Tree.make (T : Tree) (u : Int) : Int × Int × Tree :=
  if u < 0 ∨ (T.len : Int) ≤ u then (0, 2, T)
  else if T.depth u.toNat = 4 then (0, 7, T)
  else if T.len = 8 then (0, 28, T)
  else (T.len, 0, T.push u.toNat)

def MakePost (w : World) (bt bl : Nat) (r : Int × Int × Tree) (e : Ending) (w' : World) : Prop :=
  ∃ bl' cap', e = .returned (.tuple #[.int .i64 r.1, .int .i64 r.2.1]) ∧ TreeAt w' bt bl' cap' r.2.2 ∧ Ext [bt, bl] w w' ∧ (bl' = bl ∨ w.heap.size ≤ bl')

theorem push_close {w1 w2 : World} {bt bl cap n g cap' : Nat} {T : Tree} (H : TreeAt w1 bt bl cap T) (hn : n < T.len) (hd : T.depth n < 4) (hl : T.len < 8) (x2 : Ext [bl] w1 w2)
    (hown : w2.ownsRow 0 155 2 (.slice (some ⟨g, 0, none⟩) (T.len + 1) cap') (T.len + 1) (nodesTo T T.len ++ [.int .i64 (n : Int), .int .i64 (IntKind.i64.wrap (T.depth n + 1))]))
    (hg : g = bl ∨ w1.heap.size ≤ g) :
    TreeAt (w2.setCell ⟨bt, 0, none⟩ (.slice (some ⟨g, 0, none⟩) (T.len + 1) cap')) bt g cap' (T.push n) := by
  have hne := H.ne
  have l1 := H.lt1
  have hgt : bt ≠ g := by rcases hg with rfl | h <;> omega
  refine ⟨?_, ?_, hgt, H.ok.push hn hd hl⟩
  · exact (H.t.ext x2 (by simp [hne])).set 0 _
  · show World.ownsRow _ 0 155 2 (.slice (some ⟨g, 0, none⟩) (T.len + 1) cap') (T.len + 1) (nodesTo (T.push n) (T.len + 1))
    rw [nodesTo_push T n (H.ok.len_pos n hn)]
    have e : IntKind.i64.wrap ((T.depth n : Int) + 1) = ((T.depth n + 1 : Nat) : Int) := by rw [IntWalk.i64_in _ (by omega)]; omega
    rw [e] at hown
    exact owns_ext hown ((Ext.refl [bt] w2).setCell (.inl (by simp)) _) (by intro k hk; simp [Value.ownBlock] at hk; subst hk; simp; omega)

set_option maxHeartbeats 1000000 in
theorem make_push (bt bl cap n : Nat) (T : Tree) (w : World) (H : TreeAt w bt bl cap T) (hn : n < T.len) (hd : T.depth n < 4) (hl : T.len < 8) :
    Calls Tryd.prog 33 #[.pointer (some ⟨bt, 0, none⟩), .int .i64 n] w (MakePost w bt bl (T.len, 0, T.push n)) := by
  obtain ⟨i0, hi, hz0, hz1, hz2⟩ := info_parts info_node
  have HF := Lib.hid (find_ok bt bl cap n T w H hn)
  have l1 := H.lt1
  have l2 := H.lt2
  have hne := H.ne
  have hpush := nodesTo_push T n (H.ok.len_pos n hn)
  have HP := Lib.hid hpush
  have HO := Lib.hid (H.ok.push hn hd hl)
  clear hpush
  go_enter Tryd.func33, Tryd.ntmps33
  go_wp2_with fail
  refine HF.out.mono ?_
  rintro e w1 ⟨rfl, x1⟩
  have H2 := (H.ext x1 (by simp) (by simp))
  have ht := H2.t.cell 0
  have hf := H2.t.frozen 0
  have hsz := x1.size
  have hA := H2.a
  have l3 := H2.lt1
  have l4 := H2.lt2
  simp only [List.getElem?_cons_zero] at ht
  have hde : (((T.depth n : Nat) : Int) == 4) = false := by rw [beq_eq_false_iff_ne]; omega
  have hle : (((T.len : Nat) : Int) == 8) = false := by rw [beq_eq_false_iff_ne]; omega
  have HT := Lib.hid H2.t
  have HH := Lib.hid H2
  clear H2 HF
  generalize hTd : T.depth n = d at *
  have HTD := Lib.hid hTd
  clear hTd
  generalize hTl : T.len = len at *
  have HTL := Lib.hid hTl
  clear hTl
  go_wp2_with fail
  go_region_law (refine step_app _ rfl (.tmp 33) (.tmp 39) 151 rfl 155 i0 (.agg #[.int .i64 0, .int .i64 0]) 2 16 Tryd.underlying151 hi hz0 hz1 hz2 rfl (by decide) (.slice (some ⟨bl, 0, none⟩) len cap) _ _ rfl (owns_ext hA (((Ext.refl [] w1).alloc _).alloc _).drew (by simp)) (.slice (some ⟨w1.heap.size + 1, 0, none⟩) 1 1) 1 [.int .i64 (n : Int), .int .i64 (IntKind.i64.wrap (d + 1))] rfl (blk_reads (Blk.new' (w1.alloc _) 155 #[.int .i64 (n : Int), .int .i64 (IntKind.i64.wrap (d + 1))] (w1.heap.size + 1) (by simp)).drew 1 rfl) (by intro u hu; simp at hu; rcases hu with rfl | rfl <;> rfl) (by unfold maxLen; omega) (by omega) ?_; intro v' w2 hown' hgrow hfr' _; have x2 : Ext [bl] w1 w2 := ((((Ext.refl [bl] w1).alloc _).alloc _).drew).grown hgrow (by intro k hk; simp [Value.ownBlock] at hk; simp [hk]); have ht2 := (HT.out.ext x2 (by simp [hne])).cell 0; have hf2 := (HT.out.ext x2 (by simp [hne])).frozen 0; simp only [List.getElem?_cons_zero] at ht2; obtain ⟨g, cap', cur, rfl, hblk, -⟩ := owns_some hown' (by omega))
  all_goals
    rename World => w2
    go_wp2_with fail
    go_ret2
    have e1 := HTL.out
    have e2 := HTD.out
    subst e1 e2
    have hg : g = bl ∨ w1.heap.size ≤ g := by
      rcases hfr' with h | ⟨g', h, h2⟩
      · simp [Value.ownBlock] at h; exact .inl h
      · simp [Value.ownBlock] at h h2; subst h; exact .inr (by omega)
    refine ⟨g, cap', rfl, push_close HH.out hn hd hl x2 hown' hg, ?_, by omega⟩
    exact ((x1.sub (by simp)).trans' x2 (by simp)).setCell (.inl (by simp)) _

theorem make_no (bt bl cap : Nat) (n : Int) (T : Tree) (w : World) (H : TreeAt w bt bl cap T) (hn : n < 0 ∨ (T.len : Int) ≤ n) :
    Calls Tryd.prog 33 #[.pointer (some ⟨bt, 0, none⟩), .int .i64 n] w fun e w' => e = .returned (.tuple #[.int .i64 0, .int .i64 2]) ∧ Ext [] w w' := by
  have HF := Lib.hid (find_no bt bl cap n T w H hn)
  clear hn
  go_enter Tryd.func33, Tryd.ntmps33
  go_wp2_with fail
  refine HF.out.mono ?_
  rintro e w1 ⟨rfl, x1⟩
  go_wp2_with fail
  go_ret2
  exact ⟨rfl, x1.alloc _⟩

theorem make_nil (n : Int) (w : World) :
    Calls Tryd.prog 33 #[.pointer none, .int .i64 n] w fun e w' => e = .returned (.tuple #[.int .i64 0, .int .i64 22]) ∧ Ext [] w w' := by
  have HF := Lib.hid (find_nil n w)
  go_enter Tryd.func33, Tryd.ntmps33
  go_wp2_with fail
  refine HF.out.mono ?_
  rintro e w1 ⟨rfl, x1⟩
  go_wp2_with fail
  go_ret2
  exact ⟨rfl, x1.alloc _⟩

theorem make_deep (bt bl cap n : Nat) (T : Tree) (w : World) (H : TreeAt w bt bl cap T) (hn : n < T.len) (hd : T.depth n = 4) :
    Calls Tryd.prog 33 #[.pointer (some ⟨bt, 0, none⟩), .int .i64 n] w fun e w' => e = .returned (.tuple #[.int .i64 0, .int .i64 7]) ∧ Ext [] w w' := by
  have hf := find_ok bt bl cap n T w H hn
  rw [hd] at hf
  have HF := Lib.hid hf
  clear hf hd
  go_enter Tryd.func33, Tryd.ntmps33
  go_wp2_with fail
  refine HF.out.mono ?_
  rintro e w1 ⟨rfl, x1⟩
  go_wp2_with fail
  go_ret2
  exact ⟨rfl, x1.alloc _⟩

theorem make_full (bt bl cap n : Nat) (T : Tree) (w : World) (H : TreeAt w bt bl cap T) (hn : n < T.len) (hd : T.depth n ≠ 4) (hl : T.len = 8) :
    Calls Tryd.prog 33 #[.pointer (some ⟨bt, 0, none⟩), .int .i64 n] w fun e w' => e = .returned (.tuple #[.int .i64 0, .int .i64 28]) ∧ Ext [] w w' := by
  have HF := Lib.hid (find_ok bt bl cap n T w H hn)
  have l1 := H.lt1
  have HB := Lib.hid H.t
  have hde : (((T.depth n : Nat) : Int) == 4) = false := by rw [beq_eq_false_iff_ne]; omega
  rw [hl] at HB
  clear hd hl
  generalize T.depth n = d at *
  go_enter Tryd.func33, Tryd.ntmps33
  go_wp2_with fail
  refine HF.out.mono ?_
  rintro e w1 ⟨rfl, x1⟩
  have ht := (HB.out.ext x1 (by simp)).cell 0
  have l3 := (HB.out.ext x1 (by simp)).lt
  simp only [List.getElem?_cons_zero] at ht
  go_wp2_with fail
  go_ret2
  exact ⟨rfl, x1.alloc _⟩

theorem make_any (bt bl cap : Nat) (u : Int) (T : Tree) (w : World) (H : TreeAt w bt bl cap T) :
    Calls Tryd.prog 33 #[.pointer (some ⟨bt, 0, none⟩), .int .i64 u] w (MakePost w bt bl (T.make u)) := by
  have keep : ∀ {r : Int} {e : Ending} {w' : World}, e = .returned (.tuple #[.int .i64 0, .int .i64 r]) ∧ Ext [] w w' → MakePost w bt bl (0, r, T) e w' := by
    rintro r e w' ⟨he, x⟩
    exact ⟨bl, cap, he, H.ext x (by simp) (by simp), x.sub (by simp), .inl rfl⟩
  unfold Tree.make
  by_cases h1 : u < 0 ∨ (T.len : Int) ≤ u
  · rw [if_pos h1]
    exact (make_no bt bl cap u T w H h1).mono fun e w' h => keep h
  · rw [if_neg h1]
    obtain ⟨n, rfl⟩ := Int.eq_ofNat_of_zero_le (show 0 ≤ u by omega)
    have hn : n < T.len := by omega
    rw [Int.toNat_natCast]
    by_cases h2 : T.depth n = 4
    · rw [if_pos h2]
      exact (make_deep bt bl cap n T w H hn h2).mono fun e w' h => keep h
    · rw [if_neg h2]
      have := H.ok.depth_le n hn
      have := H.ok.le
      by_cases h3 : T.len = 8
      · rw [if_pos h3]
        exact (make_full bt bl cap n T w H hn h2 h3).mono fun e w' h => keep h
      · rw [if_neg h3]
        exact make_push bt bl cap n T w H hn (by omega) (by omega)

theorem Tree.OK.make {T : Tree} (h : T.OK) (u : Int) : (T.make u).2.2.OK := by
  unfold Tree.make
  by_cases h1 : u < 0 ∨ (T.len : Int) ≤ u
  · rw [if_pos h1]; exact h
  · rw [if_neg h1]
    by_cases h2 : T.depth u.toNat = 4
    · rw [if_pos h2]; exact h
    · rw [if_neg h2]
      by_cases h3 : T.len = 8
      · rw [if_pos h3]; exact h
      · rw [if_neg h3]
        have := h.depth_le u.toNat (by omega)
        have := h.le
        exact h.push (by omega) (by omega) (by omega)

end Go.Proofs.YtbjkfgfiifnjoaaDoor
