/- Package fdtab: Used and Free. -/
import Derived.Test.YtbjkfgfiifnjoaaDoorFd
namespace Go.Proofs.YtbjkfgfiifnjoaaDoor
open Go.RowKit
set_option maxRecDepth 100000

/-- The places from k on of what isn't nought. -/
def usedFrom : List Int → Nat → List Nat
  | [], _ => []
  | y :: r, k => if y = 0 then usedFrom r (k + 1) else k :: usedFrom r (k + 1)

theorem usedFrom_append (l m : List Int) : ∀ k, usedFrom (l ++ m) k = usedFrom l k ++ usedFrom m (k + l.length) := by
  induction l with
  | nil => intro k; simp [usedFrom]
  | cons y r ih =>
    intro k
    simp only [List.cons_append, usedFrom, ih, List.length_cons]
    rw [show k + 1 + r.length = k + (r.length + 1) by omega]
    split <;> simp

theorem usedFrom_le (l : List Int) : ∀ k, (usedFrom l k).length ≤ l.length := by
  induction l with
  | nil => intro k; simp [usedFrom]
  | cons y r ih =>
    intro k
    have := ih (k + 1)
    simp only [usedFrom]
    split <;> simp <;> omega

theorem usedFrom_take (zs : List Int) (k : Nat) (hk : k < zs.length) : usedFrom (zs.take (k + 1)) 0 = usedFrom (zs.take k) 0 ++ (if zs.getD k 0 = 0 then [] else [k]) := by
  rw [List.take_succ_eq_append_getElem hk, usedFrom_append]
  simp only [usedFrom, Nat.zero_add, List.length_take, Nat.min_eq_left (Nat.le_of_lt hk)]
  simp [hk]

def ints (l : List Nat) : List Value := l.map fun n : Nat => Value.int .i64 (n : Int)

def UsedPost (w : World) (zs : List Int) (e : Ending) (w' : World) : Prop :=
  ∃ a c, e = .returned (.slice a (usedFrom zs 0).length c) ∧ w'.ownsRow 0 3 1 (.slice a (usedFrom zs 0).length c) (usedFrom zs 0).length (ints (usedFrom zs 0)) ∧ Ext [] w w' ∧ ∀ g, (Value.slice a (usedFrom zs 0).length c).ownBlock = some g → w.heap.size ≤ g

set_option maxHeartbeats 400000 in
theorem fd_used (bt ba : Nat) (zs : List Int) (w : World) (H : FdAt w bt ba zs) :
    Calls Tryd.prog 26 #[.pointer (some ⟨bt, 0, none⟩)] w (UsedPost w zs) := by
  obtain ⟨i0, hi, hz0, hz1, hz2⟩ := info_parts info_int
  have hs := H.small
  have ht := H.t.cell 0
  simp only [List.getElem?_cons_zero] at ht
  go_enter Tryd.func26, Tryd.ntmps26
  go_wp2
  go_loopw [3, 13] (fun v i wr => ∃ k : Nat, k ≤ zs.length ∧ i = .int .i64 k ∧ wr.ownsRow 0 3 1 v (usedFrom (zs.take k) 0).length (ints (usedFrom (zs.take k) 0)) ∧ Ext [] w wr ∧ ∀ g, v.ownBlock = some g → w.heap.size ≤ g) (fun _ i _ => zs.length - (intOf i).toNat)
  case atStart => exact ⟨0, Nat.zero_le _, rfl, by simpa [usedFrom, ints] using World.ownsRow_nil _ _ _ _, Ext.refl _ _, fun g h => by cases h⟩
  case round =>
    obtain ⟨k, hk, rfl, hown, hext, hfr⟩ := hrel
    by_cases hlt : k < zs.length
    · have hcell : wr.cell? ⟨ba, k, none⟩ = some (.int .i64 (zs.getD k 0)) := by rw [(H.a.ext hext (by simp)).cell]; simp [hlt]
      have hstep := usedFrom_take zs k hlt
      have hle := usedFrom_le (zs.take k) 0
      simp only [List.length_take, Nat.min_eq_left (Nat.le_of_lt hlt)] at hle
      have HS := Lib.hid hstep
      clear hstep
      generalize usedFrom (zs.take k) 0 = us at *
      by_cases h0 : zs.getD k 0 = 0
      · have hb : (zs.getD k 0 != 0) = false := by simpa using h0
        have HB := Lib.hid h0
        clear h0
        generalize zs.getD k 0 = z at *
        clear ht
        go_wp2
        go_roundw
        case rel => exact ⟨k + 1, by omega, by go_num, by rw [HS.out, if_pos HB.out]; simpa using hown, hext, hfr⟩
        case measure => simp [intOf]; omega
      · have hb : (zs.getD k 0 != 0) = true := by simpa using h0
        have HB := Lib.hid h0
        clear h0
        generalize zs.getD k 0 = z at *
        have hown2 := owns_ext hown ((Ext.refl [] wr).alloc (.cells #[.int .i64 (k : Int)] 3)) (by simp)
        clear ht
        go_wp2_with (at_builtin; refine wpList_app _ rfl _ _ 48 rfl 3 i0 (.int .i64 0) 1 8 Tryd.underlying48 hi hz0 hz1 hz2 rfl (by decide) _ _ _ rfl hown2 _ 1 [.int .i64 (k : Int)] rfl (blk_reads (Blk.new wr 3 #[.int .i64 (k : Int)]) 1 rfl) (by intro u hu; simp at hu; subst hu; rfl) (by unfold maxLen; omega) (by omega) ?_; intro v' w1 hown' hgrow hfr' _)
        go_roundw
        case rel =>
          refine ⟨k + 1, by omega, by go_num, ?_, ?_, ?_⟩
          · rw [HS.out, if_neg HB.out]; simpa [ints] using hown'
          · exact (hext.alloc _).grown hgrow fun g hg => .inr (hfr g hg)
          · intro g hg
            rcases hfr' with h | ⟨g', h, hle'⟩
            · exact hfr g (h ▸ hg)
            · rw [h] at hg; obtain rfl := Option.some.inj hg
              have := hext.size
              simp at hle'; omega
        case measure => simp [intOf]; omega
    · go_wp2
      go_ret
      obtain rfl : k = zs.length := by omega
      rw [List.take_length] at hown
      obtain ⟨a, c, rfl⟩ := owns_slice hown
      exact ⟨a, c, rfl, hown, hext, hfr⟩

theorem fd_free (bt ba : Nat) (zs : List Int) (w : World) (H : FdAt w bt ba zs) :
    Calls Tryd.prog 31 #[.pointer (some ⟨bt, 0, none⟩)] w fun e w' => e = .returned (.int .i64 (zs.length - (usedFrom zs 0).length : Nat)) ∧ Ext [] w w' := by
  have hs := H.small
  have ht := H.t.cell 0
  simp only [List.getElem?_cons_zero] at ht
  have hle := usedFrom_le zs 0
  have HC := Lib.hid (fun nd => fd_used bt ba zs (w.drewN nd) ⟨H.t, H.a, H.ne, H.small⟩)
  go_enter Tryd.func31, Tryd.ntmps31
  go_wp2
  go_region_with (go_at_call 26; go_loud (refine (fd_used bt ba zs _ H.drew).mono ?_; rintro e w1 ⟨a, c, rfl, hown, hext, hfr⟩; have ht1 := (H.drew.ext hext (by simp) (by simp)).t.cell 0; simp only [List.getElem?_cons_zero] at ht1))
  all_goals
    go_wp2
    go_ret
    exact ⟨ret_int (by rw [IntWalk.i64_in _ (by omega)]; omega), (Ext.refl _ _).drew.trans (by assumption)⟩

end Go.Proofs.YtbjkfgfiifnjoaaDoor
