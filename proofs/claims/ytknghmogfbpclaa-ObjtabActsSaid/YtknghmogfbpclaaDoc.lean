/- The reference of layer 7: its table in memory; Find. -/
import Derived.Test.YtknghmogfbpclaaHeld
import Derived.Test.YtknghmogfbpclaaSlc
import Derived.Test.YtknghmogfbpclaaObjI
namespace Go.Proofs.Ytknghmogfbpclaa
open Go.RowKit
set_option maxRecDepth 100000

def docC (e : Ent) : List Value := [.int .i64 (e.id : Int), e.x, .int .i64 (e.h : Int)]
def docV (l : List Ent) : List Value := (l.map docC).flatten
theorem docV_cons (x : Ent) (l : List Ent) : docV (x :: l) = docC x ++ docV l := by simp [docV]
theorem docV_append (a b : List Ent) : docV (a ++ b) = docV a ++ docV b := by simp [docV]
theorem docV_one (x : Ent) : docV [x] = docC x := by simp [docV]
theorem docV_len : ∀ l : List Ent, (docV l).length = l.length * 3
  | [] => rfl
  | x :: l => by rw [docV_cons, List.length_append, docV_len l, List.length_cons]; simp [docC]; omega
theorem docV_at : ∀ (l : List Ent) (i j : Nat) (hi : i < l.length), j < 3 → (docV l)[i * 3 + j]? = (docC l[i])[j]?
  | [], i, _, hi, _ => by simp at hi
  | x :: l, 0, j, _, hj => by
    rw [docV_cons, List.getElem?_append_left (by simp [docC]; omega)]; simp
  | x :: l, i + 1, j, hi, hj => by
    rw [docV_cons, List.getElem?_append_right (by simp [docC]; omega), show (i + 1) * 3 + j - (docC x).length = i * 3 + j by simp [docC]; omega, docV_at l i j (by simpa using hi) hj]; simp
theorem docV_one' (l : List Ent) (h : ∀ x ∈ l, x.x.oneCell' = true) : ∀ u ∈ docV l, u.oneCell' = true := by
  intro u hu
  unfold docV at hu
  obtain ⟨c, hc, hu⟩ := List.mem_flatten.1 hu
  obtain ⟨x, hx, rfl⟩ := List.mem_map.1 hc
  simp [docC] at hu
  rcases hu with rfl | rfl | rfl
  · rfl
  · exact h x hx
  · rfl
theorem docV_take : ∀ (l : List Ent) (k : Nat), (docV l).take (k * 3) = docV (l.take k)
  | [], k => by simp [docV]
  | x :: l, 0 => by simp [docV]
  | x :: l, k + 1 => by
    rw [List.take_succ_cons, docV_cons, docV_cons, ← docV_take l k, List.take_append, List.take_of_length_le (by simp [docC]; omega)]
    congr 2
    simp [docC]; omega
theorem docV_drop : ∀ (l : List Ent) (k : Nat), (docV l).drop (k * 3) = docV (l.drop k)
  | [], k => by simp [docV]
  | x :: l, 0 => by simp
  | x :: l, k + 1 => by
    rw [List.drop_succ_cons, docV_cons, ← docV_drop l k, List.drop_append, List.drop_of_length_le (by simp [docC]; omega), List.nil_append]
    congr 1
    simp [docC]; omega
theorem docV_erase (l : List Ent) (k : Nat) : (docV l).take (k * 3) ++ (docV l).drop ((k + 1) * 3) = docV (l.eraseIdx k) := by
  rw [docV_take, docV_drop, ← docV_append, ← List.eraseIdx_eq_take_drop_succ]
theorem docV_set : ∀ (l : List Ent) (k : Nat) (hk : k < l.length) (h' : Nat), (docV l).set (k * 3 + 2) (.int .i64 (h' : Int)) = docV (l.set k { l[k] with h := h' })
  | [], k, hk, _ => by simp at hk
  | x :: l, 0, _, h' => by
    rw [docV_cons, List.set_append_left _ _ (by simp [docC])]
    simp [docV_cons, docC]
  | x :: l, k + 1, hk, h' => by
    rw [docV_cons, List.set_append_right _ _ (by simp [docC]; omega), show (k + 1) * 3 + 2 - (docC x).length = k * 3 + 2 by simp [docC]; omega, docV_set l k (by simpa using hk) h']
    simp [docV_cons]

/-- The document's table. -/
structure DocAt (w : World) (bd : Nat) (v : Value) (size next : Nat) (l : List Ent) : Prop where
  h : Blk w bd 51 [.int .i64 (size : Int), .int .i64 (next : Int), v]
  own : w.ownsRow 0 55 3 v l.length (docV l)
  ne : ∀ g, v.ownBlock = some g → g ≠ bd
theorem DocAt.ext {S : List Nat} {w w' : World} {bd : Nat} {v : Value} {size next : Nat} {l : List Ent} (h : DocAt w bd v size next l) (x : Ext S w w') (h1 : bd ∉ S) (h2 : ∀ g, v.ownBlock = some g → g ∉ S) : DocAt w' bd v size next l :=
  ⟨h.h.ext x h1, owns_ext h.own x h2, h.ne⟩
theorem DocAt.ext0 {w w' : World} {bd : Nat} {v : Value} {size next : Nat} {l : List Ent} (h : DocAt w bd v size next l) (x : Ext [] w w') : DocAt w' bd v size next l := h.ext x (by simp) (by simp)

/-- Where an object's cells lie. -/
theorem DocAt.at {w : World} {bd : Nat} {v : Value} {size next : Nat} {l : List Ent} (h : DocAt w bd v size next l) (k : Nat) (hk : k < l.length) :
    ∃ g c, v = .slice (some ⟨g, 0, none⟩) l.length c ∧ l.length ≤ c ∧ c ≤ maxLen ∧ g < w.heap.size ∧ g ≠ bd ∧ w.cell? ⟨g, k * 3, none⟩ = some (.int .i64 (l[k].id : Int)) ∧ w.cell? ⟨g, k * 3 + 1, none⟩ = some l[k].x ∧ w.cell? ⟨g, k * 3 + 2, none⟩ = some (.int .i64 (l[k].h : Int)) ∧ w.frozen? ⟨g, k * 3 + 2, none⟩ = false := by
  obtain ⟨g, c, cur, rfl, hb, hn, hm, hl, ht⟩ := owns_some h.own (by omega)
  have hc : ∀ j, j < 3 → w.cell? ⟨g, k * 3 + j, none⟩ = (docC l[k])[j]? := by
    intro j hj
    rw [hb.cell, ← docV_at l k j hk hj, ← ht, List.getElem?_take, if_pos (by omega)]
  exact ⟨g, c, rfl, hn, hm, hb.lt, h.ne g rfl, hc 0 (by omega), hc 1 (by omega), hc 2 (by omega), hb.frozen _⟩

theorem info_one : (Try.prog.info? 55).map (fun i => (i.zero, i.size, i.bytes)) = some (some (.agg #[.int .i64 0, .int .i64 0, .int .i64 0]), 3, 24) := by kernel_rfl

set_option maxHeartbeats 4000000 in
/-- Find: the place of the one that has this number; -1. -/
theorem doc_find (bd : Nat) (v : Value) (size next : Nat) (l : List Ent) (id : Int) (R : Int) (w : World) (H : DocAt w bd v size next l) (hl : l.length ≤ 64)
    (h1 : ∀ (k : Nat) (hk : k < l.length), (l[k].id : Int) = id → (∀ j (hj : j < l.length), j < k → (l[j].id : Int) ≠ id) → R = (k : Int)) (h2 : (∀ j (hj : j < l.length), (l[j].id : Int) ≠ id) → R = -1) :
    Calls Try.prog 24 #[.pointer (some ⟨bd, 0, none⟩), .int .i64 id] w fun e w' => e = .returned (.int .i64 R) ∧ w = w' := by
  have HAT := Lib.hid (fun k hk => H.at k hk)
  have c2 := H.h.cell 2
  have hlt := H.h.lt
  simp only [List.getElem?_cons_zero, List.getElem?_cons_succ] at c2
  have H1 := Lib.hid h1
  have H2 := Lib.hid h2
  obtain ⟨va, vc, rfl⟩ := owns_slice H.own
  clear H h1 h2
  go_enter Try.func24, Try.ntmps24
  go_wp2_with fail
  go_loop [5] (fun i => ∃ k : Nat, k ≤ l.length ∧ i = .int .i64 (k : Int) ∧ Hid (∀ j (hj : j < l.length), j < k → (l[j].id : Int) ≠ id)) (fun i => l.length - (intOf i).toNat)
  case atStart => exact ⟨0, Nat.zero_le _, rfl, Lib.hid (fun j _ h => by omega)⟩
  case round =>
    obtain ⟨k, hk, rfl, HNO⟩ := hrel
    by_cases hlt2 : k < l.length
    · obtain ⟨g, c, he, -, -, hg, hgb, a0, a1, a2, -⟩ := HAT.out k hlt2
      cases he
      by_cases hid : (l[k].id : Int) = id
      · have HR := Lib.hid (H1.out k hlt2 hid HNO.out)
        have hb : ((l[k].id : Int) == id) = true := by rw [beq_iff_eq]; exact hid
        generalize l[k] = x at *
        clear hid H1 H2
        go_wp2_with fail
        go_ret
        exact ⟨by rw [HR.out]; rfl, rfl⟩
      · have hb : ((l[k].id : Int) == id) = false := by rw [beq_eq_false_iff_ne]; exact hid
        have HNO2 := Lib.hid (show ∀ j (hj : j < l.length), j < k + 1 → (l[j].id : Int) ≠ id from fun j hj hjk => by
          by_cases h : j < k
          · exact HNO.out j hj h
          · obtain rfl : j = k := by omega
            exact hid)
        generalize l[k] = x at *
        clear hid
        go_wp2_with fail
        go_round
        case rel => exact ⟨k + 1, by omega, by go_num, HNO2⟩
        case measure => simp [intOf]; omega
    · have HR := Lib.hid (H2.out (fun j hj => HNO.out j hj (by omega)))
      clear H1 H2
      go_wp2_with fail
      go_ret
      exact ⟨by rw [HR.out]; rfl, rfl⟩
theorem doc_find_at (bd : Nat) (v : Value) (size next : Nat) (l : List Ent) (w : World) (H : DocAt w bd v size next l) (hl : l.length ≤ 64) (hids : l.Pairwise fun a b => a.id < b.id) (k : Nat) (hk : k < l.length) :
    Calls Try.prog 24 #[.pointer (some ⟨bd, 0, none⟩), .int .i64 (l[k].id : Int)] w fun e w' => e = .returned (.int .i64 (k : Int)) ∧ w = w' := by
  refine doc_find bd v size next l _ (k : Int) w H hl (fun j hj e _ => ?_) (fun h => absurd rfl (h k hk))
  rcases Nat.lt_trichotomy j k with h | h | h
  · have := List.pairwise_iff_getElem.1 hids j k hj hk h
    omega
  · rw [h]
  · have := List.pairwise_iff_getElem.1 hids k j hk hj h
    omega
theorem doc_find_no (bd : Nat) (v : Value) (size next : Nat) (l : List Ent) (id : Int) (w : World) (H : DocAt w bd v size next l) (hl : l.length ≤ 64) (hno : ∀ x ∈ l, (x.id : Int) ≠ id) :
    Calls Try.prog 24 #[.pointer (some ⟨bd, 0, none⟩), .int .i64 id] w fun e w' => e = .returned (.int .i64 (-1)) ∧ w = w' :=
  doc_find bd v size next l id (-1) w H hl (fun _ hj e _ => absurd e (hno _ (List.getElem_mem hj))) (fun _ => rfl)
end Go.Proofs.Ytknghmogfbpclaa
