/- Package canon: Back; the reference's Slots. -/
import Derived.Test.YtkpckjkjlhaglaaFew
namespace Go.Proofs.Ytkpckjkjlhaglaa
open Go.RowKit

/-- A slot that isn't one? -/
def okB (fds : List (BitVec 32)) (x : Ins) : Bool := !isMapI x || (decide (0 ≤ x.imm.toInt) && decide (x.imm.toInt < (fds.length : Int)))
def stepB (fds : List (BitVec 32)) (x : Ins) : Ins := if isMapI x then { x with imm := fds.getD x.imm.toInt.toNat 0 } else x

/-- What Back answers. -/
def BackPost (w : World) (l : List Ins) (fds : List (BitVec 32)) (e : Ending) (w' : World) : Prop :=
  if l.all (okB fds) then
    ∃ v5, e = .returned (.tuple #[v5, .int .i64 0]) ∧ w'.ownsRow 0 27 5 v5 l.length (insV (l.map (stepB fds))) ∧ Ext [] w w' ∧ (∀ g, v5.ownBlock = some g → w.heap.size ≤ g)
  else e = .returned (.tuple #[.slice none 0 0, .int .i64 22]) ∧ Ext [] w w'

/-- The row behind k rounds. -/
def midM (f : Ins → Ins) (l : List Ins) (k : Nat) : List Ins := (l.take k).map f ++ l.drop k
theorem midM_length (f : Ins → Ins) (l : List Ins) (k : Nat) (hk : k ≤ l.length) : (midM f l k).length = l.length := by
  unfold midM; rw [List.length_append, List.length_map, List.length_take, List.length_drop]; omega
theorem midM_at (f : Ins → Ins) (l : List Ins) (k : Nat) (hk : k < l.length) : (midM f l k)[k]'(by rw [midM_length f l k (by omega)]; exact hk) = l[k] := by
  unfold midM
  rw [List.getElem_append_right (by rw [List.length_map, List.length_take]; omega)]
  simp [Nat.min_eq_left (Nat.le_of_lt hk)]
theorem midM_succ (f : Ins → Ins) (l : List Ins) (k : Nat) (hk : k < l.length) : midM f l (k + 1) = (midM f l k).set k (f l[k]) := by
  unfold midM
  rw [List.take_succ_eq_append_getElem hk, List.map_append, List.append_assoc, List.set_append_right _ _ (by rw [List.length_map, List.length_take]; omega)]
  congr 1
  rw [List.length_map, List.length_take, Nat.min_eq_left (Nat.le_of_lt hk), Nat.sub_self, List.drop_eq_getElem_cons hk]
  rfl

set_option maxHeartbeats 8000000 in
set_option maxRecDepth 100000 in
theorem back_any (v fv : Value) (l : List Ins) (fds : List (BitVec 32)) (w : World) (hr : Reads w v 5 l.length (insV l)) (hf : Reads w fv 1 fds.length (immV fds)) (hl : l.length ≤ 10000) :
    Calls Try.prog 11 #[v, fv] w (BackPost w l fds) := by
  have HP := Lib.hid (show ∀ e w', BackPost w l fds e w' = (if l.all (okB fds) then ∃ v5, e = .returned (.tuple #[v5, .int .i64 0]) ∧ w'.ownsRow 0 27 5 v5 l.length (insV (l.map (stepB fds))) ∧ Ext [] w w' ∧ (∀ g, v5.ownBlock = some g → w.heap.size ≤ g) else e = .returned (.tuple #[.slice none 0 0, .int .i64 22]) ∧ Ext [] w w') from fun _ _ => rfl)
  have HCL := Lib.hid (clone_any v l w hr (by omega))
  have HFR := Lib.hid (fun w' (x : Ext [] w w') => hf.ext x)
  obtain ⟨fa, fc, rfl, -, -, -⟩ := hf
  have HF := Lib.hid (fun w' (x : Ext [] w w') (k : Nat) (hk : k < fds.length) => (show ∃ ad, fa = some ad ∧ w'.cell? (ad.add k) = some (.int .i32 (fds.getD k 0).toInt) from by
    obtain ⟨ao', c', he, -, hn, hc⟩ := HFR.out w' x
    cases he
    cases fa with
    | none => have := (hn rfl).1; omega
    | some ad => exact ⟨ad, rfl, hc ad rfl k _ (by rw [immV_at fds k hk]; simp [List.getD, hk])⟩))
  clear hr HFR
  go_enter Try.func11, Try.ntmps11
  go_wp2_with fail
  refine HCL.out.mono ?_
  rintro e w1 ⟨v1, rfl, hown1, x1, fr1⟩
  obtain ⟨oa, oc, rfl⟩ := owns_slice hown1
  clear HCL
  go_wp2_with fail
  go_loopw [7, 8, 13] (fun _ _ i wr => ∃ k : Nat, k ≤ l.length ∧ i = .int .i64 (k : Int) ∧ Hid ((l.take k).all (okB fds) = true) ∧ wr.ownsRow 0 27 5 (.slice oa l.length oc) l.length (insV (midM (stepB fds) l k)) ∧ Ext [] w wr) (fun _ _ i _ => l.length - (intOf i).toNat)
  case atStart => exact ⟨0, by omega, rfl, Lib.hid (by simp), by simpa [midM] using hown1, x1⟩
  case round =>
    clear hown1 x1
    obtain ⟨k, hk, rfl, HO, ho, x⟩ := hrel
    by_cases hlt : k < l.length
    · obtain ⟨g, oc', cur, he, -, hoc, hocm, -, -⟩ := owns_some ho (by omega)
      cases he
      unfold maxLen at hocm
      have hcell : ∀ j, j < 5 → wr.cell? ⟨g, k * 5 + j, none⟩ = (l[k]).cells[j]? := by
        intro j hj
        rw [ho.cellAt (k * 5 + j) (by omega), insV_at _ k j (by rw [midM_length _ l k hk]; exact hlt) hj, midM_at _ l k hlt]
      have hst := Lib.hid (midM_succ (stepB fds) l k hlt)
      have hok := Lib.hid (show (l.take (k + 1)).all (okB fds) = ((l.take k).all (okB fds) && okB fds l[k]) by rw [List.take_succ_eq_append_getElem hlt, List.all_append]; simp)
      have hbad := Lib.hid (show okB fds l[k] = false → l.all (okB fds) = false by
        intro h
        rw [Bool.eq_false_iff] at h ⊢
        intro hh
        exact h (List.all_eq_true.1 hh _ (List.getElem_mem hlt)))
      have hmk := Lib.hid (midM_at (stepB fds) l k hlt)
      have hml := midM_length (stepB fds) l k hk
      generalize l[k] = y at *
      have c0 := hcell 0 (by omega)
      have c1 := hcell 1 (by omega)
      have c2 := hcell 2 (by omega)
      have c3 := hcell 3 (by omega)
      have c4 := hcell 4 (by omega)
      simp only [Ins.cells, List.getElem?_cons_zero, List.getElem?_cons_succ, Nat.add_zero] at c0 c1 c2 c3 c4
      clear hcell
      go_upto_region 5 with (fail)
      show Code.wp _ _ _ _ (wr.alloc (.cells y.cells.toArray 27))
      have BY := Blk.new wr 27 y.cells.toArray
      have xa : Ext [] wr (wr.alloc (.cells y.cells.toArray 27)) := (Ext.refl _ _).alloc _
      have ho1 := owns_ext ho xa (by simp)
      have xx := x.trans xa
      have hglt : g < wr.heap.size := owns_lt ho rfl
      obtain ⟨by', hby⟩ : ∃ b, b = wr.heap.size := ⟨_, rfl⟩
      rw [← hby] at BY hglt
      rw [← hby]
      clear ho x xa c0 c1 c2 c3 c4 hby
      generalize wr.alloc (.cells y.cells.toArray 27) = w2 at *
      have c0 := BY.cell 0
      have c1 := BY.cell 1
      have c2 := BY.cell 2
      have c3 := BY.cell 3
      have c4 := BY.cell 4
      simp only [Ins.cells, List.getElem?_cons_zero, List.getElem?_cons_succ] at c0 c1 c2 c3 c4
      go_wp2_with fail
      refine (ofmap_any y w2).mono ?_
      rintro e w3 ⟨rfl, x3⟩
      have BY3 := BY.ext x3 (by simp)
      have ho3 := owns_ext ho1 x3 (by simp)
      have xx3 := xx.trans x3
      clear BY ho1 xx x3 c0 c1 c2 c3 c4
      cases hm : isMapI y
      · have HI := Lib.hid (show stepB fds y = y by unfold stepB; rw [hm]; rfl)
        have HK := Lib.hid (show okB fds y = true by unfold okB; rw [hm]; rfl)
        clear hm
        go_wp2_with fail
        go_roundw
        case rel =>
          refine ⟨k + 1, by omega, by go_num, Lib.hid (by rw [hok.out, HO.out, HK.out]; rfl), ?_, xx3⟩
          rw [hst.out, HI.out, ← hmk.out, List.set_getElem_self]; exact ho3
        case measure => simp [intOf]; omega
      · have HI := Lib.hid (show stepB fds y = { y with imm := fds.getD y.imm.toInt.toNat 0 } by unfold stepB; rw [hm]; rfl)
        have HK := Lib.hid (show okB fds y = (decide (0 ≤ y.imm.toInt) && decide (y.imm.toInt < (fds.length : Int))) by unfold okB; rw [hm]; rfl)
        have c4 := BY3.cell 4
        simp only [Ins.cells, List.getElem?_cons_zero, List.getElem?_cons_succ] at c4
        clear hm
        have c4g : w3.cell? ⟨g, k * 5 + 4, none⟩ = some (.int .i32 y.imm.toInt) := by
          rw [ho3.cellAt (k * 5 + 4) (by omega), insV_at _ k 4 (by rw [hml]; exact hlt) (by omega), hmk.out]; rfl
        have f4g := ho3.frozenAt (k * 5 + 4)
        have hb1 : -2147483648 ≤ y.imm.toInt := by have := y.imm.le_toInt; simpa using this
        have hb2 : y.imm.toInt ≤ 2147483647 := by have := y.imm.toInt_lt; simp at this; omega
        by_cases hneg : y.imm.toInt < 0
        · have HN := Lib.hid (hbad.out (by rw [HK.out, decide_eq_false (by omega), Bool.false_and]))
          go_wp2_with fail
          go_ret2
          rw [HP.out, if_neg (by rw [HN.out]; simp)]
          exact ⟨rfl, xx3⟩
        · by_cases hge : (fds.length : Int) ≤ y.imm.toInt
          · have HN := Lib.hid (hbad.out (by rw [HK.out, decide_eq_false (p := y.imm.toInt < (fds.length : Int)) (by omega), Bool.and_false]))
            go_wp2_with fail
            go_ret2
            rw [HP.out, if_neg (by rw [HN.out]; simp)]
            exact ⟨rfl, xx3⟩
          · obtain ⟨q, hq⟩ : ∃ q : Nat, y.imm.toInt = (q : Int) := ⟨y.imm.toInt.toNat, by omega⟩
            obtain ⟨ad, rfl, hcf⟩ := HF.out w3 xx3 q (by omega)
            have HKT := Lib.hid (show okB fds y = true by rw [HK.out, decide_eq_true (p := 0 ≤ y.imm.toInt) (by omega), decide_eq_true (p := y.imm.toInt < (fds.length : Int)) (by omega)]; rfl)
            rw [hq] at HI c4 c4g hneg hge
            simp only [Int.toNat_natCast] at HI
            generalize fds.getD q 0 = z at *
            have hset := Lib.hid (show (insV (midM (stepB fds) l k)).set (k * 5 + 4) (.int .i32 z.toInt) = insV (midM (stepB fds) l (k + 1)) by
              rw [hst.out, HI.out]
              have h := insV_set (midM (stepB fds) l k) k (by rw [hml]; exact hlt) z
              rw [hmk.out] at h
              exact h)
            go_wp2_with fail
            go_roundw
            case rel =>
              have ho4 := (ho3.stored (k * 5 + 4) (.int .i32 z.toInt)).1
              rw [hset.out] at ho4
              exact ⟨k + 1, by omega, by go_num, Lib.hid (by rw [hok.out, HO.out, HKT.out]; rfl), ho4, xx3.setCell (.inr (fr1 g rfl)) _⟩
            case measure => simp [intOf]; omega
    · have hk' : k = l.length := by omega
      have e1 : midM (stepB fds) l k = l.map (stepB fds) := by rw [hk']; simp [midM]
      have e2 : l.take k = l := by rw [hk', List.take_length]
      rw [e1] at ho
      rw [e2] at HO
      go_wp2_with fail
      go_ret2
      rw [HP.out, if_pos HO.out]
      exact ⟨_, rfl, ho, x, fr1⟩
end Go.Proofs.Ytkpckjkjlhaglaa
