/- Package canon: Slots. -/
import Derived.Test.YtbjkfgfiifnjoaaDoorCanonA
namespace Go.Proofs.YtbjkfgfiifnjoaaDoor
open Go.RowKit
set_option maxRecDepth 100000

def stepF (fds : List (BitVec 32)) (x : Ins) : List (BitVec 32) := if isMapI x then (if x.imm ∈ fds then fds else fds ++ [x.imm]) else fds
def stepI (fds : List (BitVec 32)) (x : Ins) : Ins := if isMapI x then { x with imm := BitVec.ofNat 32 (fds.idxOf x.imm) } else x
def fdsOf (l : List Ins) : List (BitVec 32) := l.foldl stepF []
def outFrom : List (BitVec 32) → List Ins → List Ins
  | _, [] => []
  | fds, x :: r => stepI fds x :: outFrom (stepF fds x) r
def outOf (l : List Ins) : List Ins := outFrom [] l

theorem outFrom_snoc (x : Ins) : ∀ (l : List Ins) (f : List (BitVec 32)), outFrom f (l ++ [x]) = outFrom f l ++ [stepI (l.foldl stepF f) x]
  | [], _ => rfl
  | y :: l, f => by simp [outFrom, outFrom_snoc x l]
theorem outFrom_length : ∀ (l : List Ins) (f : List (BitVec 32)), (outFrom f l).length = l.length
  | [], _ => rfl
  | y :: l, f => by simp [outFrom, outFrom_length l]
theorem outOf_length (l : List Ins) : (outOf l).length = l.length := outFrom_length l []
theorem stepF_length (f : List (BitVec 32)) (x : Ins) : (stepF f x).length ≤ f.length + 1 := by
  unfold stepF; split
  · split <;> simp
  · omega
theorem fdsOf_snoc (l : List Ins) (x : Ins) : fdsOf (l ++ [x]) = stepF (fdsOf l) x := by simp [fdsOf]
theorem outOf_snoc (l : List Ins) (x : Ins) : outOf (l ++ [x]) = outOf l ++ [stepI (fdsOf l) x] := outFrom_snoc x l []
theorem foldF_length : ∀ (l : List Ins) (f : List (BitVec 32)), (l.foldl stepF f).length ≤ f.length + l.length
  | [], f => by simp
  | x :: l, f => by
    have h1 := foldF_length l (stepF f x)
    have h2 := stepF_length f x
    simp only [List.foldl_cons, List.length_cons]; omega
theorem fdsOf_length (l : List Ins) : (fdsOf l).length ≤ l.length := by have := foldF_length l []; simpa [fdsOf] using this

/-- The row behind k rounds. -/
def midI (l : List Ins) (k : Nat) : List Ins := outOf (l.take k) ++ l.drop k
theorem midI_length (l : List Ins) (k : Nat) (hk : k ≤ l.length) : (midI l k).length = l.length := by
  unfold midI; rw [List.length_append, outOf_length, List.length_take, List.length_drop]; omega
theorem midI_at (l : List Ins) (k : Nat) (hk : k < l.length) : (midI l k)[k]'(by rw [midI_length l k (by omega)]; exact hk) = l[k] := by
  unfold midI
  rw [List.getElem_append_right (by rw [outOf_length, List.length_take]; omega)]
  simp [outOf_length, Nat.min_eq_left (Nat.le_of_lt hk)]
theorem midI_succ (l : List Ins) (k : Nat) (hk : k < l.length) : midI l (k + 1) = (midI l k).set k (stepI (fdsOf (l.take k)) l[k]) := by
  unfold midI
  rw [List.take_succ_eq_append_getElem hk, outOf_snoc, List.append_assoc, List.set_append_right _ _ (by rw [outOf_length, List.length_take]; omega)]
  congr 1
  rw [outOf_length, List.length_take, Nat.min_eq_left (Nat.le_of_lt hk), Nat.sub_self, List.drop_eq_getElem_cons hk]
  rfl
theorem insV_set : ∀ (l : List Ins) (k : Nat) (hk : k < l.length) (b : BitVec 32), (insV l).set (k * 5 + 4) (.int .i32 b.toInt) = insV (l.set k { l[k] with imm := b })
  | [], _, hk, _ => by simp at hk
  | x :: l, 0, _, b => by rw [insV_cons]; simp [insV_cons, Ins.cells]
  | x :: l, k + 1, hk, b => by
    rw [insV_cons, List.set_append_right _ _ (by rw [cells_length]; omega), cells_length, show (k + 1) * 5 + 4 - 5 = k * 5 + 4 by omega, insV_set l k (by simpa using hk) b]
    simp [insV_cons]

theorem rows_keep {w w' : World} {T : TypeId} {size n : Nat} {xs : List Value} {v v' other : Value} (ho : w.ownsRow 0 T size other n xs) (hg : w.grownBy w' v.ownBlock)
    (hf : v'.ownBlock = v.ownBlock ∨ ∃ g, v'.ownBlock = some g ∧ w.heap.size ≤ g) (hne : ∀ g, v.ownBlock = some g → other.ownBlock ≠ some g) :
    w'.ownsRow 0 T size other n xs ∧ ∀ g, v'.ownBlock = some g → other.ownBlock ≠ some g := by
  refine ⟨owns_ext ho ((Ext.refl v.ownBlock.toList w).grown hg (by intro k hk; left; simp [hk])) (by intro k hk; simp; intro h; exact hne k h hk), ?_⟩
  intro g hg' ho'
  rcases hf with h | ⟨g', h, hle⟩
  · exact hne g (h ▸ hg') ho'
  · rw [h] at hg'
    obtain rfl := Option.some.inj hg'
    have := owns_lt ho ho'
    omega

theorem rows_fresh {w w1 : World} {v v' : Value} (x : Ext [] w w1) (hfr : ∀ g, v.ownBlock = some g → w.heap.size ≤ g) (h : v'.ownBlock = v.ownBlock ∨ ∃ g, v'.ownBlock = some g ∧ w1.heap.size ≤ g) :
    ∀ g, v'.ownBlock = some g → w.heap.size ≤ g := by
  intro g hg'
  have := x.size
  rcases h with h | ⟨g', h, hle⟩
  · exact hfr g (h ▸ hg')
  · rw [h] at hg'; obtain rfl := Option.some.inj hg'; omega

theorem ofNat_toInt (n : Nat) (h : n < 100000) : (BitVec.ofNat 32 n).toInt = (n : Int) := by
  rw [BitVec.toInt_eq_toNat_cond, BitVec.toNat_ofNat, Nat.mod_eq_of_lt (by omega), if_pos (by omega)]

/-- What Slots answers. -/
def SlotsPost (w : World) (l : List Ins) (e : Ending) (w' : World) : Prop :=
  if (fdsOf l).length ≤ 4 then
    ∃ v5 v6, e = .returned (.tuple #[v5, v6, .int .i64 0]) ∧ w'.ownsRow 0 25 5 v5 l.length (insV (outOf l)) ∧ w'.ownsRow 0 21 1 v6 (fdsOf l).length (immV (fdsOf l)) ∧ Ext [] w w' ∧
      (∀ g, v5.ownBlock = some g → w.heap.size ≤ g) ∧ (∀ g, v6.ownBlock = some g → w.heap.size ≤ g) ∧ (∀ g, v6.ownBlock = some g → v5.ownBlock ≠ some g)
  else e = .returned (.tuple #[.slice none 0 0, .slice none 0 0, .int .i64 7]) ∧ Ext [] w w'

set_option maxHeartbeats 8000000 in
set_option maxRecDepth 100000 in
theorem slots_go (v : Value) (l : List Ins) (w : World) (hr : Reads w v 5 l.length (insV l)) (hl : l.length ≤ 10000) :
    Calls Tryd.prog 9 #[v] w (SlotsPost w l) := by
  obtain ⟨i0, hi, hz0, hz1, hz2⟩ := info_parts info_i32
  have HCL := Lib.hid (clone_any v l w hr (by omega))
  clear hr
  go_enter Tryd.func9, Tryd.ntmps9
  go_wp2_with fail
  refine HCL.out.mono ?_
  rintro e w1 ⟨v1, rfl, hown1, x1, fr1⟩
  obtain ⟨oa, oc, rfl⟩ := owns_slice hown1
  have hob1 : ∀ g, (Value.slice oa l.length oc).ownBlock = some g → g < w1.heap.size := fun g hg => owns_lt hown1 hg
  clear HCL
  go_wp2_with fail
  go_loopw [6, 7, 8, 9, 14] (fun f _ _ _ i wr => ∃ k : Nat, k ≤ l.length ∧ i = .int .i64 (k : Int) ∧ wr.ownsRow 0 25 5 (.slice oa l.length oc) l.length (insV (midI l k)) ∧ wr.ownsRow 0 21 1 f (fdsOf (l.take k)).length (immV (fdsOf (l.take k))) ∧ Ext [] w wr ∧ (∀ g, f.ownBlock = some g → w.heap.size ≤ g) ∧ (∀ g, f.ownBlock = some g → (Value.slice oa l.length oc).ownBlock ≠ some g)) (fun _ _ _ _ i _ => l.length - (intOf i).toNat)
  case atStart => exact ⟨0, by omega, rfl, by simpa [midI, outOf, outFrom] using hown1, by simpa [fdsOf, immV] using World.ownsRow_nil _ _ _ _, x1, (fun g h => by cases h), (fun g h => by cases h)⟩
  case round =>
    clear hown1 x1
    obtain ⟨k, hk, rfl, ho, hf, x, frf, hap⟩ := hrel
    obtain ⟨fa, fc, rfl⟩ := owns_slice hf
    by_cases hlt : k < l.length
    · obtain ⟨g, oc', cur, he, -, hoc, hocm, -, -⟩ := owns_some ho (by omega)
      cases he
      unfold maxLen at hocm
      have hfl : (fdsOf (l.take k)).length ≤ k := by have := fdsOf_length (l.take k); rw [List.length_take] at this; omega
      have hcell : ∀ j, j < 5 → wr.cell? ⟨g, k * 5 + j, none⟩ = (l[k]).cells[j]? := by
        intro j hj
        rw [ho.cellAt (k * 5 + j) (by omega), insV_at _ k j (by rw [midI_length l k hk]; exact hlt) hj, midI_at l k hlt]
      have hglt : g < wr.heap.size := owns_lt ho rfl
      have hst := Lib.hid (midI_succ l k hlt)
      have hfs := Lib.hid (show fdsOf (l.take (k + 1)) = stepF (fdsOf (l.take k)) l[k] by rw [List.take_succ_eq_append_getElem hlt, fdsOf_snoc])
      have hmk := Lib.hid (midI_at l k hlt)
      have hml := midI_length l k hk
      generalize l[k] = y at *
      generalize fdsOf (l.take k) = fds at *
      have c0 := hcell 0 (by omega)
      have c1 := hcell 1 (by omega)
      have c2 := hcell 2 (by omega)
      have c3 := hcell 3 (by omega)
      have c4 := hcell 4 (by omega)
      simp only [Ins.cells, List.getElem?_cons_zero, List.getElem?_cons_succ, Nat.add_zero] at c0 c1 c2 c3 c4
      clear hcell
      go_upto_region 6 with (fail)
      show Code.wp _ _ _ _ (wr.alloc (.cells y.cells.toArray 25))
      have BY := Blk.new wr 25 y.cells.toArray
      have xa : Ext [] wr (wr.alloc (.cells y.cells.toArray 25)) := (Ext.refl _ _).alloc _
      have ho1 := owns_ext ho xa (by simp)
      have hf1 := owns_ext hf xa (by simp)
      have xx := x.trans xa
      have hflt : ∀ b, (Value.slice fa fds.length fc).ownBlock = some b → b < wr.heap.size := fun b hb => owns_lt hf hb
      obtain ⟨by', hby⟩ : ∃ b, b = wr.heap.size := ⟨_, rfl⟩
      rw [← hby] at BY hglt hflt
      rw [← hby]
      clear ho hf x xa c0 c1 c2 c3 c4 hby
      generalize wr.alloc (.cells y.cells.toArray 25) = w2 at *
      have c0 := BY.cell 0
      have c1 := BY.cell 1
      have c2 := BY.cell 2
      have c3 := BY.cell 3
      have c4 := BY.cell 4
      simp only [Ins.cells, List.getElem?_cons_zero, List.getElem?_cons_succ] at c0 c1 c2 c3 c4
      go_wp2_with fail
      refine (ofmap_any y w2).mono ?_
      rintro e w3 ⟨rfl, x3⟩
      have BY3 := BY.ext x3 (by simp)
      have ho3 := owns_ext ho1 x3 (by simp)
      have hf3 := owns_ext hf1 x3 (by simp)
      have xx3 := xx.trans x3
      have hg3 : g < w3.heap.size := owns_lt ho3 rfl
      clear BY ho1 hf1 xx x3 c0 c1 c2 c3 c4
      cases hm : isMapI y
      · have HI := Lib.hid (show stepI fds y = y by unfold stepI; rw [hm]; rfl)
        have HF := Lib.hid (show stepF fds y = fds by unfold stepF; rw [hm]; rfl)
        clear hm
        go_wp2_with fail
        go_roundw
        case rel =>
          refine ⟨k + 1, by omega, by go_num, ?_, ?_, xx3, ?_, ?_⟩
          · rw [hst.out, HI.out, ← hmk.out, List.set_getElem_self]; exact ho3
          · rw [hfs.out, HF.out]; exact hf3
          · exact frf
          · exact hap
        case measure => simp [intOf]; omega
      · have HI := Lib.hid (show stepI fds y = { y with imm := BitVec.ofNat 32 (fds.idxOf y.imm) } by unfold stepI; rw [hm]; rfl)
        have HF := Lib.hid (show stepF fds y = if y.imm ∈ fds then fds else fds ++ [y.imm] by unfold stepF; rw [hm]; rfl)
        have c4 := BY3.cell 4
        simp only [Ins.cells, List.getElem?_cons_zero, List.getElem?_cons_succ] at c4
        clear hm
        go_wp2_with fail
        refine (index_any (.slice fa fds.length fc) fds y.imm w3 (owns_reads hf3) (by omega)).mono ?_
        rintro e w4 ⟨rfl, rfl⟩
        have c4g : w3.cell? ⟨g, k * 5 + 4, none⟩ = some (.int .i32 y.imm.toInt) := by
          rw [ho3.cellAt (k * 5 + 4) (by omega), insV_at _ k 4 (by rw [hml]; exact hlt) (by omega), hmk.out]; rfl
        have f4g := ho3.frozenAt (k * 5 + 4)
        by_cases hin : y.imm ∈ fds
        · have hq : fds.idxOf y.imm < fds.length := List.idxOf_lt_length_of_mem hin
          have HF2 := Lib.hid (HF.out.trans (if_pos hin))
          rw [show idxI fds y.imm = ((fds.idxOf y.imm : Nat) : Int) from if_pos hin]
          clear hin HF
          generalize fds.idxOf y.imm = q at *
          have hset := Lib.hid (show (insV (midI l k)).set (k * 5 + 4) (.int .i32 (q : Int)) = insV (midI l (k + 1)) by
            rw [hst.out, HI.out]
            have h := insV_set (midI l k) k (by rw [hml]; exact hlt) (BitVec.ofNat 32 q)
            rw [hmk.out, ofNat_toInt q (by omega)] at h
            exact h)
          go_wp2_with fail
          go_roundw
          case rel =>
            have ho4 := (ho3.stored (k * 5 + 4) (.int .i32 (q : Int))).1
            rw [hset.out] at ho4
            refine ⟨k + 1, by omega, by go_num, ho4, ?_, xx3.setCell (.inr (fr1 g rfl)) _, frf, hap⟩
            rw [hfs.out, HF2.out]
            exact owns_ext hf3 ((Ext.refl [g] w3).setCell (.inl (by simp)) _) (by intro b hb; simp; intro e; subst e; exact hap _ hb rfl)
          case measure => simp [intOf]; omega
        · have hq : fds.idxOf y.imm = fds.length := List.idxOf_eq_length hin
          have HF2 := Lib.hid (HF.out.trans (if_neg hin))
          rw [show idxI fds y.imm = -1 from if_neg hin]
          clear hin HF
          rw [hq] at HI
          have hset := Lib.hid (show (insV (midI l k)).set (k * 5 + 4) (.int .i32 (fds.length : Int)) = insV (midI l (k + 1)) by
            rw [hst.out, HI.out]
            have h := insV_set (midI l k) k (by rw [hml]; exact hlt) (BitVec.ofNat 32 fds.length)
            rw [hmk.out, ofNat_toInt fds.length (by omega)] at h
            exact h)
          clear hq
          go_wp2_with (at_builtin; go_must (refine wpList_app _ rfl (.tmp 30) (.tmp 33) 29 rfl 21 i0 (.int .i32 0) 1 4 Tryd.underlying29 hi hz0 hz1 hz2 rfl (by decide) (.slice fa fds.length fc) _ _ rfl (owns_ext hf3 ((Ext.refl [] w3).alloc _) (by simp)) _ 1 _ rfl (blk_reads (Blk.new w3 _ _) 1 rfl) (by intro u hu; simp at hu; subst hu; rfl) (by unfold maxLen; omega) (by omega) ?_); intro v7 w7 hown7 hgrow7 hfr7 _; have hk7 := rows_keep (owns_ext ho3 ((Ext.refl [] w3).alloc (.cells #[.int .i32 y.imm.toInt] 21)) (by simp)) hgrow7 hfr7 hap; have c7 : w7.cell? ⟨g, k * 5 + 4, none⟩ = some (.int .i32 y.imm.toInt) := (by rw [hk7.1.cellAt (k * 5 + 4) (by omega), insV_at _ k 4 (by rw [hml]; exact hlt) (by omega), hmk.out]; rfl); have f7 := hk7.1.frozenAt (k * 5 + 4))
          go_roundw
          case rel =>
            have ho4 := (hk7.1.stored (k * 5 + 4) (.int .i32 (fds.length : Int))).1
            rw [hset.out] at ho4
            have x7 : Ext [] w w7 := (xx3.alloc _).grown hgrow7 (by intro b hb; exact .inr (frf b hb))
            refine ⟨k + 1, by omega, by go_num, ho4, ?_, x7.setCell (.inr (fr1 g rfl)) _, ?_, hk7.2⟩
            · rw [hfs.out, HF2.out, immV_append, List.length_append]
              exact owns_ext hown7 ((Ext.refl [g] w7).setCell (.inl (by simp)) _) (by intro b hb; simp; intro e; subst e; exact hk7.2 _ hb rfl)
            · exact rows_fresh (xx3.alloc (.cells #[.int .i32 y.imm.toInt] 21)) frf hfr7
          case measure => simp [intOf]; omega
    · have hk' : k = l.length := by omega
      have e1 : midI l k = outOf l := by rw [hk']; simp [midI]
      have e2 : l.take k = l := by rw [hk', List.take_length]
      rw [e1] at ho
      rw [e2] at hf frf hap ⊢
      have HP := Lib.hid (show ∀ e w', SlotsPost w l e w' = (if (fdsOf l).length ≤ 4 then ∃ v5 v6, e = .returned (.tuple #[v5, v6, .int .i64 0]) ∧ w'.ownsRow 0 25 5 v5 l.length (insV (outOf l)) ∧ w'.ownsRow 0 21 1 v6 (fdsOf l).length (immV (fdsOf l)) ∧ Ext [] w w' ∧ (∀ g, v5.ownBlock = some g → w.heap.size ≤ g) ∧ (∀ g, v6.ownBlock = some g → w.heap.size ≤ g) ∧ (∀ g, v6.ownBlock = some g → v5.ownBlock ≠ some g) else e = .returned (.tuple #[.slice none 0 0, .slice none 0 0, .int .i64 7]) ∧ Ext [] w w') from fun _ _ => rfl)
      by_cases h4 : (fdsOf l).length ≤ 4
      · go_wp2_with fail
        go_ret3
        rw [HP.out, if_pos h4]
        exact ⟨_, _, rfl, ho, hf, x, fr1, frf, hap⟩
      · go_wp2_with fail
        go_ret3
        rw [HP.out, if_neg h4]
        exact ⟨rfl, x⟩
end Go.Proofs.YtbjkfgfiifnjoaaDoor
