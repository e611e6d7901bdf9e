/- Package canon: slices.Clone of instructions, slices.Index of numbers, ofMap. -/
import Derived.Test.YtbjkfgfiifnjoaaDoorShare
import Derived.Test.YtbjkfgfiifnjoaaDoorOf
import Derived.WalkSpells
namespace Go.Proofs.YtbjkfgfiifnjoaaDoor
open Go.RowKit
set_option maxRecDepth 100000

theorem info_i32 : (Tryd.prog.info? 21).map (fun i => (i.zero, i.size, i.bytes)) = some (some (.int .i32 0), 1, 4) := by kernel_rfl

/-- A fresh row of instructions is handed back. -/
def InsPost (w : World) (l : List Ins) (e : Ending) (w' : World) : Prop :=
  ∃ v, e = .returned v ∧ w'.ownsRow 0 25 5 v l.length (insV l) ∧ Ext [] w w' ∧ ∀ g, v.ownBlock = some g → w.heap.size ≤ g

theorem clone_any (v : Value) (l : List Ins) (w : World) (hr : Reads w v 5 l.length (insV l)) (hl : l.length ≤ 100000) :
    Calls Tryd.prog 42 #[v] w (InsPost w l) := by
  obtain ⟨i1, hi, hz0, hz1, hz2⟩ := info_parts info_insn
  have HR := Lib.hid (fun w' (x : Ext [] w w') => hr.ext x)
  obtain ⟨ao, c, rfl, -, hnone, -⟩ := hr
  cases ao with
  | none =>
    obtain ⟨h0, rfl⟩ := hnone rfl
    have hl0 : l = [] := List.eq_nil_of_length_eq_zero h0
    subst hl0
    have hnil := Lib.run_eql_slice_nil (P := Tryd.prog)
    go_enter Tryd.func42, Tryd.ntmps42
    go_wp2_with fail
    go_ret
    exact ⟨_, rfl, by simpa [insV] using World.ownsRow_nil _ _ _ _, Ext.refl _ _, fun g h => by cases h⟩
  | some ad =>
    have hnil := Lib.run_eql_slice_nil (P := Tryd.prog)
    go_enter Tryd.func42, Tryd.ntmps42
    go_wp2_with (at_builtin; go_must (refine wpList_app _ rfl (.tmp 5) (.tmp 6) 28 rfl 25 i1 _ 5 12 Tryd.underlying28 hi hz0 hz1 hz2 rfl (by decide) (.slice (some ⟨w.heap.size, 0, none⟩) 0 0) 0 [] rfl ((Blk.new w 25 #[]).owns rfl (Nat.zero_le _)) (.slice (some ad) l.length c) l.length (insV l) rfl (HR.out _ ((Ext.refl _ _).alloc _)) (insV_oneCell l) (by unfold maxLen; omega) (by omega) ?_); intro v2 w2 hown2 hgrow2 hfr2 _)
    go_ret
    simp only [Nat.zero_add, List.nil_append] at hown2
    refine ⟨_, rfl, hown2, ((Ext.refl [] w).alloc _).grown hgrow2 (by intro g hg; simp [Value.ownBlock] at hg; exact .inr (by omega)), ?_⟩
    intro g hg
    change v2.ownBlock = some g at hg
    rcases hfr2 with h | ⟨g', h, hle⟩
    · rw [h] at hg; simp [Value.ownBlock] at hg; omega
    · rw [h] at hg; obtain rfl := Option.some.inj hg; simp at hle; omega

def immV (l : List (BitVec 32)) : List Value := l.map fun b => Value.int .i32 b.toInt
theorem immV_at (l : List (BitVec 32)) (i : Nat) (h : i < l.length) : (immV l)[i]? = some (.int .i32 (l[i]).toInt) := by simp [immV, h]
theorem immV_length (l : List (BitVec 32)) : (immV l).length = l.length := by simp [immV]
theorem immV_append (a b : List (BitVec 32)) : immV (a ++ b) = immV a ++ immV b := by simp [immV]

/-- Where a number stands in a list; -1: nowhere. -/
def idxI (l : List (BitVec 32)) (b : BitVec 32) : Int := if b ∈ l then (l.idxOf b : Int) else -1

set_option maxHeartbeats 1000000 in
theorem index_any (v : Value) (l : List (BitVec 32)) (b : BitVec 32) (w : World) (hr : Reads w v 1 l.length (immV l)) (hl : l.length ≤ 100000) :
    Calls Tryd.prog 44 #[v, .int .i32 b.toInt] w fun e w' => e = .returned (.int .i64 (idxI l b)) ∧ w = w' := by
  obtain ⟨ao, c, rfl, -, hnone, hcells⟩ := hr
  have HC := Lib.hid (fun ad (e : ao = some ad) k (hk : k < l.length) => (show w.cell? (ad.add k) = some (.int .i32 (l[k]).toInt) from hcells ad e k _ (immV_at l k hk)))
  have HN := Lib.hid hnone
  clear hcells hnone
  go_enter Tryd.func44, Tryd.ntmps44
  go_wp2_with fail
  go_loop [5, 8] (fun _ i => ∃ k : Nat, k ≤ l.length ∧ i = .int .i64 (k : Int) ∧ Hid (∀ j (hj : j < l.length), j < k → l[j] ≠ b)) (fun _ i => l.length - (intOf i).toNat)
  case atStart => exact ⟨0, by omega, rfl, Lib.hid (fun j _ h => by omega)⟩
  case round =>
    obtain ⟨k, hk, rfl, HNO⟩ := hrel
    by_cases hlt : k < l.length
    · obtain ⟨ad, rfl⟩ : ∃ ad, ao = some ad := by
        cases ao with
        | none => have := (HN.out rfl).1; omega
        | some ad => exact ⟨ad, rfl⟩
      have hc := HC.out ad rfl k hlt
      by_cases hb : l[k] = b
      · have hbe : (b.toInt == (l[k]).toInt) = true := by rw [hb, beq_iff_eq]
        have HB := Lib.hid hb
        clear hb
        go_wp2_with fail
        go_ret
        refine ⟨ret_int ?_, rfl⟩
        have hm : b ∈ l := by rw [← HB.out]; exact List.getElem_mem hlt
        unfold idxI
        rw [if_pos hm]
        have h1 : l.idxOf b < l.length := List.idxOf_lt_length_of_mem hm
        have h2 : l[l.idxOf b] = b := List.getElem_idxOf h1
        rcases Nat.lt_trichotomy (l.idxOf b) k with h | h | h
        · exact absurd h2 (HNO.out _ h1 h)
        · rw [h]
        · exfalso
          unfold List.idxOf at h
          have := List.not_of_lt_findIdx h
          rw [HB.out] at this
          simp at this
      · have hbe : (b.toInt == (l[k]).toInt) = false := by rw [beq_eq_false_iff_ne]; intro h; exact hb (BitVec.eq_of_toInt_eq h).symm
        have HB := Lib.hid hb
        clear hb
        go_wp2_with fail
        go_round
        case rel => exact ⟨k + 1, by omega, by go_num, Lib.hid (fun j hj hjk => by
          rcases Nat.lt_or_ge j k with h | h
          · exact HNO.out j hj h
          · obtain rfl : j = k := by omega
            exact HB.out)⟩
        case measure => simp [intOf]; omega
    · go_wp2_with fail
      go_ret
      refine ⟨ret_int ?_, rfl⟩
      unfold idxI
      rw [if_neg]
      intro hm
      obtain ⟨j, hj, rfl⟩ := List.mem_iff_getElem.1 hm
      exact HNO.out j hj (by omega) rfl

theorem field_kind (k : Int) (b c d e : Value) (w : World) : (Instr.field 169 (.agg #[.int .i64 k, b, c, d, e]) 0).run Tryd.prog w = .ok (.int .i64 k) w := by kernel_rfl

/-- Does an instruction name a map? -/
def isMapI (x : Ins) : Bool := decide ((partsN x.op.toNat).kind = 9) && decide (x.src.toNat = 1)

set_option maxHeartbeats 2000000 in
theorem ofmap_any (x : Ins) (w : World) :
    Calls Tryd.prog 43 #[.agg x.cells.toArray] w fun e w' => e = .returned (.bool (isMapI x)) ∧ Ext [] w w' := by
  have hfk := field_kind
  have hof := Lib.hid (fun w' => of_any x.op.toNat x.op.toNat_lt w')
  have HM := Lib.hid (show isMapI x = (decide ((partsN x.op.toNat).kind = 9) && decide (x.src.toNat = 1)) from rfl)
  generalize partsN x.op.toNat = p at *
  obtain ⟨kind, op, size, long, reg⟩ := p
  simp only [Prt.cells] at hof HM
  obtain ⟨bk, hbk⟩ : ∃ b : Bool, b = decide (kind = 9) := ⟨_, rfl⟩
  have hkb : ((kind : Int) == 9) = bk := by rw [hbk, Bool.eq_iff_iff]; simp; omega
  rw [← hbk] at HM
  clear hbk
  obtain ⟨bs, hbs⟩ : ∃ b : Bool, b = decide (x.src.toNat = 1) := ⟨_, rfl⟩
  have hsb : ((x.src.toNat : Int) == 1) = bs := by rw [hbs, Bool.eq_iff_iff]; simp; omega
  rw [← hbs] at HM
  clear hbs
  cases bk <;> cases bs
  all_goals
    go_enter Tryd.func43, Tryd.ntmps43
    go_upto_region 1 with (fail)
    have B := Blk.new w 25 x.cells.toArray
    have x1 : Ext [] w (w.alloc (.cells x.cells.toArray 25)) := (Ext.refl _ _).alloc _
    show Code.wp _ _ _ _ (w.alloc (.cells x.cells.toArray 25))
    have hlt := B.lt
    generalize w.alloc (.cells x.cells.toArray 25) = w1 at *
    have c0 := B.cell 0
    simp only [Ins.cells, List.getElem?_cons_zero] at c0
    go_wp2_with fail
    refine (hof.out w1).mono ?_
    rintro e w2 ⟨rfl, x2⟩
    have c2 := (B.ext x2 (by simp)).cell 2
    simp only [Ins.cells, List.getElem?_cons_zero, List.getElem?_cons_succ] at c2
    go_wp2_with fail
    go_ret
    exact ⟨by rw [HM.out]; rfl, x1.trans x2⟩
end Go.Proofs.YtbjkfgfiifnjoaaDoor
