/- The statement TipstaffMaps: the walk. -/
import Derived.Test.YtbjkfgfiifnjoaaDoorMapsI
namespace Go.Proofs.YtbjkfgfiifnjoaaDoor
open Go.RowKit
set_option maxRecDepth 100000

/-- Some of the six maps, made since. -/
structure PM (w0 w : World) (m : Nat → Nat) (F : Nat → List Nat) (R : List Nat) (D : Nat → Prop) : Prop where
  at_ : ∀ s, D s → MapC w (m s) (tyS s) (F s) (cA (s % 3) fun _ => none) 0
  dis : ∀ s r, D s → D r → s ≠ r → ∀ g ∈ F s, g ∉ F r
  lt : ∀ s, D s → ∀ g ∈ F s, g < w.heap.size
  lo : ∀ s, D s → ∀ g ∈ F s, w0.heap.size ≤ g
  rz : ∀ s, D s → ∀ g ∈ F s, g ∉ R
  rl : ∀ g ∈ R, g < w.heap.size
theorem PM.ext {w0 w w' : World} {m : Nat → Nat} {F : Nat → List Nat} {R S : List Nat} {D : Nat → Prop} (h : PM w0 w m F R D) (x : Ext S w w') (hS : ∀ g ∈ S, g ∈ R ∨ w.heap.size ≤ g) : PM w0 w' m F R D := by
  refine ⟨fun s hs => (h.at_ s hs).ext x (fun g hg hm => ?_), h.dis, fun s hs g hg => Nat.lt_of_lt_of_le (h.lt s hs g hg) x.size, h.lo, h.rz, fun g hg => Nat.lt_of_lt_of_le (h.rl g hg) x.size⟩
  rcases hS g hm with h1 | h1
  · exact h.rz s hs g hg h1
  · have := h.lt s hs g hg; omega
theorem PM.sub {w0 w : World} {m : Nat → Nat} {F : Nat → List Nat} {R : List Nat} {D D' : Nat → Prop} (h : PM w0 w m F R D) (hD : ∀ s, D' s → D s) : PM w0 w m F R D' :=
  ⟨fun s hs => h.at_ s (hD s hs), fun s r hs hr => h.dis s r (hD s hs) (hD r hr), fun s hs => h.lt s (hD s hs), fun s hs => h.lo s (hD s hs), fun s hs => h.rz s (hD s hs), h.rl⟩
theorem PM.add {w0 w w' : World} {m : Nat → Nat} {F : Nat → List Nat} {R : List Nat} {D : Nat → Prop} (h : PM w0 w m F R D) (hw : w0.heap.size ≤ w.heap.size) (s : Nat) (hD : ¬ D s) {e : Ending} (p : NewPost w (tyS s) (cA (s % 3) fun _ => none) e w') :
    ∃ b F1, e = .returned (.tuple #[.pointer (some ⟨b, 0, none⟩), .int .i64 0]) ∧ PM w0 w' (updN m s b) (updN F s F1) R (fun r => D r ∨ r = s) ∧ Ext [] w w' := by
  obtain ⟨b, F1, rfl, hC, x, hf, -⟩ := p
  have hne : ∀ r, D r → r ≠ s := fun r hr e => hD (e ▸ hr)
  have hin : ∀ g ∈ F1.filter (fun g => decide (g < w'.heap.size)), g < w'.heap.size ∧ w.heap.size ≤ g := by
    intro g hg
    obtain ⟨h2, h3⟩ := List.mem_filter.1 hg
    exact ⟨by simpa using h3, hf g h2⟩
  refine ⟨b, F1.filter fun g => decide (g < w'.heap.size), rfl, ⟨?_, ?_, ?_, ?_, ?_, fun g hg => Nat.lt_of_lt_of_le (h.rl g hg) x.size⟩, x⟩
  · rintro r (hr | rfl)
    · unfold updN
      rw [if_neg (hne r hr), if_neg (hne r hr)]
      exact (h.at_ r hr).ext x (by simp)
    · unfold updN
      rw [if_pos rfl, if_pos rfl]
      exact hC.shrink
  · rintro r u (hr | rfl) (hu | rfl) hru g hg
    · unfold updN at hg ⊢
      rw [if_neg (hne r hr)] at hg
      rw [if_neg (hne u hu)]
      exact h.dis r u hr hu hru g hg
    · unfold updN at hg ⊢
      rw [if_neg (hne r hr)] at hg
      rw [if_pos rfl]
      intro hm
      have h1 := hin g hm
      have h2 := h.lt r hr g hg
      omega
    · unfold updN at hg ⊢
      rw [if_pos rfl] at hg
      rw [if_neg (hne u hu)]
      intro hm
      have h1 := hin g hg
      have h2 := h.lt u hu g hm
      omega
    · exact absurd rfl hru
  · rintro r (hr | rfl) g hg
    · unfold updN at hg
      rw [if_neg (hne r hr)] at hg
      exact Nat.lt_of_lt_of_le (h.lt r hr g hg) x.size
    · unfold updN at hg
      rw [if_pos rfl] at hg
      exact (hin g hg).1
  · rintro r (hr | rfl) g hg
    · unfold updN at hg
      rw [if_neg (hne r hr)] at hg
      exact h.lo r hr g hg
    · unfold updN at hg
      rw [if_pos rfl] at hg
      have := (hin g hg).2
      omega
  · rintro r (hr | rfl) g hg
    · unfold updN at hg
      rw [if_neg (hne r hr)] at hg
      exact h.rz r hr g hg
    · unfold updN at hg
      rw [if_pos rfl] at hg
      intro hm
      have h1 := hin g hg
      have h2 := h.rl g hm
      omega
theorem bm_newA (s : Nat) (w : World) : Calls Tryd.prog 16 #[specV (tyS s)] w fun e w' => NewPost w (tyS s) (cA (s % 3) fun _ => none) e w' := by
  rcases (show s % 3 = 0 ∨ s % 3 = 1 ∨ s % 3 = 2 by omega) with h | h | h
  · have e1 : tyS s = 0 := by unfold tyS; rw [h]; rfl
    have e2 : cA (s % 3) (fun _ => none) = fun k => if k < 8 then some (0, 0) else none := by
      funext k; unfold cA; rw [h]; simp [val]
    rw [e1, e2]; exact bm_new0 w
  · have e1 : tyS s = 1 := by unfold tyS; rw [h]; rfl
    have e2 : cA (s % 3) (fun _ => none) = fun _ => none := by
      funext k; unfold cA; rw [h]; simp [val]
    rw [e1, e2]; exact bm_new12 1 (.inl rfl) w
  · have e1 : tyS s = 2 := by unfold tyS; rw [h]; rfl
    have e2 : cA (s % 3) (fun _ => none) = fun _ => none := by
      funext k; unfold cA; rw [h]; simp [val]
    rw [e1, e2]; exact bm_new12 2 (.inr rfl) w
def pA (m : Nat → Nat) (o j : Nat) : List Value := [if 0 < j then .pointer (some ⟨m o, 0, none⟩) else .pointer none, if 1 < j then .pointer (some ⟨m (o + 1), 0, none⟩) else .pointer none, if 2 < j then .pointer (some ⟨m (o + 2), 0, none⟩) else .pointer none]

set_option maxHeartbeats 32000000 in
theorem maps_walk (kv vv : Value) (kb vb : List UInt8) (w : World) (G : DigG w) (hkv : BytesArg w kv kb) (hvv : BytesArg w vv vb) :
    Calls Tryd.prog 4 #[kv, vv] w fun e w' => e = .returned (.bool true) ∧ Ext [] w w' := by
  have HN := Lib.hid bm_newA
  have HG := Lib.hid G
  have HKV := Lib.hid (And.intro hkv hvv)
  clear G hkv hvv
  go_enter Tryd.func4, Tryd.ntmps4
  go_upto_block 0 with (fail)
  have BA := Blk.new w 47 #[.pointer none, .pointer none, .pointer none]
  have x1 : Ext [] w (w.alloc (.cells #[.pointer none, .pointer none, .pointer none] 47)) := (Ext.refl _ _).alloc _
  have BB := Blk.new' (w.alloc (.cells #[.pointer none, .pointer none, .pointer none] 47)) 47 #[.pointer none, .pointer none, .pointer none] (w.heap.size + 1) (by simp)
  have x2 := x1.alloc (.cells #[.pointer none, .pointer none, .pointer none] 47)
  have BA2 := BA.alloc (.cells #[.pointer none, .pointer none, .pointer none] 47)
  clear BA x1
  generalize (w.alloc (.cells #[.pointer none, .pointer none, .pointer none] 47)).alloc (.cells #[.pointer none, .pointer none, .pointer none] 47) = w2 at *
  have hba : w.heap.size ≤ w.heap.size ∧ w.heap.size ≤ w.heap.size + 1 ∧ w.heap.size ≠ w.heap.size + 1 := by omega
  generalize hbbq : w.heap.size + 1 = bb at *
  obtain ⟨ba, hbaq⟩ : ∃ n, n = w.heap.size := ⟨_, rfl⟩
  have HLO := Lib.hid hba
  rw [← hbaq] at BA2 ⊢
  have HBA := Lib.hid hbaq
  clear hbaq hbbq hba
  have HINI := Lib.hid (And.intro BA2 (And.intro BB x2))
  have hP0 : PM w w2 (fun _ => 0) (fun _ => []) [ba, bb] (fun s => s < 6 ∧ s % 3 < 0) :=
    ⟨fun s hs => by omega, fun s r hs => by omega, fun s hs => by omega, fun s hs => by omega, fun s hs => by omega, fun g hg => by
      simp at hg
      rcases hg with rfl | rfl
      · exact BA2.lt
      · exact BB.lt⟩
  have HP0 := Lib.hid hP0
  clear BA2 BB x2 hP0
  go_cut [4, 7, 8, 9, 10, 11, 12] from 25 (fun _ _ _ _ _ _ _ wx => ∃ (m : Nat → Nat) (F : Nat → List Nat), PM w wx m F [ba, bb] (fun s => s < 6 ∧ s % 3 < 3) ∧ Blk wx ba 47 (pA m 0 3) ∧ Blk wx bb 47 (pA m 3 3) ∧ Ext [] w wx)
  case first =>
    go_wp2_with fail
    go_loopw [7] (fun i wr => ∃ (j : Nat) (m : Nat → Nat) (F : Nat → List Nat), i = .int .i64 (j : Int) ∧ j ≤ 3 ∧ PM w wr m F [ba, bb] (fun s => s < 6 ∧ s % 3 < j) ∧ Blk wr ba 47 (pA m 0 j) ∧ Blk wr bb 47 (pA m 3 j) ∧ Ext [] w wr) (fun i _ => 3 - (intOf i).toNat)
    case atStart => exact ⟨0, _, _, rfl, by omega, HP0.out, HINI.out.1, HINI.out.2.1, HINI.out.2.2⟩
    case round =>
      clear HP0 HINI
      obtain ⟨j, m, F, rfl, hj, P, A, B, x⟩ := hrel
      by_cases hlt : j < 3
      · have HH := Lib.hid (And.intro P (And.intro A (And.intro B x)))
        clear P A B x
        rcases (show j = 0 ∨ j = 1 ∨ j = 2 by omega) with rfl | rfl | rfl
        · have HN1 := Lib.hid (fun w => (show Calls Tryd.prog 16 #[.agg #[.int .i64 0, .int .i64 4, .int .i64 2, .int .i64 8]] w fun e w' => NewPost w (tyS 0) (cA (0 % 3) fun _ => none) e w' from HN.out 0 w))
          have HN2 := Lib.hid (fun w => (show Calls Tryd.prog 16 #[.agg #[.int .i64 0, .int .i64 4, .int .i64 2, .int .i64 8]] w fun e w' => NewPost w (tyS (3 + 0)) (cA ((3 + 0) % 3) fun _ => none) e w' from HN.out (3 + 0) w))
          go_upto_region 6 with (fail)
          have BS := Blk.new' (wr.alloc (.cells #[.int .i64 0, .int .i64 1, .int .i64 2] 3)) 50 #[.int .i64 0, .int .i64 4, .int .i64 2, .int .i64 8] (wr.heap.size + 1) (by simp)
          have y5 : Ext [] wr ((wr.alloc (.cells #[.int .i64 0, .int .i64 1, .int .i64 2] 3)).alloc (.cells #[.int .i64 0, .int .i64 4, .int .i64 2, .int .i64 8] 50)) := ((Ext.refl _ _).alloc _).alloc _
          generalize (wr.alloc (.cells #[.int .i64 0, .int .i64 1, .int .i64 2] 3)).alloc (.cells #[.int .i64 0, .int .i64 4, .int .i64 2, .int .i64 8] 50) = w5 at *
          generalize wr.heap.size + 1 = sb at *
          have s0 := BS.cell 0
          have s1 := BS.cell 1
          have s2 := BS.cell 2
          have s3 := BS.cell 3
          have sl := BS.lt
          simp only [List.getElem?_cons_succ, List.getElem?_cons_zero] at s0 s1 s2 s3
          go_wp2_with fail
          refine (HN1.out w5).mono ?_
          intro e w6 hp
          have P5 := HH.out.1.ext y5 (by simp)
          have hw5 := Nat.le_trans HH.out.2.2.2.size y5.size
          obtain ⟨b1, F1, rfl, P6, x6⟩ := P5.add hw5 0 (by omega) hp
          have BS6 := BS.ext x6 (by simp)
          clear hp s0 s1 s2 s3 sl BS P5
          have s0 := BS6.cell 0
          have s1 := BS6.cell 1
          have s2 := BS6.cell 2
          have s3 := BS6.cell 3
          have sl := BS6.lt
          simp only [List.getElem?_cons_succ, List.getElem?_cons_zero] at s0 s1 s2 s3
          go_wp2_with fail
          refine (HN2.out w6).mono ?_
          intro e w7 hp
          obtain ⟨b2, F2, rfl, P7, x7⟩ := P6.add (Nat.le_trans hw5 x6.size) (3 + 0) (by omega) hp
          have Y7 := (y5.trans x6).trans x7
          have A7 := HH.out.2.1.ext Y7 (by simp)
          have B7 := HH.out.2.2.1.ext Y7 (by simp)
          have X7 := HH.out.2.2.2.trans Y7
          clear hp s0 s1 s2 s3 sl BS6 P6 y5 x6 x7 Y7 hw5 HN1 HN2
          have hab : ba ≠ bb := by
            have h1 := HLO.out.2.2
            have h2 := HBA.out
            omega
          have hlo : w.heap.size ≤ ba ∧ w.heap.size ≤ bb := by
            have h1 := HLO.out
            have h2 := HBA.out
            omega
          have xa : Ext [ba] w7 (w7.setCell ⟨ba, 0, none⟩ (.pointer (some ⟨b1, 0, none⟩))) := (Ext.refl _ _).setCell (.inl (by simp)) _
          have xb : Ext [bb] (w7.setCell ⟨ba, 0, none⟩ (.pointer (some ⟨b1, 0, none⟩))) ((w7.setCell ⟨ba, 0, none⟩ (.pointer (some ⟨b1, 0, none⟩))).setCell ⟨bb, 0, none⟩ (.pointer (some ⟨b2, 0, none⟩))) := (Ext.refl _ _).setCell (.inl (by simp)) _
          have HREL := Lib.hid (show ∃ (j : Nat) (m : Nat → Nat) (F : Nat → List Nat), Value.int .i64 1 = .int .i64 (j : Int) ∧ j ≤ 3 ∧ PM w ((w7.setCell ⟨ba, 0, none⟩ (.pointer (some ⟨b1, 0, none⟩))).setCell ⟨bb, 0, none⟩ (.pointer (some ⟨b2, 0, none⟩))) m F [ba, bb] (fun s => s < 6 ∧ s % 3 < j) ∧
              Blk ((w7.setCell ⟨ba, 0, none⟩ (.pointer (some ⟨b1, 0, none⟩))).setCell ⟨bb, 0, none⟩ (.pointer (some ⟨b2, 0, none⟩))) ba 47 (pA m 0 j) ∧ Blk ((w7.setCell ⟨ba, 0, none⟩ (.pointer (some ⟨b1, 0, none⟩))).setCell ⟨bb, 0, none⟩ (.pointer (some ⟨b2, 0, none⟩))) bb 47 (pA m 3 j) ∧ Ext [] w ((w7.setCell ⟨ba, 0, none⟩ (.pointer (some ⟨b1, 0, none⟩))).setCell ⟨bb, 0, none⟩ (.pointer (some ⟨b2, 0, none⟩))) from by
            refine ⟨1, _, _, rfl, by omega, ((P7.ext xa (by simp)).ext xb (by simp)).sub (fun s hs => by omega), ?_, ?_, (X7.trans' xa (by simp; exact hlo.1)).trans' xb (by simp; exact hlo.2)⟩
            · have h1 := (A7.set 0 (.pointer (some ⟨b1, 0, none⟩))).ext xb (by simpa using hab)
              have e : (pA m 0 0).set 0 (.pointer (some ⟨b1, 0, none⟩)) = pA (updN (updN m 0 b1) (3 + 0) b2) 0 1 := by simp [pA, updN]
              rw [e] at h1
              exact h1
            · have h1 := (B7.ext xa (by simpa using hab.symm)).set 0 (.pointer (some ⟨b2, 0, none⟩))
              have e : (pA m 3 0).set 0 (.pointer (some ⟨b2, 0, none⟩)) = pA (updN (updN m 0 b1) (3 + 0) b2) 3 1 := by simp [pA, updN]
              rw [e] at h1
              exact h1)
          have a0 := A7.cell 0
          have af := A7.frozen 0
          have al := A7.lt
          have b0 := B7.cell 0
          have bf := B7.frozen 0
          have bl := B7.lt
          simp only [pA, List.getElem?_cons_zero] at a0 b0
          clear P7 A7 B7 X7 xa xb hlo HH
          go_wp2_with fail
          go_roundw
          case rel => exact HREL.out
          case measure => simp [intOf]
        · have HN1 := Lib.hid (fun w => (show Calls Tryd.prog 16 #[.agg #[.int .i64 1, .int .i64 4, .int .i64 2, .int .i64 8]] w fun e w' => NewPost w (tyS 1) (cA (1 % 3) fun _ => none) e w' from HN.out 1 w))
          have HN2 := Lib.hid (fun w => (show Calls Tryd.prog 16 #[.agg #[.int .i64 1, .int .i64 4, .int .i64 2, .int .i64 8]] w fun e w' => NewPost w (tyS (3 + 1)) (cA ((3 + 1) % 3) fun _ => none) e w' from HN.out (3 + 1) w))
          go_upto_region 6 with (fail)
          have BS := Blk.new' (wr.alloc (.cells #[.int .i64 0, .int .i64 1, .int .i64 2] 3)) 50 #[.int .i64 1, .int .i64 4, .int .i64 2, .int .i64 8] (wr.heap.size + 1) (by simp)
          have y5 : Ext [] wr ((wr.alloc (.cells #[.int .i64 0, .int .i64 1, .int .i64 2] 3)).alloc (.cells #[.int .i64 1, .int .i64 4, .int .i64 2, .int .i64 8] 50)) := ((Ext.refl _ _).alloc _).alloc _
          generalize (wr.alloc (.cells #[.int .i64 0, .int .i64 1, .int .i64 2] 3)).alloc (.cells #[.int .i64 1, .int .i64 4, .int .i64 2, .int .i64 8] 50) = w5 at *
          generalize wr.heap.size + 1 = sb at *
          have s0 := BS.cell 0
          have s1 := BS.cell 1
          have s2 := BS.cell 2
          have s3 := BS.cell 3
          have sl := BS.lt
          simp only [List.getElem?_cons_succ, List.getElem?_cons_zero] at s0 s1 s2 s3
          go_wp2_with fail
          refine (HN1.out w5).mono ?_
          intro e w6 hp
          have P5 := HH.out.1.ext y5 (by simp)
          have hw5 := Nat.le_trans HH.out.2.2.2.size y5.size
          obtain ⟨b1, F1, rfl, P6, x6⟩ := P5.add hw5 1 (by omega) hp
          have BS6 := BS.ext x6 (by simp)
          clear hp s0 s1 s2 s3 sl BS P5
          have s0 := BS6.cell 0
          have s1 := BS6.cell 1
          have s2 := BS6.cell 2
          have s3 := BS6.cell 3
          have sl := BS6.lt
          simp only [List.getElem?_cons_succ, List.getElem?_cons_zero] at s0 s1 s2 s3
          go_wp2_with fail
          refine (HN2.out w6).mono ?_
          intro e w7 hp
          obtain ⟨b2, F2, rfl, P7, x7⟩ := P6.add (Nat.le_trans hw5 x6.size) (3 + 1) (by omega) hp
          have Y7 := (y5.trans x6).trans x7
          have A7 := HH.out.2.1.ext Y7 (by simp)
          have B7 := HH.out.2.2.1.ext Y7 (by simp)
          have X7 := HH.out.2.2.2.trans Y7
          clear hp s0 s1 s2 s3 sl BS6 P6 y5 x6 x7 Y7 hw5 HN1 HN2
          have hab : ba ≠ bb := by
            have h1 := HLO.out.2.2
            have h2 := HBA.out
            omega
          have hlo : w.heap.size ≤ ba ∧ w.heap.size ≤ bb := by
            have h1 := HLO.out
            have h2 := HBA.out
            omega
          have xa : Ext [ba] w7 (w7.setCell ⟨ba, 1, none⟩ (.pointer (some ⟨b1, 0, none⟩))) := (Ext.refl _ _).setCell (.inl (by simp)) _
          have xb : Ext [bb] (w7.setCell ⟨ba, 1, none⟩ (.pointer (some ⟨b1, 0, none⟩))) ((w7.setCell ⟨ba, 1, none⟩ (.pointer (some ⟨b1, 0, none⟩))).setCell ⟨bb, 1, none⟩ (.pointer (some ⟨b2, 0, none⟩))) := (Ext.refl _ _).setCell (.inl (by simp)) _
          have HREL := Lib.hid (show ∃ (j : Nat) (m : Nat → Nat) (F : Nat → List Nat), Value.int .i64 2 = .int .i64 (j : Int) ∧ j ≤ 3 ∧ PM w ((w7.setCell ⟨ba, 1, none⟩ (.pointer (some ⟨b1, 0, none⟩))).setCell ⟨bb, 1, none⟩ (.pointer (some ⟨b2, 0, none⟩))) m F [ba, bb] (fun s => s < 6 ∧ s % 3 < j) ∧
              Blk ((w7.setCell ⟨ba, 1, none⟩ (.pointer (some ⟨b1, 0, none⟩))).setCell ⟨bb, 1, none⟩ (.pointer (some ⟨b2, 0, none⟩))) ba 47 (pA m 0 j) ∧ Blk ((w7.setCell ⟨ba, 1, none⟩ (.pointer (some ⟨b1, 0, none⟩))).setCell ⟨bb, 1, none⟩ (.pointer (some ⟨b2, 0, none⟩))) bb 47 (pA m 3 j) ∧ Ext [] w ((w7.setCell ⟨ba, 1, none⟩ (.pointer (some ⟨b1, 0, none⟩))).setCell ⟨bb, 1, none⟩ (.pointer (some ⟨b2, 0, none⟩))) from by
            refine ⟨2, _, _, rfl, by omega, ((P7.ext xa (by simp)).ext xb (by simp)).sub (fun s hs => by omega), ?_, ?_, (X7.trans' xa (by simp; exact hlo.1)).trans' xb (by simp; exact hlo.2)⟩
            · have h1 := (A7.set 1 (.pointer (some ⟨b1, 0, none⟩))).ext xb (by simpa using hab)
              have e : (pA m 0 1).set 1 (.pointer (some ⟨b1, 0, none⟩)) = pA (updN (updN m 1 b1) (3 + 1) b2) 0 2 := by simp [pA, updN]
              rw [e] at h1
              exact h1
            · have h1 := (B7.ext xa (by simpa using hab.symm)).set 1 (.pointer (some ⟨b2, 0, none⟩))
              have e : (pA m 3 1).set 1 (.pointer (some ⟨b2, 0, none⟩)) = pA (updN (updN m 1 b1) (3 + 1) b2) 3 2 := by simp [pA, updN]
              rw [e] at h1
              exact h1)
          have a0 := A7.cell 1
          have af := A7.frozen 1
          have al := A7.lt
          have b0 := B7.cell 1
          have bf := B7.frozen 1
          have bl := B7.lt
          simp only [pA, List.getElem?_cons_succ, List.getElem?_cons_zero] at a0 b0
          clear P7 A7 B7 X7 xa xb hlo HH
          go_wp2_with fail
          go_roundw
          case rel => exact HREL.out
          case measure => simp [intOf]
        · have HN1 := Lib.hid (fun w => (show Calls Tryd.prog 16 #[.agg #[.int .i64 2, .int .i64 4, .int .i64 2, .int .i64 8]] w fun e w' => NewPost w (tyS 2) (cA (2 % 3) fun _ => none) e w' from HN.out 2 w))
          have HN2 := Lib.hid (fun w => (show Calls Tryd.prog 16 #[.agg #[.int .i64 2, .int .i64 4, .int .i64 2, .int .i64 8]] w fun e w' => NewPost w (tyS (3 + 2)) (cA ((3 + 2) % 3) fun _ => none) e w' from HN.out (3 + 2) w))
          go_upto_region 6 with (fail)
          have BS := Blk.new' (wr.alloc (.cells #[.int .i64 0, .int .i64 1, .int .i64 2] 3)) 50 #[.int .i64 2, .int .i64 4, .int .i64 2, .int .i64 8] (wr.heap.size + 1) (by simp)
          have y5 : Ext [] wr ((wr.alloc (.cells #[.int .i64 0, .int .i64 1, .int .i64 2] 3)).alloc (.cells #[.int .i64 2, .int .i64 4, .int .i64 2, .int .i64 8] 50)) := ((Ext.refl _ _).alloc _).alloc _
          generalize (wr.alloc (.cells #[.int .i64 0, .int .i64 1, .int .i64 2] 3)).alloc (.cells #[.int .i64 2, .int .i64 4, .int .i64 2, .int .i64 8] 50) = w5 at *
          generalize wr.heap.size + 1 = sb at *
          have s0 := BS.cell 0
          have s1 := BS.cell 1
          have s2 := BS.cell 2
          have s3 := BS.cell 3
          have sl := BS.lt
          simp only [List.getElem?_cons_succ, List.getElem?_cons_zero] at s0 s1 s2 s3
          go_wp2_with fail
          refine (HN1.out w5).mono ?_
          intro e w6 hp
          have P5 := HH.out.1.ext y5 (by simp)
          have hw5 := Nat.le_trans HH.out.2.2.2.size y5.size
          obtain ⟨b1, F1, rfl, P6, x6⟩ := P5.add hw5 2 (by omega) hp
          have BS6 := BS.ext x6 (by simp)
          clear hp s0 s1 s2 s3 sl BS P5
          have s0 := BS6.cell 0
          have s1 := BS6.cell 1
          have s2 := BS6.cell 2
          have s3 := BS6.cell 3
          have sl := BS6.lt
          simp only [List.getElem?_cons_succ, List.getElem?_cons_zero] at s0 s1 s2 s3
          go_wp2_with fail
          refine (HN2.out w6).mono ?_
          intro e w7 hp
          obtain ⟨b2, F2, rfl, P7, x7⟩ := P6.add (Nat.le_trans hw5 x6.size) (3 + 2) (by omega) hp
          have Y7 := (y5.trans x6).trans x7
          have A7 := HH.out.2.1.ext Y7 (by simp)
          have B7 := HH.out.2.2.1.ext Y7 (by simp)
          have X7 := HH.out.2.2.2.trans Y7
          clear hp s0 s1 s2 s3 sl BS6 P6 y5 x6 x7 Y7 hw5 HN1 HN2
          have hab : ba ≠ bb := by
            have h1 := HLO.out.2.2
            have h2 := HBA.out
            omega
          have hlo : w.heap.size ≤ ba ∧ w.heap.size ≤ bb := by
            have h1 := HLO.out
            have h2 := HBA.out
            omega
          have xa : Ext [ba] w7 (w7.setCell ⟨ba, 2, none⟩ (.pointer (some ⟨b1, 0, none⟩))) := (Ext.refl _ _).setCell (.inl (by simp)) _
          have xb : Ext [bb] (w7.setCell ⟨ba, 2, none⟩ (.pointer (some ⟨b1, 0, none⟩))) ((w7.setCell ⟨ba, 2, none⟩ (.pointer (some ⟨b1, 0, none⟩))).setCell ⟨bb, 2, none⟩ (.pointer (some ⟨b2, 0, none⟩))) := (Ext.refl _ _).setCell (.inl (by simp)) _
          have HREL := Lib.hid (show ∃ (j : Nat) (m : Nat → Nat) (F : Nat → List Nat), Value.int .i64 3 = .int .i64 (j : Int) ∧ j ≤ 3 ∧ PM w ((w7.setCell ⟨ba, 2, none⟩ (.pointer (some ⟨b1, 0, none⟩))).setCell ⟨bb, 2, none⟩ (.pointer (some ⟨b2, 0, none⟩))) m F [ba, bb] (fun s => s < 6 ∧ s % 3 < j) ∧
              Blk ((w7.setCell ⟨ba, 2, none⟩ (.pointer (some ⟨b1, 0, none⟩))).setCell ⟨bb, 2, none⟩ (.pointer (some ⟨b2, 0, none⟩))) ba 47 (pA m 0 j) ∧ Blk ((w7.setCell ⟨ba, 2, none⟩ (.pointer (some ⟨b1, 0, none⟩))).setCell ⟨bb, 2, none⟩ (.pointer (some ⟨b2, 0, none⟩))) bb 47 (pA m 3 j) ∧ Ext [] w ((w7.setCell ⟨ba, 2, none⟩ (.pointer (some ⟨b1, 0, none⟩))).setCell ⟨bb, 2, none⟩ (.pointer (some ⟨b2, 0, none⟩))) from by
            refine ⟨3, _, _, rfl, by omega, ((P7.ext xa (by simp)).ext xb (by simp)).sub (fun s hs => by omega), ?_, ?_, (X7.trans' xa (by simp; exact hlo.1)).trans' xb (by simp; exact hlo.2)⟩
            · have h1 := (A7.set 2 (.pointer (some ⟨b1, 0, none⟩))).ext xb (by simpa using hab)
              have e : (pA m 0 2).set 2 (.pointer (some ⟨b1, 0, none⟩)) = pA (updN (updN m 2 b1) (3 + 2) b2) 0 3 := by simp [pA, updN]
              rw [e] at h1
              exact h1
            · have h1 := (B7.ext xa (by simpa using hab.symm)).set 2 (.pointer (some ⟨b2, 0, none⟩))
              have e : (pA m 3 2).set 2 (.pointer (some ⟨b2, 0, none⟩)) = pA (updN (updN m 2 b1) (3 + 2) b2) 3 3 := by simp [pA, updN]
              rw [e] at h1
              exact h1)
          have a0 := A7.cell 2
          have af := A7.frozen 2
          have al := A7.lt
          have b0 := B7.cell 2
          have bf := B7.frozen 2
          have bl := B7.lt
          simp only [pA, List.getElem?_cons_succ, List.getElem?_cons_zero] at a0 b0
          clear P7 A7 B7 X7 xa xb hlo HH
          go_wp2_with fail
          go_roundw
          case rel => exact HREL.out
          case measure => simp [intOf]
      · obtain rfl : j = 3 := by omega
        have HR := Lib.hid (show ∃ (m : Nat → Nat) (F : Nat → List Nat), PM w wr m F [ba, bb] (fun s => s < 6 ∧ s % 3 < 3) ∧ Blk wr ba 47 (pA m 0 3) ∧ Blk wr bb 47 (pA m 3 3) ∧ Ext [] w wr from ⟨m, F, P, A, B, x⟩)
        clear P A B x
        go_wp2_with fail
        go_meet
        exact HR.out
  case rest =>
    obtain ⟨m, F, P, A, B, x⟩ := hcut
    rename_i KK aK
    refine aK _ _ ?_
    have M : Maps w wc m F (fun s => cA (s % 3) fun _ => none) 0 [ba, bb] :=
      ⟨fun s hs => P.at_ s ⟨hs, Nat.mod_lt _ (by omega)⟩, fun s r hs hr => P.dis s r ⟨hs, Nat.mod_lt _ (by omega)⟩ ⟨hr, Nat.mod_lt _ (by omega)⟩, fun s hs => P.lt s ⟨hs, Nat.mod_lt _ (by omega)⟩, fun s hs => P.lo s ⟨hs, Nat.mod_lt _ (by omega)⟩, fun s hs => P.rz s ⟨hs, Nat.mod_lt _ (by omega)⟩, P.rl⟩
    exact maps_t11 w wc HG.out ba bb m F M x A B kv vv kb vb HKV.out.1 HKV.out.2 _ (by kernel_rfl) _ _ _ _ _ _ _ _ _ _ _ _ _ _ _ _ _ _ _ _ _ _ _ _ _ _ _ _ _ _ _ _ _ _ _ _ _ _ _ _ _ _ _ _ _ _ _ _ _ _ _ _ _ _ _ _ _ _ _ _ _ _ _ _ _ _ _ _ _ _ _ _ _ _ _ _ _ _ _ _ _ _ _ _ _ _ _ _ _ _ _ _ _ _ _ _ _ _ _ _ _ _ _ _ _ _ _ _ _ _ _ _ _ _ _ _ _ _ _ _ _ _ _ _ _ _ _ _ _ _ _ _ _ _ _ _ _ _ _ _ _ _ _ _ _ _ _ _ _ _ _ _ _ _ _ _ _ _ _ _ _ _ _ _ _ _ _ _ _ _ _ _ _ _ _ _ _ _ _ _ _ _ _ _ _ _ _ _ _ _ _ _ _ _ _ _ _ _ _ _ _ _ _ _ _ _ _ _ _ _ _ _
end Go.Proofs.YtbjkfgfiifnjoaaDoor
