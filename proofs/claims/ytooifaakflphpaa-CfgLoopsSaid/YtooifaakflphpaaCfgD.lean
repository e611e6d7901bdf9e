/- Package cfg: visit, walked, Reach, Loops. -/
import Derived.Test.YtooifaakflphpaaCfgC
namespace Go.Proofs.Ytooifaakflphpaa
open Go.RowKit
set_option maxRecDepth 100000

/-- A walk that lies in memory: its struct, its colours. -/
structure WalkAt (w : World) (bw bc : Nat) (lv : Value) (n : Nat) (s : List Nat × Bool) : Prop where
  h : Blk w bw 50 [lv, .slice (some ⟨bc, 0, none⟩) n n, .bool s.2]
  c : Blk w bc 3 (s.1.map fun (c : Nat) => Value.int .i64 (c : Int))
  len : s.1.length = n
  ne : bw ≠ bc
theorem WalkAt.ext {w w' : World} {bw bc : Nat} {lv : Value} {n : Nat} {s : List Nat × Bool} (h : WalkAt w bw bc lv n s) (x : Ext [] w w') : WalkAt w' bw bc lv n s :=
  ⟨h.h.ext x (by simp), h.c.ext x (by simp), h.len, h.ne⟩
theorem WalkAt.paint {w : World} {bw bc : Nat} {lv : Value} {n : Nat} {s : List Nat × Bool} (h : WalkAt w bw bc lv n s) (a v : Nat) : WalkAt (w.setCell ⟨bc, a, none⟩ (.int .i64 (v : Int))) bw bc lv n (s.1.set a v, s.2) :=
  ⟨h.h.setOther h.ne _, by have := h.c.set a (.int .i64 (v : Int)); rw [List.map_set]; exact this, by simp [h.len], h.ne⟩
theorem WalkAt.found {w : World} {bw bc : Nat} {lv : Value} {n : Nat} {s : List Nat × Bool} (h : WalkAt w bw bc lv n s) : WalkAt (w.setCell ⟨bw, 2, none⟩ (.bool true)) bw bc lv n (s.1, true) :=
  ⟨by have := h.h.set 2 (.bool true); simpa using this, h.c.setOther (fun e => h.ne e.symm) _, h.len, h.ne⟩
theorem WalkAt.cell {w : World} {bw bc : Nat} {lv : Value} {n : Nat} {s : List Nat × Bool} (h : WalkAt w bw bc lv n s) (a : Nat) (ha : a < n) : w.cell? ⟨bc, a, none⟩ = some (.int .i64 ((s.1.getD a 0 : Nat) : Int)) := by
  rw [h.c.cell, List.getElem?_map, List.getElem?_eq_getElem (by rw [h.len]; exact ha)]
  simp [h.len, ha]
theorem nat_at (w : World) (u : Value) (ns : List Nat) (h : w.ownsRow 0 3 1 u ns.length (ns.map fun (y : Nat) => Value.int .i64 (y : Int))) (k : Nat) (hk : k < ns.length) :
    ∃ g c, u = .slice (some ⟨g, 0, none⟩) ns.length c ∧ g < w.heap.size ∧ w.cell? ⟨g, k, none⟩ = some (.int .i64 (ns[k] : Int)) := by
  obtain ⟨g, c, cur, rfl, hb, hn, -, hl, ht⟩ := owns_some h (by omega)
  rw [Nat.mul_one] at hl ht
  refine ⟨g, c, rfl, hb.lt, ?_⟩
  rw [hb.cell]
  have : (cur.take ns.length)[k]? = (ns.map fun (y : Nat) => Value.int .i64 (y : Int))[k]? := by rw [ht]
  rw [List.getElem?_take, if_pos hk] at this
  rw [this, List.getElem?_map, List.getElem?_eq_getElem hk]
  rfl
theorem fold_succ {α β : Type} (f : β → α → β) (s : β) (l : List α) (k : Nat) (hk : k < l.length) : (l.take (k + 1)).foldl f s = f ((l.take k).foldl f s) l[k] := by
  rw [List.take_succ_eq_append_getElem hk, List.foldl_append]
  rfl

set_option maxHeartbeats 8000000 in
theorem visit_any (l : List Ins) (hl : l.length ≤ 100000) (bw bc : Nat) (lv : Value) : ∀ (f a : Nat) (s : List Nat × Bool) (w : World), WalkAt w bw bc lv l.length s → (∀ w', Ext [bw, bc] w w' → Reads w' lv 5 l.length (insV l)) →
    (∀ i, s.1.getD i 0 ≤ 2) → a < l.length → s.1.getD a 0 = 0 → Cf.fresh s.1 ≤ f →
    Calls Try.prog 33 #[.pointer (some ⟨bw, 0, none⟩), .int .i64 (a : Int)] w fun e w' => e = .returned (.tuple #[]) ∧ WalkAt w' bw bc lv l.length (Cf.visF (nxM l) f a s) ∧ Ext [bw, bc] w w' := by
  intro f
  induction f with
  | zero =>
    intro a s w H _ _ ha h0 hf
    have := Cf.fresh_set s.1 a 1 (by omega) h0 (by rw [H.len]; exact ha)
    omega
  | succ f ih =>
    intro a s w H hr hb ha h0 hf
    have hfs := Cf.fresh_set s.1 a 1 (by omega) h0 (by rw [H.len]; exact ha)
    have HR := Lib.hid hr
    have IH := Lib.hid ih
    have HV := Lib.hid (show Cf.visF (nxM l) (f + 1) a s = (((nxM l a).foldl (Cf.stepV (Cf.visF (nxM l) f)) (s.1.set a 1, s.2)).1.set a 2, ((nxM l a).foldl (Cf.stepV (Cf.visF (nxM l) f)) (s.1.set a 1, s.2)).2) from rfl)
    have hb1 : ∀ i, (s.1.set a 1).getD i 0 ≤ 2 := by
      intro i
      rw [Cf.getD_set]
      split
      · omega
      · exact hb i
    have HB1 := Lib.hid hb1
    have hf1 : Cf.fresh (s.1.set a 1) ≤ f := by omega
    have HF1 := Lib.hid hf1
    have hca := H.cell a ha
    have hfa := H.c.frozen a
    have h1 := H.h.cell 1
    simp only [List.getElem?_cons_zero, List.getElem?_cons_succ] at h1
    have hlt := H.c.lt
    have hltw := H.h.lt
    have HP := Lib.hid (H.paint a 1)
    have HNX := Lib.hid (nxM_lt l a)
    have hne := H.ne
    clear hr ih hb h0 hf hfs hb1 hf1 H
    obtain ⟨la, lc, rfl⟩ : ∃ la lc, lv = .slice la l.length lc := by
      obtain ⟨la, lc, e, -⟩ := HR.out w (Ext.refl _ _)
      exact ⟨la, lc, e⟩
    go_enter Try.func33, Try.ntmps33
    go_upto_region 1 with (fail)
    have P1 := HP.out
    have x1 : Ext [bw, bc] w (w.setCell ⟨bc, a, none⟩ (.int .i64 (1 : Int))) := (Ext.refl _ _).setCell (.inl (by simp)) _
    change WalkAt (w.setCell ⟨bc, a, none⟩ (.int .i64 (1 : Int))) _ _ _ _ _ at P1
    clear hca hfa h1 HP
    generalize w.setCell ⟨bc, a, none⟩ (.int .i64 (1 : Int)) = w1 at *
    have e0 := P1.h.cell 0
    have e1 := P1.h.cell 1
    simp only [List.getElem?_cons_zero, List.getElem?_cons_succ] at e0 e1
    have HN := Lib.hid (next_any (.slice la l.length lc) l (a : Int) w1 (HR.out w1 x1) hl)
    have hnx : nxA l (a : Int) = nxL l a := by unfold nxA; rw [if_pos (by omega), Int.toNat_natCast]
    rw [hnx] at HN
    clear hnx
    go_wp2_with fail
    refine HN.out.mono ?_
    rintro e w2 ⟨u, rfl, hown, x2, hfr⟩
    clear HN e0 e1
    rw [nxL_nat, show (nxL l a).length = (nxM l a).length from by unfold nxM; rw [List.length_map]] at hown
    have P2 := P1.ext x2
    have x02 : Ext [bw, bc] w w2 := x1.trans (x2.sub (by simp))
    have hfr' : ∀ g, u.ownBlock = some g → g ≠ bw ∧ g ≠ bc := by
      intro g hg
      have h3 := hfr g hg
      have h4 := P1.h.lt
      have h5 := P1.c.lt
      omega
    have HFR := Lib.hid hfr'
    have HOW := Lib.hid (fun w' (x' : Ext [bw, bc] w2 w') => owns_ext hown x' (by intro g hg; have := hfr' g hg; simp; omega))
    have hnl : (nxM l a).length ≤ 2 := by have := nxL_len l a; unfold nxM; rw [List.length_map]; exact this
    obtain ⟨ua, uc, rfl⟩ := owns_slice hown
    obtain ⟨ns, hns⟩ : ∃ ns, ns = nxM l a := ⟨_, rfl⟩
    rw [← hns] at HNX HOW hnl HV
    have P2' : WalkAt w2 bw bc (.slice la l.length lc) l.length ((ns.take 0).foldl (Cf.stepV (Cf.visF (nxM l) f)) (s.1.set a 1, s.2)) := P2
    rw [← hns]
    clear hns hown hfr hfr' P1 P2 x2 x1
    have HB2 := Lib.hid (show (∀ i, ((ns.take 0).foldl (Cf.stepV (Cf.visF (nxM l) f)) (s.1.set a 1, s.2)).1.getD i 0 ≤ 2) ∧ Cf.fresh ((ns.take 0).foldl (Cf.stepV (Cf.visF (nxM l) f)) (s.1.set a 1, s.2)).1 ≤ f from ⟨HB1.out, HF1.out⟩)
    go_wp2_with fail
    go_loopw [5, 19] (fun _ i wr => ∃ k : Nat, k ≤ ns.length ∧ i = .int .i64 (k : Int) ∧ WalkAt wr bw bc (.slice la l.length lc) l.length ((ns.take k).foldl (Cf.stepV (Cf.visF (nxM l) f)) (s.1.set a 1, s.2)) ∧ Ext [bw, bc] w2 wr ∧ Hid ((∀ i, ((ns.take k).foldl (Cf.stepV (Cf.visF (nxM l) f)) (s.1.set a 1, s.2)).1.getD i 0 ≤ 2) ∧ Cf.fresh ((ns.take k).foldl (Cf.stepV (Cf.visF (nxM l) f)) (s.1.set a 1, s.2)).1 ≤ f)) (fun _ i _ => ns.length - (intOf i).toNat)
    case atStart => exact ⟨0, Nat.zero_le _, rfl, P2', Ext.refl _ _, HB2⟩
    case round =>
      clear P2' HB2
      obtain ⟨k, hk, rfl, I, x, HBk⟩ := hrel
      by_cases hlt2 : k < ns.length
      · obtain ⟨g, uc', he, hgl, hcy⟩ := nat_at wr _ ns (HOW.out wr x) k hlt2
        cases he
        have HS := Lib.hid (fold_succ (Cf.stepV (Cf.visF (nxM l) f)) (s.1.set a 1, s.2) ns k hlt2)
        have hyl := HNX.out ns[k] (List.getElem_mem hlt2)
        generalize ns[k] = y at *
        generalize (ns.take k).foldl (Cf.stepV (Cf.visF (nxM l) f)) (s.1.set a 1, s.2) = t at *
        have hcc := I.cell y hyl
        have e1 := I.h.cell 1
        simp only [List.getElem?_cons_zero, List.getElem?_cons_succ] at e1
        have hw1 := I.h.lt
        have hw2 := I.c.lt
        have hz := HBk.out.1 y
        rcases (show t.1.getD y 0 = 0 ∨ t.1.getD y 0 = 1 ∨ t.1.getD y 0 = 2 by omega) with hcol | hcol | hcol
        · have HST := Lib.hid (show Cf.stepV (Cf.visF (nxM l) f) t y = Cf.visF (nxM l) f y t by unfold Cf.stepV; rw [if_neg (by omega), if_pos hcol])
          have HC := Lib.hid (IH.out y t wr I (fun w' x' => HR.out w' (x02.trans (x.trans x'))) HBk.out.1 hyl hcol HBk.out.2)
          have HVA := Lib.hid (Cf.vis_all (nxM l) f y t (by rw [I.len]; exact nxM_lt l) HBk.out.1 hcol (by rw [I.len]; exact hyl) HBk.out.2).1
          rw [hcol] at hcc
          clear hcol hz I
          go_wp2_with fail
          refine HC.out.mono ?_
          rintro e w3 ⟨rfl, I3, x3⟩
          clear HC hcc e1
          have HB3 := Lib.hid (show (∀ i, (Cf.visF (nxM l) f y t).1.getD i 0 ≤ 2) ∧ Cf.fresh (Cf.visF (nxM l) f y t).1 ≤ f from
            ⟨HVA.out.bnd HBk.out.1, Nat.le_trans (Cf.fresh_le _ _ HVA.out.len (fun i hi => by rw [HVA.out.old i hi]; exact hi)) HBk.out.2⟩)
          go_wp2_with fail
          go_roundw
          case rel => exact ⟨k + 1, by omega, by go_num, by rw [HS.out, HST.out]; exact I3, x.trans x3, by rw [HS.out, HST.out]; exact HB3⟩
          case measure => simp [intOf]; omega
        · have HST := Lib.hid (show Cf.stepV (Cf.visF (nxM l) f) t y = (t.1, true) by unfold Cf.stepV; rw [if_pos hcol])
          rw [hcol] at hcc
          have I3 := I.found
          have f2 := I.h.frozen 2
          have e2 := I.h.cell 2
          simp only [List.getElem?_cons_zero, List.getElem?_cons_succ] at e2
          clear hcol hz I
          go_wp2_with fail
          go_roundw
          case rel => exact ⟨k + 1, by omega, by go_num, by rw [HS.out, HST.out]; exact I3, x.setCell (.inl (by simp)) _, by rw [HS.out, HST.out]; exact HBk⟩
          case measure => simp [intOf]; omega
        · have HST := Lib.hid (show Cf.stepV (Cf.visF (nxM l) f) t y = t by unfold Cf.stepV; rw [if_neg (by omega), if_neg (by omega)])
          rw [hcol] at hcc
          clear hcol hz
          go_wp2_with fail
          go_roundw
          case rel => exact ⟨k + 1, by omega, by go_num, by rw [HS.out, HST.out]; exact I, x, by rw [HS.out, HST.out]; exact HBk⟩
          case measure => simp [intOf]; omega
      · obtain rfl : k = ns.length := by omega
        rw [List.take_length] at I
        have HVV := HV
        generalize ns.foldl (Cf.stepV (Cf.visF (nxM l) f)) (s.1.set a 1, s.2) = t at I HVV
        have hca := I.cell a ha
        have hfa := I.c.frozen a
        have e1 := I.h.cell 1
        simp only [List.getElem?_cons_zero, List.getElem?_cons_succ] at e1
        have hw1 := I.h.lt
        have hw2 := I.c.lt
        have I3 := I.paint a 2
        clear I HV HBk hlt2
        go_wp2_with fail
        go_end0
        refine ⟨rfl, ?_, (x02.trans x).setCell (.inl (by simp)) _⟩
        rw [HVV.out]
        exact I3
end Go.Proofs.Ytooifaakflphpaa
