/- The reference of layer 5: one. (Printed by genrone.py.) -/
import Derived.Test.YtooifaakflphpaaShM
import Derived.Test.YtooifaakflphpaaShF
import Derived.Test.YtooifaakflphpaaShRA
import Derived.Test.YtooifaakflphpaaShN1
import Derived.Test.YtooifaakflphpaaRof
namespace Go.Proofs.Ytooifaakflphpaa
open Go.RowKit
set_option maxRecDepth 100000

set_option maxHeartbeats 16000000 in
set_option maxRecDepth 100000 in
theorem rone_any (v : Value) (l : List Ins) (k : Nat) (w : World) (hr : Reads w v 5 l.length (insV l)) (hk : k < l.length) (hl : l.length ≤ 100000) :
    Calls Try.prog 38 #[v, .int .i64 (k : Int)] w fun e w' => e = .returned (.bool (oneM l k)) ∧ Ext [] w w' := by
  have hRM : oneM l k = oneX l[k] l[k + 1]? (prvOf l k) := by unfold oneM; rw [List.getElem?_eq_getElem hk]
  rw [hRM]
  have HR := Lib.hid (fun (h0 : 0 < l.length) ao c (he : v = .slice ao l.length c) => ins_lit (he ▸ hr) h0)
  obtain ⟨ao, c, rfl, -, -, -⟩ := hr
  obtain ⟨bb, oo, rfl, hbb, hcells⟩ := HR.out (by omega) ao c rfl
  have HCA := Lib.hid hcells
  have hc := fun j (hj : j < 5) => hcells k hk j hj
  clear hcells HR hRM
  obtain ⟨prv, hprv⟩ : ∃ n, n = prvOf l k := ⟨_, rfl⟩
  obtain ⟨nxt, hnxt⟩ : ∃ n, n = l[k + 1]? := ⟨_, rfl⟩
  rw [← hnxt, ← hprv]
  have HNX := Lib.hid hnxt
  have HPV := Lib.hid hprv
  generalize l[k] = x at *
  have c0 := hc 0 (by omega)
  have c1 := hc 1 (by omega)
  have c2 := hc 2 (by omega)
  have c3 := hc 3 (by omega)
  have c4 := hc 4 (by omega)
  simp only [Ins.cells, List.getElem?_cons_zero, List.getElem?_cons_succ, Nat.add_zero] at c0 c1 c2 c3 c4
  clear hc hnxt hprv
  have hof := Lib.hid (fun w' => rof_any x.op.toNat x.op.toNat_lt w')
  have HM := Lib.hid (show oneX x nxt prv = (if (partsN x.op.toNat).kind = 0 then false else if plainM x (namedM (partsN x.op.toNat)) = false then false else if writesM (partsN x.op.toNat).kind = true ∧ x.dst.toNat = 10 then false else if (partsN x.op.toNat).kind = 1 then constM (partsN x.op.toNat) x.imm.toInt else if (partsN x.op.toNat).kind = 4 then decide (0 ≤ argsM x.imm.toInt) else if (partsN x.op.toNat).kind = 8 then atomicM x.imm.toInt else if (partsN x.op.toNat).kind = 9 then wideM x nxt else if (partsN x.op.toNat).kind = 10 then prevM prv else true) from rfl)
  generalize oneX x nxt prv = R at *
  have HNA := Lib.hid (fun w' => rmay_any (partsN x.op.toNat) w')
  generalize partsN x.op.toNat = p at *
  obtain ⟨fld, hfld⟩ : ∃ fld, fld = namedM p := ⟨_, rfl⟩
  rw [← hfld] at HNA HM
  clear hfld
  obtain ⟨kind, op, size, long, reg⟩ := p
  obtain ⟨fd, fs, fo, fi⟩ := fld
  simp only [Prt.cells, Fld.cells] at hof HNA
  simp only at HM
  have HPL := Lib.hid (show plainM x ⟨fd, fs, fo, fi⟩ = (decide (x.dst.toNat < 11) && decide (x.src.toNat < 11) && (fd || decide (x.dst.toNat = 0)) && (fs || decide (x.src.toNat = 0)) && (fo || decide (x.off.toInt = 0)) && (fi || decide (x.imm.toInt = 0))) from rfl)
  generalize plainM x ⟨fd, fs, fo, fi⟩ = pl at *
  go_enter Try.func38, Try.ntmps38
  go_wp2_with fail
  have BX0 := Blk.new w 31 #[.int .u8 (x.op.toNat : Int), .int .u8 (x.dst.toNat : Int), .int .u8 (x.src.toNat : Int), .int .i16 x.off.toInt, .int .i32 x.imm.toInt]
  have x1 : Ext [] w (w.alloc (.cells #[.int .u8 (x.op.toNat : Int), .int .u8 (x.dst.toNat : Int), .int .u8 (x.src.toNat : Int), .int .i16 x.off.toInt, .int .i32 x.imm.toInt] 31)) := (Ext.refl _ _).alloc _
  generalize w.alloc (.cells #[.int .u8 (x.op.toNat : Int), .int .u8 (x.dst.toNat : Int), .int .u8 (x.src.toNat : Int), .int .i16 x.off.toInt, .int .i32 x.imm.toInt] 31) = w1 at *
  refine (hof.out w1).mono ?_
  rintro e w2 ⟨rfl, x12⟩
  have BX2 := BX0.ext x12 (by simp)
  have x2 := x1.trans x12
  clear BX0 x1 x12 c0 c1 c2 c3 c4
  go_upto_region 3 with (fail)
  have BP3 := Blk.new w2 45 #[.int .i64 (kind : Int), .int .i64 (op : Int), .int .i64 (size : Int), .bool long, .bool reg]
  have x23 : Ext [] w2 (w2.alloc (.cells #[.int .i64 (kind : Int), .int .i64 (op : Int), .int .i64 (size : Int), .bool long, .bool reg] 45)) := (Ext.refl _ _).alloc _
  have BX3 := BX2.ext x23 (by simp)
  have x3 := x2.trans x23
  obtain ⟨bx, hbx⟩ : ∃ b, b = w.heap.size := ⟨_, rfl⟩
  obtain ⟨bp, hbp⟩ : ∃ b, b = w2.heap.size := ⟨_, rfl⟩
  rw [← hbx] at BX3 ⊢
  rw [← hbp] at BP3 ⊢
  show Code.wp _ _ _ _ (w2.alloc (.cells #[.int .i64 (kind : Int), .int .i64 (op : Int), .int .i64 (size : Int), .bool long, .bool reg] 45))
  clear hbx hbp BX2 x23 x2
  generalize w2.alloc (.cells #[.int .i64 (kind : Int), .int .i64 (op : Int), .int .i64 (size : Int), .bool long, .bool reg] 45) = w3 at *
  have p0 := BP3.cell 0
  have p1 := BP3.cell 1
  have p2 := BP3.cell 2
  have p3 := BP3.cell 3
  have p4 := BP3.cell 4
  simp only [List.getElem?_cons_zero, List.getElem?_cons_succ] at p0 p1 p2 p3 p4
  go_wp2_with fail
  refine (HNA.out w3).mono ?_
  rintro e w4 ⟨rfl, x34⟩
  have BX4 := BX3.ext x34 (by simp)
  have BP4 := BP3.ext x34 (by simp)
  have x4 := x3.trans x34
  clear BX3 BP3 x34 x3 p0 p1 p2 p3 p4
  go_upto_region 4 with (fail)
  have BF := Blk.new w4 74 #[.bool fd, .bool fs, .bool fo, .bool fi]
  have x45 : Ext [] w4 (w4.alloc (.cells #[.bool fd, .bool fs, .bool fo, .bool fi] 74)) := (Ext.refl _ _).alloc _
  have BX := BX4.ext x45 (by simp)
  have BP := BP4.ext x45 (by simp)
  have x5 := x4.trans x45
  obtain ⟨bf, hbf⟩ : ∃ b, b = w4.heap.size := ⟨_, rfl⟩
  rw [← hbf] at BF ⊢
  show Code.wp _ _ _ _ (w4.alloc (.cells #[.bool fd, .bool fs, .bool fo, .bool fi] 74))
  clear hbf BX4 BP4 x45 x4
  generalize w4.alloc (.cells #[.bool fd, .bool fs, .bool fo, .bool fi] 74) = w5 at *
  have c0 := BX.cell 0
  have c1 := BX.cell 1
  have c2 := BX.cell 2
  have c3 := BX.cell 3
  have c4 := BX.cell 4
  have p0 := BP.cell 0
  have p1 := BP.cell 1
  have p2 := BP.cell 2
  have p3 := BP.cell 3
  have p4 := BP.cell 4
  have f0 := BF.cell 0
  have f1 := BF.cell 1
  have f2 := BF.cell 2
  have f3 := BF.cell 3
  simp only [List.getElem?_cons_zero, List.getElem?_cons_succ] at c0 c1 c2 c3 c4 p0 p1 p2 p3 p4 f0 f1 f2 f3
  clear BX BP BF hof HNA
  obtain ⟨b, hb⟩ : ∃ b, b = (decide (kind = 0) || !pl) := ⟨_, rfl⟩
  have HBB := Lib.hid hb
  clear hb
  refine wp_cut (fun a a' w' => w5 = w' ∧ ∃ u17 u18 u19 u20 u21 u22 u23 u24 u25 u26 u27 u28 u29 u30 u31 u32 u33 u34 u35 u36 u37 u38 u39 u40 u41 u42 u43 u44 u45 u46 u47 u48 u49 u50 u51 u52 u53 u54 u55 u56 u57 u58 u59 u60 u61 u62 u63 u64 u65 u66 u67 u68 : Value, a' = (((((((((((((((((((((((((((((((((((((((((((((((((((((a.put (some 17) u17).put (some 18) u18).put (some 19) u19).put (some 20) u20).put (some 21) u21).put (some 22) u22).put (some 23) u23).put (some 24) u24).put (some 25) u25).put (some 26) u26).put (some 27) u27).put (some 28) u28).put (some 29) u29).put (some 30) u30).put (some 31) u31).put (some 32) u32).put (some 33) u33).put (some 34) u34).put (some 35) u35).put (some 36) u36).put (some 37) u37).put (some 38) u38).put (some 39) u39).put (some 40) u40).put (some 41) u41).put (some 42) u42).put (some 43) u43).put (some 44) u44).put (some 45) u45).put (some 46) u46).put (some 47) u47).put (some 48) u48).put (some 49) u49).put (some 50) u50).put (some 51) u51).put (some 52) u52).put (some 53) u53).put (some 54) u54).put (some 55) u55).put (some 56) u56).put (some 57) u57).put (some 58) u58).put (some 59) u59).put (some 60) u60).put (some 61) u61).put (some 62) u62).put (some 63) u63).put (some 64) u64).put (some 65) u65).put (some 66) u66).put (some 67) u67).put (some 68) u68).put (some 69) (.bool b))) ?_ ?_
  · intro K hK
    have HKK := fun u17 u18 u19 u20 u21 u22 u23 u24 u25 u26 u27 u28 u29 u30 u31 u32 u33 u34 u35 u36 u37 u38 u39 u40 u41 u42 u43 u44 u45 u46 u47 u48 u49 u50 u51 u52 u53 u54 u55 u56 u57 u58 u59 u60 u61 u62 u63 u64 u65 u66 u67 u68 => hK.out _ _ ⟨rfl, u17, u18, u19, u20, u21, u22, u23, u24, u25, u26, u27, u28, u29, u30, u31, u32, u33, u34, u35, u36, u37, u38, u39, u40, u41, u42, u43, u44, u45, u46, u47, u48, u49, u50, u51, u52, u53, u54, u55, u56, u57, u58, u59, u60, u61, u62, u63, u64, u65, u66, u67, u68, rfl⟩
    clear hK
    simp only [Act.put, List.setIfInBounds_toArray, List.set_cons_zero, List.set_cons_succ] at HKK
    exact rone_A rfl x kind fd fs fo fi b bx bp bf w5 c1 c2 c3 c4 p0 f0 f1 f2 f3 (HBB.out.trans (by rw [HPL.out])) K _ _ _ _ _ _ _ _ _ _ _ _ _ _ HKK
  · rintro a' w' ⟨rfl, u17, u18, u19, u20, u21, u22, u23, u24, u25, u26, u27, u28, u29, u30, u31, u32, u33, u34, u35, u36, u37, u38, u39, u40, u41, u42, u43, u44, u45, u46, u47, u48, u49, u50, u51, u52, u53, u54, u55, u56, u57, u58, u59, u60, u61, u62, u63, u64, u65, u66, u67, u68, rfl⟩
    simp only [Act.put, List.setIfInBounds_toArray, List.set_cons_zero, List.set_cons_succ]
    clear f0 f1 f2 f3 HPL
    --<B
    cases b
    rotate_left 1
    · have HRT := Lib.hid (show R = false by
        rw [HM.out]
        by_cases h0 : kind = 0
        · rw [if_pos h0]
        · have := HBB.out
          rw [decide_eq_false h0, Bool.false_or] at this
          rw [if_neg h0, if_pos (by cases pl <;> simp at this ⊢)])
      clear HM HBB
      go_wp2_with fail
      go_ret
      exact ⟨by rw [HRT.out]; rfl, x5⟩
    obtain ⟨hk0, hpl⟩ : kind ≠ 0 ∧ pl = true := by
      have := HBB.out
      by_cases h0 : kind = 0
      · rw [decide_eq_true h0, Bool.true_or] at this; cases this
      · rw [decide_eq_false h0, Bool.false_or] at this
        exact ⟨h0, by cases pl <;> simp at this ⊢⟩
    subst hpl
    have HM1 := Lib.hid (show R = (if writesM kind = true ∧ x.dst.toNat = 10 then false else if kind = 1 then constM ⟨kind, op, size, long, reg⟩ x.imm.toInt else if kind = 4 then decide (0 ≤ argsM x.imm.toInt) else if kind = 8 then atomicM x.imm.toInt else if kind = 9 then wideM x nxt else if kind = 10 then prevM prv else true) by rw [HM.out, if_neg hk0, if_neg (by simp)])
    clear HM HBB
    by_cases hd10 : x.dst.toNat = 10 ∧ (kind = 1 ∨ kind = 6 ∨ kind = 9)
    · obtain ⟨hd10, hk⟩ := hd10
      have HRT := Lib.hid (show R = false by rw [HM1.out, if_pos ⟨by rcases hk with rfl | rfl | rfl <;> rfl, hd10⟩])
      rw [hd10] at c1
      clear HM1
      rcases hk with rfl | rfl | rfl
      all_goals
        go_wp2_with fail
        go_ret
        exact ⟨by rw [HRT.out]; rfl, x5⟩
    have HM2 := Lib.hid (show R = (if kind = 1 then constM ⟨kind, op, size, long, reg⟩ x.imm.toInt else if kind = 4 then decide (0 ≤ argsM x.imm.toInt) else if kind = 8 then atomicM x.imm.toInt else if kind = 9 then wideM x nxt else if kind = 10 then prevM prv else true) by
      rw [HM1.out, if_neg]
      rintro ⟨h1, h2⟩
      apply hd10
      refine ⟨h2, ?_⟩
      unfold writesM at h1
      simp only [Bool.or_eq_true, decide_eq_true_eq] at h1
      omega)
    clear HM1
    have hkk : kind = 1 ∨ kind = 4 ∨ kind = 8 ∨ kind = 9 ∨ kind = 10 ∨ kind = 6 ∨ (kind ≠ 1 ∧ kind ≠ 4 ∧ kind ≠ 8 ∧ kind ≠ 9 ∧ kind ≠ 10 ∧ kind ≠ 6) := by omega
    rcases hkk with rfl | rfl | rfl | rfl | rfl | rfl | ⟨k1, k4, k8, k9, k10, k6⟩
    · have q10 : ((x.dst.toNat : Int) == 10) = false := by rw [beq_eq_false_iff_ne]; intro h; exact hd10 ⟨by omega, .inl rfl⟩
      have HMR := Lib.hid (HM2.out.trans (show _ = (if reg then true else if op = 3 ∨ op = 9 then decide (x.imm.toInt ≠ 0) else if op = 6 ∨ op = 7 ∨ op = 12 then decide (0 ≤ x.imm.toInt) && decide (x.imm.toInt ≤ if long then 63 else 31) else true) from rfl))
      clear HM2 hd10 hk0
      generalize x.imm.toInt = imm at *
      cases reg
      · have hop : op = 3 ∨ op = 9 ∨ (op = 6 ∨ op = 7 ∨ op = 12) ∨ (op ≠ 3 ∧ op ≠ 9 ∧ op ≠ 6 ∧ op ≠ 7 ∧ op ≠ 12) := by omega
        have hz : (imm ≠ 0 ∧ imm < 0) ∨ imm = 0 ∨ (0 < imm ∧ imm ≤ 31) ∨ (31 < imm ∧ imm ≤ 63) ∨ 63 < imm := by omega
        rcases hop with rfl | rfl | h | ⟨k3, k9, k6, k7, k12⟩
        · by_cases hz0 : imm = 0
          · have q0 : (imm == 0) = true := by rw [beq_iff_eq]; exact hz0
            clear hz
            go_wp2_with fail
            go_ret
            exact ⟨by rw [HMR.out]; simp [hz0], x5⟩
          · have q0 : (imm == 0) = false := by rw [beq_eq_false_iff_ne]; exact hz0
            clear hz
            go_wp2_with fail
            go_ret
            exact ⟨by rw [HMR.out]; simp [hz0], x5⟩
        · by_cases hz0 : imm = 0
          · have q0 : (imm == 0) = true := by rw [beq_iff_eq]; exact hz0
            clear hz
            go_wp2_with fail
            go_ret
            exact ⟨by rw [HMR.out]; simp [hz0], x5⟩
          · have q0 : (imm == 0) = false := by rw [beq_eq_false_iff_ne]; exact hz0
            clear hz
            go_wp2_with fail
            go_ret
            exact ⟨by rw [HMR.out]; simp [hz0], x5⟩
        · rcases h with rfl | rfl | rfl <;> rcases hz with ⟨z0, zn⟩ | rfl | ⟨z0, z1⟩ | ⟨z0, z1⟩ | z0 <;> cases long
          all_goals
            try (have r1 : decide (0 ≤ imm) = true := decide_eq_true (by omega))
            try (have r1 : decide (0 ≤ imm) = false := decide_eq_false (by omega))
            try (have r2 : decide (imm ≤ 63) = true := decide_eq_true (by omega))
            try (have r2 : decide (imm ≤ 63) = false := decide_eq_false (by omega))
            try (have r3 : decide (imm ≤ 31) = true := decide_eq_true (by omega))
            try (have r3 : decide (imm ≤ 31) = false := decide_eq_false (by omega))
            go_wp2_with fail
            go_ret
            exact ⟨by rw [HMR.out]; simp [*] <;> omega, x5⟩
        · have e3 : ((op : Int) == 3) = false := by rw [beq_eq_false_iff_ne]; omega
          have e9 : ((op : Int) == 9) = false := by rw [beq_eq_false_iff_ne]; omega
          have e6 : ((op : Int) == 6) = false := by rw [beq_eq_false_iff_ne]; omega
          have e7 : ((op : Int) == 7) = false := by rw [beq_eq_false_iff_ne]; omega
          have e12 : ((op : Int) == 12) = false := by rw [beq_eq_false_iff_ne]; omega
          clear hz
          go_wp2_with fail
          go_ret
          exact ⟨by rw [HMR.out]; simp [k3, k9, k6, k7, k12], x5⟩
      · go_wp2_with fail
        go_ret
        exact ⟨by rw [HMR.out]; rfl, x5⟩
    · have HRT := Lib.hid (HM2.out.trans (show _ = decide (0 ≤ argsM x.imm.toInt) from rfl))
      have HRA := Lib.hid (fun w' => rargs_any x.imm.toInt w')
      clear HM2 hd10 hk0
      generalize argsM x.imm.toInt = A at *
      go_wp2_with fail
      refine (HRA.out w5).mono ?_
      rintro e w6 ⟨rfl, rfl⟩
      go_wp2_with fail
      go_ret
      exact ⟨by rw [HRT.out]; rfl, x5⟩
    · have HRT := Lib.hid (HM2.out.trans (show _ = (decide (x.imm.toInt = 0) || decide (x.imm.toInt = 64) || decide (x.imm.toInt = 80) || decide (x.imm.toInt = 160)) from rfl))
      clear HM2 hd10 hk0
      generalize x.imm.toInt = imm at *
      have hz : imm = 0 ∨ imm = 64 ∨ imm = 80 ∨ imm = 160 ∨ (imm ≠ 0 ∧ imm ≠ 64 ∧ imm ≠ 80 ∧ imm ≠ 160) := by omega
      rcases hz with rfl | rfl | rfl | rfl | ⟨z0, z1, z2, z3⟩
      · go_wp2_with fail
        go_ret
        exact ⟨by rw [HRT.out]; rfl, x5⟩
      · go_wp2_with fail
        go_ret
        exact ⟨by rw [HRT.out]; rfl, x5⟩
      · go_wp2_with fail
        go_ret
        exact ⟨by rw [HRT.out]; rfl, x5⟩
      · go_wp2_with fail
        go_ret
        exact ⟨by rw [HRT.out]; rfl, x5⟩
      · have e0 : (imm == 0) = false := by rw [beq_eq_false_iff_ne]; omega
        have e1 : (imm == 64) = false := by rw [beq_eq_false_iff_ne]; omega
        have e2 : (imm == 80) = false := by rw [beq_eq_false_iff_ne]; omega
        have e3 : (imm == 160) = false := by rw [beq_eq_false_iff_ne]; omega
        go_wp2_with fail
        go_ret
        exact ⟨by rw [HRT.out]; simp [z0, z1, z2, z3], x5⟩
    · have q10 : ((x.dst.toNat : Int) == 10) = false := by rw [beq_eq_false_iff_ne]; intro h; exact hd10 ⟨by omega, .inr (.inr rfl)⟩
      have HRT := Lib.hid (HM2.out.trans (show _ = wideM x nxt from rfl))
      clear HM2 hd10 hk0
      by_cases hn : k + 1 < l.length
      · have hd := fun j (hj : j < 5) => (x5.cell (p := ⟨bb, oo + (k + 1) * 5 + j, none⟩) hbb (by simp)).trans (HCA.out (k + 1) hn j hj)
        obtain ⟨y, hy⟩ : ∃ y, y = l[k + 1] := ⟨_, rfl⟩
        rw [← hy] at hd
        have hny : nxt = some y := by rw [HNX.out, hy, List.getElem?_eq_getElem hn]
        rw [hny] at HRT
        have HW := Lib.hid (HRT.out.trans (show _ = (decide (kindM y = 10) && decide (x.src.toNat ≤ 1) && (decide (x.src.toNat = 0) || (decide (0 ≤ x.imm.toInt) && decide (x.imm.toInt < 4) && decide (y.imm.toInt = 0)))) from rfl))
        clear HRT hny hy HNX HPV HCA
        have hcs : (kindM y ≠ 10 ∧ R = false) ∨ (kindM y = 10 ∧ 1 < x.src.toNat ∧ R = false) ∨ (kindM y = 10 ∧ x.src.toNat = 0 ∧ R = true) ∨ (kindM y = 10 ∧ x.src.toNat = 1 ∧ x.imm.toInt < 0 ∧ R = false) ∨ (kindM y = 10 ∧ x.src.toNat = 1 ∧ 0 ≤ x.imm.toInt ∧ 4 ≤ x.imm.toInt ∧ R = false) ∨ (kindM y = 10 ∧ x.src.toNat = 1 ∧ 0 ≤ x.imm.toInt ∧ x.imm.toInt < 4 ∧ y.imm.toInt = 0 ∧ R = true) ∨ (kindM y = 10 ∧ x.src.toNat = 1 ∧ 0 ≤ x.imm.toInt ∧ x.imm.toInt < 4 ∧ y.imm.toInt ≠ 0 ∧ R = false) := by
          rw [HW.out]
          by_cases a1 : kindM y = 10 <;> by_cases a2 : x.src.toNat ≤ 1 <;> by_cases a3 : x.src.toNat = 0 <;> by_cases a4 : 0 ≤ x.imm.toInt <;> by_cases a5 : x.imm.toInt < 4 <;> by_cases a6 : y.imm.toInt = 0 <;> simp [a1, a2, a3, a4, a5, a6] <;> omega
        clear HW
        have HKY := Lib.hid (fun w' => rof_any y.op.toNat y.op.toNat_lt w')
        have hkm : kindM y = (partsN y.op.toNat).kind := rfl
        rw [hkm] at hcs
        clear hkm
        generalize partsN y.op.toNat = py at *
        obtain ⟨ky, opy, sizey, longy, regy⟩ := py
        simp only [Prt.cells] at HKY
        simp only at hcs
        generalize hyo : y.op.toNat = yo at *
        have hk2 := x.src.toNat_lt
        generalize hxs : x.src.toNat = xs at *
        generalize hxi : x.imm.toInt = xi at *
        generalize hyi : y.imm.toInt = yi at *
        have d0 := hd 0 (by omega)
        have d4 := hd 4 (by omega)
        simp only [Ins.cells, List.getElem?_cons_zero, List.getElem?_cons_succ, Nat.add_zero, hyo, hyi] at d0 d4
        have n2 : ¬ ((l.length : Int) ≤ (k : Int) + 1) := by omega
        have n3 : ((k : Int) + 1).toNat = k + 1 := by omega
        have n1 : (k : Int) + 1 < (l.length : Int) := by omega
        have hfk := fun (k : Int) (b c d e : Value) (w : World) => (show (Instr.field 45 (.agg #[.int .i64 k, b, c, d, e]) 0).run Try.prog w = .ok (.int .i64 k) w from by kernel_rfl)
        clear hd hxs hxi hyi hyo
        have HE := Lib.hid (fun w' (h : Ext [] w5 w') => (show w'.cell? ⟨bx, 1, none⟩ = some (.int .u8 (x.dst.toNat : Int)) ∧ w'.cell? ⟨bx, 2, none⟩ = some (.int .u8 (xs : Int)) ∧ w'.cell? ⟨bx, 4, none⟩ = some (.int .i32 xi) ∧ w'.cell? ⟨bb, oo + (k + 1) * 5 + 4, none⟩ = some (.int .i32 yi) from
          ⟨(h.cell (World.block_lt_of_cell? _ _ c1) (by simp)).trans c1, (h.cell (World.block_lt_of_cell? _ _ c2) (by simp)).trans c2, (h.cell (World.block_lt_of_cell? _ _ c4) (by simp)).trans c4, (h.cell (World.block_lt_of_cell? _ _ d4) (by simp)).trans d4⟩))
        rcases hcs with ⟨k10, rfl⟩ | ⟨rfl, s1, rfl⟩ | ⟨rfl, rfl, rfl⟩ | ⟨rfl, rfl, i0, rfl⟩ | ⟨rfl, rfl, i0, i4, rfl⟩ | ⟨rfl, rfl, i0, i4, rfl, rfl⟩ | ⟨rfl, rfl, i0, i4, y0, rfl⟩
        all_goals
          try (have q10 : ((ky : Int) == 10) = false := by rw [beq_eq_false_iff_ne]; omega)
          try (have r10 : ((ky : Int) != 10) = true := by rw [bne_iff_ne]; omega)
          try (have qy : (yi == 0) = false := by rw [beq_eq_false_iff_ne]; omega)
          try (have q0 : ((xs : Int) == 0) = false := by rw [beq_eq_false_iff_ne]; omega)
          go_wp2_with fail
          refine (HKY.out w5).mono ?_
          rintro e w6 ⟨rfl, x6⟩
          obtain ⟨g1, g2, g4, g5⟩ := HE.out w6 x6
          go_wp2_with fail
          go_ret
          exact ⟨rfl, x5.trans x6⟩
      · have hny : nxt = none := by rw [HNX.out, List.getElem?_eq_none (by omega)]
        rw [hny] at HRT
        have n2 : (l.length : Int) ≤ (k : Int) + 1 := by omega
        clear hny HNX HPV HCA
        go_wp2_with fail
        go_ret
        exact ⟨by rw [HRT.out]; rfl, x5⟩
    · have HRT := Lib.hid (HM2.out.trans (show _ = prevM prv from rfl))
      clear HM2 hd10 hk0
      have HP2 := Lib.hid (HPV.out.trans (show _ = if k = 0 then none else l[k - 1]? from rfl))
      clear HPV HNX
      by_cases hk0 : k = 0
      · subst hk0
        have hp : prv = none := by rw [HP2.out]; rfl
        rw [hp] at HRT
        clear hp HP2 HCA
        go_wp2_with fail
        go_ret
        exact ⟨by rw [HRT.out]; rfl, x5⟩
      · obtain ⟨m, rfl⟩ : ∃ m, k = m + 1 := ⟨k - 1, by omega⟩
        have hm : m < l.length := by omega
        have hd := fun j (hj : j < 5) => (x5.cell (p := ⟨bb, oo + m * 5 + j, none⟩) hbb (by simp)).trans (HCA.out m hm j hj)
        obtain ⟨y, hy⟩ : ∃ y, y = l[m] := ⟨_, rfl⟩
        rw [← hy] at hd
        have hp : prv = some y := by rw [HP2.out, if_neg hk0, hy, Nat.add_sub_cancel, List.getElem?_eq_getElem hm]
        rw [hp] at HRT
        have HW := Lib.hid (HRT.out.trans (show _ = decide ((partsN y.op.toNat).kind = 9) from rfl))
        clear HRT hp hy HP2 HCA
        have HKY := Lib.hid (fun w' => rof_any y.op.toNat y.op.toNat_lt w')
        generalize partsN y.op.toNat = py at *
        obtain ⟨ky, opy, sizey, longy, regy⟩ := py
        simp only [Prt.cells] at HKY
        simp only at HW
        generalize hyo : y.op.toNat = yo at *
        have d0 := hd 0 (by omega)
        simp only [Ins.cells, List.getElem?_cons_zero, Nat.add_zero, hyo] at d0
        have n1 : ((m + 1 : Nat) : Int) - 1 = (m : Int) := by omega
        have n4 : (0 : Int) < ((m + 1 : Nat) : Int) := by omega
        have n5 : (m : Int) < (l.length : Int) := by omega
        have hfk := fun (k : Int) (b c d e : Value) (w : World) => (show (Instr.field 45 (.agg #[.int .i64 k, b, c, d, e]) 0).run Try.prog w = .ok (.int .i64 k) w from by kernel_rfl)
        clear hd hyo hk0
        by_cases h9 : ky = 9
        · subst h9
          go_wp2_with fail
          refine (HKY.out w5).mono ?_
          rintro e w6 ⟨rfl, x6⟩
          go_wp2_with fail
          go_ret
          exact ⟨by rw [HW.out]; rfl, x5.trans x6⟩
        · have q9 : ((ky : Int) == 9) = false := by rw [beq_eq_false_iff_ne]; omega
          go_wp2_with fail
          refine (HKY.out w5).mono ?_
          rintro e w6 ⟨rfl, x6⟩
          go_wp2_with fail
          go_ret
          exact ⟨by rw [HW.out, decide_eq_false h9]; rfl, x5.trans x6⟩
    · have q10 : ((x.dst.toNat : Int) == 10) = false := by rw [beq_eq_false_iff_ne]; intro h; exact hd10 ⟨by omega, .inr (.inl rfl)⟩
      have HRT := Lib.hid (HM2.out.trans (show _ = true from rfl))
      clear HM2 hd10 hk0
      go_wp2_with fail
      go_ret
      exact ⟨by rw [HRT.out]; rfl, x5⟩
    · have HRT := Lib.hid (HM2.out.trans (show _ = true by rw [if_neg k1, if_neg k4, if_neg k8, if_neg k9, if_neg k10]))
      have e1 : ((kind : Int) == 1) = false := by rw [beq_eq_false_iff_ne]; omega
      have e4 : ((kind : Int) == 4) = false := by rw [beq_eq_false_iff_ne]; omega
      have e6 : ((kind : Int) == 6) = false := by rw [beq_eq_false_iff_ne]; omega
      have e8 : ((kind : Int) == 8) = false := by rw [beq_eq_false_iff_ne]; omega
      have e9 : ((kind : Int) == 9) = false := by rw [beq_eq_false_iff_ne]; omega
      have e10 : ((kind : Int) == 10) = false := by rw [beq_eq_false_iff_ne]; omega
      clear HM2 hd10 hk0 k1 k4 k8 k9 k10 k6
      go_wp2_with fail
      go_ret
      exact ⟨by rw [HRT.out]; rfl, x5⟩
    --B>
end Go.Proofs.Ytooifaakflphpaa
