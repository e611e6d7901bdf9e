/- The law InsnOnes: the walk. -/
import Derived.Test.YtipcgebaihndgaaDecA
namespace Go.Proofs.Ytipcgebaihndgaa
open Go.RowKit

theorem m16_twice (x : Ins) : m16 (m16 x) = m16 x := by
  unfold m16
  simp only [UInt8.toNat_ofNat']
  congr 2 <;> omega

set_option maxHeartbeats 8000000 in
set_option maxRecDepth 100000 in
theorem iones_walk (x0 : Ins) (w : World) :
    Calls Try.prog 6 #[.agg x0.cells.toArray] w fun e w' => e = .returned (.bool true) ∧ Ext [] w w' := by
  have hcs := m16_cells x0
  have HM := Lib.hid (m16_twice x0)
  have HR := Lib.hid (show (m16 x0).dst.toNat < 16 ∧ (m16 x0).src.toNat < 16 by unfold m16; simp only [UInt8.toNat_ofNat']; omega)
  go_enter Try.func6, Try.ntmps6
  go_upto_region 1 with (fail)
  have BY := Blk.new w 32 x0.cells.toArray
  have x1 : Ext [] w (w.alloc (.cells x0.cells.toArray 32)) := (Ext.refl _ _).alloc _
  show Code.wp _ _ _ _ (w.alloc (.cells x0.cells.toArray 32))
  have hbl := BY.lt
  obtain ⟨by', hby⟩ : ∃ b, b = w.heap.size := ⟨_, rfl⟩
  have HBY := Lib.hid hby
  rw [← hby] at BY hbl
  rw [← hby]
  clear hby
  generalize w.alloc (.cells x0.cells.toArray 32) = w1 at *
  have d1 := BY.cell 1
  have d2 := BY.cell 2
  have f1 := BY.frozen 1
  have f2 := BY.frozen 2
  simp only [Ins.cells, List.getElem?_cons_zero, List.getElem?_cons_succ] at d1 d2
  go_upto_region 2 with (fail)
  have BY2 := (BY.set 1 (.int .u8 ((x0.dst.toNat : Int) % 16))).set 2 (.int .u8 ((x0.src.toNat : Int) % 16))
  have e2 : (x0.cells.set 1 (.int .u8 ((x0.dst.toNat : Int) % 16))).set 2 (.int .u8 ((x0.src.toNat : Int) % 16)) = (m16 x0).cells := by rw [m16_cells]; rfl
  rw [e2] at BY2
  have y2 : Ext [] w ((w1.setCell ⟨by', 1, none⟩ (.int .u8 ((x0.dst.toNat : Int) % 16))).setCell ⟨by', 2, none⟩ (.int .u8 ((x0.src.toNat : Int) % 16))) := (x1.setCell (.inr (by rw [HBY.out]; exact Nat.le_refl _)) _).setCell (.inr (by rw [HBY.out]; exact Nat.le_refl _)) _
  clear x1 BY d1 d2 f1 f2 e2 hcs
  generalize (w1.setCell ⟨by', 1, none⟩ (.int .u8 ((x0.dst.toNat : Int) % 16))).setCell ⟨by', 2, none⟩ (.int .u8 ((x0.src.toNat : Int) % 16)) = w2 at *
  generalize m16 x0 = y at *
  have d0 := BY2.cell 0
  have d1 := BY2.cell 1
  have d2 := BY2.cell 2
  have d3 := BY2.cell 3
  have d4 := BY2.cell 4
  simp only [Ins.cells, List.getElem?_cons_zero, List.getElem?_cons_succ] at d0 d1 d2 d3 d4
  go_wp2_with fail
  have BL := Blk.new w2 32 y.cells.toArray
  have x3 : Ext [] w2 (w2.alloc (.cells y.cells.toArray 32)) := (Ext.refl _ _).alloc _
  show Calls _ _ _ (w2.alloc (.cells y.cells.toArray 32)) _
  have BY3 := BY2.ext x3 (by simp)
  have y3 := y2.trans x3
  clear d0 d1 d2 d3 d4 BY2 y2 x3
  generalize w2.alloc (.cells y.cells.toArray 32) = w3 at *
  refine (encode_any _ [y] w3 (blk_reads (cs := insV [y]) (by rw [insV_one]; exact BL) 1 rfl) (by simp)).mono ?_
  rintro e w4 ⟨v4, rfl, hown4, x4, -⟩
  have henc : encL [y] = encI y := by simp [encL]
  have hdec := dec_enc [y]
  rw [henc] at hown4 hdec
  have BY4 := BY3.ext x4 (by simp)
  have y4 := y3.trans x4
  have hlen : (encI y).length = 8 := rfl
  obtain ⟨g4, p4, cur4, he4, -, hp4, hp4', -, -⟩ := owns_some hown4 (by rw [hlen]; omega)
  subst he4
  unfold maxLen at hp4'
  rw [hlen] at hp4
  go_wp2_with fail
  refine (decode_own (.slice (some ⟨g4, 0, none⟩) (encI y).length p4) (encI y) w4 hown4 (by rw [hlen]; omega)).mono ?_
  intro e w5 hp5
  unfold DecPost at hp5
  rw [if_pos (by rw [hlen]; omega), show (encI y).length / 8 = [y].length by rw [hlen]; rfl, hdec] at hp5
  obtain ⟨v5, rfl, hown5, x5⟩ := hp5
  rw [List.map_cons, List.map_nil, HM.out] at hown5
  obtain ⟨g5, p5, cur5, he5, -, hp5, hp5', -, -⟩ := owns_some hown5 (by simp)
  subst he5
  unfold maxLen at hp5'
  have BY5 := BY4.ext x5 (by simp)
  have hown45 := owns_ext hown4 x5 (by simp)
  have y5 := y4.trans x5
  go_wp2_with fail
  have hby : ∀ j (hj : j < 8), w5.cell? ⟨g4, j, none⟩ = some (.int .u8 (((encI y)[j]).toNat : Int)) := by
    intro j hj
    have hj' : j < (encI y).length := by rw [hlen]; exact hj
    rw [hown45.cellAt j (by omega), bytesV_at _ j hj']
    rw [List.getD_eq_getElem?_getD, List.getElem?_eq_getElem hj']
    rfl
  have c0 : w5.cell? ⟨g4, 0, none⟩ = some (.int .u8 (y.op.toNat : Int)) := hby 0 (by omega)
  have c1 : w5.cell? ⟨g4, 1, none⟩ = some (.int .u8 (bits .or .u8 (y.dst.toNat : Int) (IntKind.u8.wrap ((y.src.toNat : Int) * 16)))) := by
    rw [hby 1 (by omega), IntKind.wrap_u8]
    have h1 := dst_src y.dst y.src
    have h2 := and15 y.dst
    rw [h2] at h1
    have h3 : (UInt8.ofNat (y.dst.toNat % 16)).toNat = y.dst.toNat := by rw [UInt8.toNat_ofNat']; have := HR.out; omega
    rw [h3] at h1
    rw [h1]
    show some (Value.int .u8 ((UInt8.ofNat (y.dst.toNat % 16 + 16 * (y.src.toNat % 16))).toNat : Int)) = _
    rw [UInt8.toNat_ofNat', Nat.mod_eq_of_lt (by omega)]
  have c2 : w5.cell? ⟨g4, 2, none⟩ = some (.int .u8 (IntKind.u8.wrap y.off.toInt)) := by
    rw [hby 2 (by omega), IntKind.wrap_u8, off_lo]
    exact congrArg some (byte_val y.off.toNat)
  have c3 : w5.cell? ⟨g4, 3, none⟩ = some (.int .u8 (IntKind.u8.wrap (y.off.toInt / 256))) := by
    rw [hby 3 (by omega), IntKind.wrap_u8, off_hi]
    exact congrArg some (byte_val (y.off.toNat / 256))
  have c4 : w5.cell? ⟨g4, 4, none⟩ = some (.int .u8 (IntKind.u8.wrap y.imm.toInt)) := by
    have h := imm_at y.imm 0 (by omega)
    simp only [Nat.mul_zero, Int.pow_zero, Int.ediv_one, Nat.pow_zero, Nat.div_one] at h
    rw [hby 4 (by omega), IntKind.wrap_u8, h]
    exact congrArg some (byte_val y.imm.toNat)
  have c7 : w5.cell? ⟨g4, 7, none⟩ = some (.int .u8 (IntKind.u8.wrap (y.imm.toInt / 16777216))) := by
    have h := imm_at y.imm 3 (by omega)
    rw [hby 7 (by omega), IntKind.wrap_u8, show y.imm.toInt / 16777216 % 256 = y.imm.toInt / 2 ^ (8 * 3) % 256 from rfl, h]
    exact congrArg some (byte_val (y.imm.toNat / 16777216))
  have d0 := BY5.cell 0
  have d1 := BY5.cell 1
  have d2 := BY5.cell 2
  have d3 := BY5.cell 3
  have d4 := BY5.cell 4
  simp only [Ins.cells, List.getElem?_cons_zero, List.getElem?_cons_succ] at d0 d1 d2 d3 d4
  have hg5 : ∀ j (hj : j < 5), w5.cell? ⟨g5, j, none⟩ = y.cells[j]? := by
    intro j hj
    have hj' : j < y.cells.length := by rw [cells_length]; exact hj
    have h := hown5.cells (g := g5) rfl j y.cells[j] (by rw [insV_one]; exact List.getElem?_eq_getElem hj')
    rw [Addr.add_lit, Nat.zero_add] at h
    rw [h, List.getElem?_eq_getElem hj']
  have e0 := hg5 0 (by omega)
  have e1 := hg5 1 (by omega)
  have e2 := hg5 2 (by omega)
  have e3 := hg5 3 (by omega)
  have e4 := hg5 4 (by omega)
  simp only [Ins.cells, List.getElem?_cons_zero, List.getElem?_cons_succ] at e0 e1 e2 e3 e4
  have hq := fun w => eql_insn y y w
  rw [decide_eq_true (rfl : y = y)] at hq
  unfold Ins.cells at hq
  have hg4l : g4 < w5.heap.size := World.block_lt_of_cell? w5 _ c0
  have hg5l : g5 < w5.heap.size := World.block_lt_of_cell? w5 _ e0
  have hbyl : by' < w5.heap.size := BY5.lt
  have HB := Lib.hid (fun w' (h : Ext [] w5 w') => (show w'.cell? ⟨g4, 0, none⟩ = some (.int .u8 (y.op.toNat : Int)) ∧ w'.cell? ⟨g4, 1, none⟩ = some (.int .u8 (bits .or .u8 (y.dst.toNat : Int) (IntKind.u8.wrap ((y.src.toNat : Int) * 16)))) ∧ w'.cell? ⟨g4, 2, none⟩ = some (.int .u8 (IntKind.u8.wrap y.off.toInt)) ∧ w'.cell? ⟨g4, 3, none⟩ = some (.int .u8 (IntKind.u8.wrap (y.off.toInt / 256))) ∧ w'.cell? ⟨g4, 4, none⟩ = some (.int .u8 (IntKind.u8.wrap y.imm.toInt)) ∧ w'.cell? ⟨g4, 7, none⟩ = some (.int .u8 (IntKind.u8.wrap (y.imm.toInt / 16777216))) ∧
      w'.cell? ⟨by', 0, none⟩ = some (.int .u8 (y.op.toNat : Int)) ∧ w'.cell? ⟨by', 1, none⟩ = some (.int .u8 (y.dst.toNat : Int)) ∧ w'.cell? ⟨by', 2, none⟩ = some (.int .u8 (y.src.toNat : Int)) ∧ w'.cell? ⟨by', 3, none⟩ = some (.int .i16 y.off.toInt) ∧ w'.cell? ⟨by', 4, none⟩ = some (.int .i32 y.imm.toInt) ∧
      w'.cell? ⟨g5, 0, none⟩ = some (.int .u8 (y.op.toNat : Int)) ∧ w'.cell? ⟨g5, 1, none⟩ = some (.int .u8 (y.dst.toNat : Int)) ∧ w'.cell? ⟨g5, 2, none⟩ = some (.int .u8 (y.src.toNat : Int)) ∧ w'.cell? ⟨g5, 3, none⟩ = some (.int .i16 y.off.toInt) ∧ w'.cell? ⟨g5, 4, none⟩ = some (.int .i32 y.imm.toInt) from
    ⟨(h.cell (p := ⟨g4, 0, none⟩) hg4l (by simp)).trans c0, (h.cell (p := ⟨g4, 1, none⟩) hg4l (by simp)).trans c1, (h.cell (p := ⟨g4, 2, none⟩) hg4l (by simp)).trans c2, (h.cell (p := ⟨g4, 3, none⟩) hg4l (by simp)).trans c3, (h.cell (p := ⟨g4, 4, none⟩) hg4l (by simp)).trans c4, (h.cell (p := ⟨g4, 7, none⟩) hg4l (by simp)).trans c7,
     (h.cell (p := ⟨by', 0, none⟩) hbyl (by simp)).trans d0, (h.cell (p := ⟨by', 1, none⟩) hbyl (by simp)).trans d1, (h.cell (p := ⟨by', 2, none⟩) hbyl (by simp)).trans d2, (h.cell (p := ⟨by', 3, none⟩) hbyl (by simp)).trans d3, (h.cell (p := ⟨by', 4, none⟩) hbyl (by simp)).trans d4,
     (h.cell (p := ⟨g5, 0, none⟩) hg5l (by simp)).trans e0, (h.cell (p := ⟨g5, 1, none⟩) hg5l (by simp)).trans e1, (h.cell (p := ⟨g5, 2, none⟩) hg5l (by simp)).trans e2, (h.cell (p := ⟨g5, 3, none⟩) hg5l (by simp)).trans e3, (h.cell (p := ⟨g5, 4, none⟩) hg5l (by simp)).trans e4⟩))
  have CP := Lib.hid (fun w' (h : Ext [] w5 w') => (parts_any w').mono (fun e w'' ⟨he, hx'⟩ => (show e = Ending.returned (.bool true) ∧ Ext [] w5 w'' from ⟨he, h.trans hx'⟩)))
  have hstart : Ext [] w5 w5.drew := (Ext.refl _ _).drew
  clear hby hg5 hown4 hown5 hown45 c0 c1 c2 c3 c4 c7 d0 d1 d2 d3 d4 e0 e1 e2 e3 e4 BY5 BY4 BY3 BL
  refine wp_region_held_drew (S := fun w' => Ext [] w5 w') (by kernel_rfl) hstart (fun _ => ?_)
  refine wpAnyH_ready (rs := [0]) (by kernel_rfl) (by simp) ?_
  refine AllReadyH.cons (o := ⟨some 22, _, _, _, _, _⟩) rfl (fun K hK => ?_) AllReadyH.nil
  go_simp
  refine (CP.out _ (by assumption)).mono ?_
  rintro e w' ⟨rfl, hk⟩
  go_simp
  refine hK.out _ _ (by assumption) (fun _ => ?_)
  clear hK K
  try simp only [Act.put, List.setIfInBounds_toArray, List.set_cons_zero, List.set_cons_succ]
  refine wpAnyH_take (i := 1) (oi := ⟨some 23, _, _, _, _, _⟩) (v := ?_) rfl (by kernel_rfl) (by kernel_rfl) (by kernel_rfl) (fun _ _ _ h => h) (Or.inl ⟨by rfl, ?_⟩) (by assumption) ?_
  rotate_left 1
  · (intro w hSw; (try dsimp only at hSw); go_split_ands; obtain ⟨c0, c1, c2, c3, c4, c7, d0, d1, d2, d3, d4, e0, e1, e2, e3, e4⟩ := HB.out w (by assumption); go_simp; (try with_reducible rfl))
  try simp only [Act.put, List.setIfInBounds_toArray, List.set_cons_zero, List.set_cons_succ]
  refine wpAnyH_take (i := 2) (oi := ⟨some 24, _, _, _, _, _⟩) (v := ?_) rfl (by kernel_rfl) (by kernel_rfl) (by kernel_rfl) (fun _ _ _ h => h) (Or.inl ⟨by rfl, ?_⟩) (by assumption) ?_
  rotate_left 1
  · (intro w hSw; (try dsimp only at hSw); go_split_ands; obtain ⟨c0, c1, c2, c3, c4, c7, d0, d1, d2, d3, d4, e0, e1, e2, e3, e4⟩ := HB.out w (by assumption); go_simp; (try with_reducible rfl))
  try simp only [Act.put, List.setIfInBounds_toArray, List.set_cons_zero, List.set_cons_succ]
  refine wpAnyH_take (i := 3) (oi := ⟨some 25, _, _, _, _, _⟩) (v := ?_) rfl (by kernel_rfl) (by kernel_rfl) (by kernel_rfl) (fun _ _ _ h => h) (Or.inl ⟨by rfl, ?_⟩) (by assumption) ?_
  rotate_left 1
  · (intro w hSw; (try dsimp only at hSw); go_split_ands; obtain ⟨c0, c1, c2, c3, c4, c7, d0, d1, d2, d3, d4, e0, e1, e2, e3, e4⟩ := HB.out w (by assumption); go_simp; (try with_reducible rfl))
  try simp only [Act.put, List.setIfInBounds_toArray, List.set_cons_zero, List.set_cons_succ]
  refine wpAnyH_take (i := 4) (oi := ⟨some 26, _, _, _, _, _⟩) (v := ?_) rfl (by kernel_rfl) (by kernel_rfl) (by kernel_rfl) (fun _ _ _ h => h) (Or.inl ⟨by rfl, ?_⟩) (by assumption) ?_
  rotate_left 1
  · (intro w hSw; (try dsimp only at hSw); go_split_ands; obtain ⟨c0, c1, c2, c3, c4, c7, d0, d1, d2, d3, d4, e0, e1, e2, e3, e4⟩ := HB.out w (by assumption); go_simp; (try with_reducible rfl))
  try simp only [Act.put, List.setIfInBounds_toArray, List.set_cons_zero, List.set_cons_succ]
  refine wpAnyH_take (i := 5) (oi := ⟨some 27, _, _, _, _, _⟩) (v := ?_) rfl (by kernel_rfl) (by kernel_rfl) (by kernel_rfl) (fun _ _ _ h => h) (Or.inl ⟨by rfl, ?_⟩) (by assumption) ?_
  rotate_left 1
  · (intro w hSw; (try dsimp only at hSw); go_split_ands; obtain ⟨c0, c1, c2, c3, c4, c7, d0, d1, d2, d3, d4, e0, e1, e2, e3, e4⟩ := HB.out w (by assumption); go_simp; (try with_reducible rfl))
  try simp only [Act.put, List.setIfInBounds_toArray, List.set_cons_zero, List.set_cons_succ]
  refine wpAnyH_take (i := 6) (oi := ⟨some 28, _, _, _, _, _⟩) (v := ?_) rfl (by kernel_rfl) (by kernel_rfl) (by kernel_rfl) (fun _ _ _ h => h) (Or.inl ⟨by rfl, ?_⟩) (by assumption) ?_
  rotate_left 1
  · (intro w hSw; (try dsimp only at hSw); go_split_ands; obtain ⟨c0, c1, c2, c3, c4, c7, d0, d1, d2, d3, d4, e0, e1, e2, e3, e4⟩ := HB.out w (by assumption); go_simp; (try with_reducible rfl))
  try simp only [Act.put, List.setIfInBounds_toArray, List.set_cons_zero, List.set_cons_succ]
  refine wpAnyH_take (i := 7) (oi := ⟨some 29, _, _, _, _, _⟩) (v := ?_) rfl (by kernel_rfl) (by kernel_rfl) (by kernel_rfl) (fun _ _ _ h => h) (Or.inl ⟨by rfl, ?_⟩) (by assumption) ?_
  rotate_left 1
  · (intro w hSw; (try dsimp only at hSw); go_split_ands; obtain ⟨c0, c1, c2, c3, c4, c7, d0, d1, d2, d3, d4, e0, e1, e2, e3, e4⟩ := HB.out w (by assumption); go_simp; (try with_reducible rfl))
  try simp only [Act.put, List.setIfInBounds_toArray, List.set_cons_zero, List.set_cons_succ]
  refine wpAnyH_take (i := 8) (oi := ⟨some 30, _, _, _, _, _⟩) (v := ?_) rfl (by kernel_rfl) (by kernel_rfl) (by kernel_rfl) (fun _ _ _ h => h) (Or.inl ⟨by rfl, ?_⟩) (by assumption) ?_
  rotate_left 1
  · (intro w hSw; (try dsimp only at hSw); go_split_ands; obtain ⟨c0, c1, c2, c3, c4, c7, d0, d1, d2, d3, d4, e0, e1, e2, e3, e4⟩ := HB.out w (by assumption); go_simp; (try with_reducible rfl))
  try simp only [Act.put, List.setIfInBounds_toArray, List.set_cons_zero, List.set_cons_succ]
  refine wpAnyH_take (i := 9) (oi := ⟨some 31, _, _, _, _, _⟩) (v := ?_) rfl (by kernel_rfl) (by kernel_rfl) (by kernel_rfl) (fun _ _ _ h => h) (Or.inl ⟨by rfl, ?_⟩) (by assumption) ?_
  rotate_left 1
  · (intro w hSw; (try dsimp only at hSw); go_split_ands; obtain ⟨c0, c1, c2, c3, c4, c7, d0, d1, d2, d3, d4, e0, e1, e2, e3, e4⟩ := HB.out w (by assumption); go_simp; (try with_reducible rfl))
  try simp only [Act.put, List.setIfInBounds_toArray, List.set_cons_zero, List.set_cons_succ]
  refine wpAnyH_take (i := 10) (oi := ⟨some 32, _, _, _, _, _⟩) (v := ?_) rfl (by kernel_rfl) (by kernel_rfl) (by kernel_rfl) (fun _ _ _ h => h) (Or.inl ⟨by rfl, ?_⟩) (by assumption) ?_
  rotate_left 1
  · (intro w hSw; (try dsimp only at hSw); go_split_ands; obtain ⟨c0, c1, c2, c3, c4, c7, d0, d1, d2, d3, d4, e0, e1, e2, e3, e4⟩ := HB.out w (by assumption); go_simp; (try with_reducible rfl))
  try simp only [Act.put, List.setIfInBounds_toArray, List.set_cons_zero, List.set_cons_succ]
  refine wpAnyH_take (i := 11) (oi := ⟨some 33, _, _, _, _, _⟩) (v := ?_) rfl (by kernel_rfl) (by kernel_rfl) (by kernel_rfl) (fun _ _ _ h => h) (Or.inl ⟨by rfl, ?_⟩) (by assumption) ?_
  rotate_left 1
  · (intro w hSw; (try dsimp only at hSw); go_split_ands; obtain ⟨c0, c1, c2, c3, c4, c7, d0, d1, d2, d3, d4, e0, e1, e2, e3, e4⟩ := HB.out w (by assumption); go_simp; (try with_reducible rfl))
  try simp only [Act.put, List.setIfInBounds_toArray, List.set_cons_zero, List.set_cons_succ]
  refine wpAnyH_take (i := 12) (oi := ⟨some 34, _, _, _, _, _⟩) (v := ?_) rfl (by kernel_rfl) (by kernel_rfl) (by kernel_rfl) (fun _ _ _ h => h) (Or.inl ⟨by rfl, ?_⟩) (by assumption) ?_
  rotate_left 1
  · (intro w hSw; (try dsimp only at hSw); go_split_ands; obtain ⟨c0, c1, c2, c3, c4, c7, d0, d1, d2, d3, d4, e0, e1, e2, e3, e4⟩ := HB.out w (by assumption); go_simp; (try with_reducible rfl))
  try simp only [Act.put, List.setIfInBounds_toArray, List.set_cons_zero, List.set_cons_succ]
  refine wpAnyH_take (i := 13) (oi := ⟨some 35, _, _, _, _, _⟩) (v := ?_) rfl (by kernel_rfl) (by kernel_rfl) (by kernel_rfl) (fun _ _ _ h => h) (Or.inl ⟨by rfl, ?_⟩) (by assumption) ?_
  rotate_left 1
  · (intro w hSw; (try dsimp only at hSw); go_split_ands; obtain ⟨c0, c1, c2, c3, c4, c7, d0, d1, d2, d3, d4, e0, e1, e2, e3, e4⟩ := HB.out w (by assumption); go_simp; (try with_reducible rfl))
  try simp only [Act.put, List.setIfInBounds_toArray, List.set_cons_zero, List.set_cons_succ]
  refine wpAnyH_take (i := 14) (oi := ⟨some 36, _, _, _, _, _⟩) (v := ?_) rfl (by kernel_rfl) (by kernel_rfl) (by kernel_rfl) (fun _ _ _ h => h) (Or.inl ⟨by rfl, ?_⟩) (by assumption) ?_
  rotate_left 1
  · (intro w hSw; (try dsimp only at hSw); go_split_ands; obtain ⟨c0, c1, c2, c3, c4, c7, d0, d1, d2, d3, d4, e0, e1, e2, e3, e4⟩ := HB.out w (by assumption); go_simp; (try with_reducible rfl))
  try simp only [Act.put, List.setIfInBounds_toArray, List.set_cons_zero, List.set_cons_succ]
  refine wpAnyH_take (i := 15) (oi := ⟨some 37, _, _, _, _, _⟩) (v := ?_) rfl (by kernel_rfl) (by kernel_rfl) (by kernel_rfl) (fun _ _ _ h => h) (Or.inl ⟨by rfl, ?_⟩) (by assumption) ?_
  rotate_left 1
  · (intro w hSw; (try dsimp only at hSw); go_split_ands; obtain ⟨c0, c1, c2, c3, c4, c7, d0, d1, d2, d3, d4, e0, e1, e2, e3, e4⟩ := HB.out w (by assumption); go_simp; (try with_reducible rfl))
  try simp only [Act.put, List.setIfInBounds_toArray, List.set_cons_zero, List.set_cons_succ]
  refine wpAnyH_take (i := 16) (oi := ⟨some 38, _, _, _, _, _⟩) (v := ?_) rfl (by kernel_rfl) (by kernel_rfl) (by kernel_rfl) (fun _ _ _ h => h) (Or.inl ⟨by rfl, ?_⟩) (by assumption) ?_
  rotate_left 1
  · (intro w hSw; (try dsimp only at hSw); go_split_ands; obtain ⟨c0, c1, c2, c3, c4, c7, d0, d1, d2, d3, d4, e0, e1, e2, e3, e4⟩ := HB.out w (by assumption); go_simp; (try with_reducible rfl))
  try simp only [Act.put, List.setIfInBounds_toArray, List.set_cons_zero, List.set_cons_succ]
  refine wpAnyH_take (i := 17) (oi := ⟨some 39, _, _, _, _, _⟩) (v := ?_) rfl (by kernel_rfl) (by kernel_rfl) (by kernel_rfl) (fun _ _ _ h => h) (Or.inl ⟨by rfl, ?_⟩) (by assumption) ?_
  rotate_left 1
  · (intro w hSw; (try dsimp only at hSw); go_split_ands; obtain ⟨c0, c1, c2, c3, c4, c7, d0, d1, d2, d3, d4, e0, e1, e2, e3, e4⟩ := HB.out w (by assumption); go_simp; (try with_reducible rfl))
  try simp only [Act.put, List.setIfInBounds_toArray, List.set_cons_zero, List.set_cons_succ]
  refine wpAnyH_take (i := 18) (oi := ⟨some 40, _, _, _, _, _⟩) (v := ?_) rfl (by kernel_rfl) (by kernel_rfl) (by kernel_rfl) (fun _ _ _ h => h) (Or.inl ⟨by rfl, ?_⟩) (by assumption) ?_
  rotate_left 1
  · (intro w hSw; (try dsimp only at hSw); go_split_ands; obtain ⟨c0, c1, c2, c3, c4, c7, d0, d1, d2, d3, d4, e0, e1, e2, e3, e4⟩ := HB.out w (by assumption); go_simp; (try with_reducible rfl))
  try simp only [Act.put, List.setIfInBounds_toArray, List.set_cons_zero, List.set_cons_succ]
  refine wpAnyH_take (i := 19) (oi := ⟨some 41, _, _, _, _, _⟩) (v := ?_) rfl (by kernel_rfl) (by kernel_rfl) (by kernel_rfl) (fun _ _ _ h => h) (Or.inl ⟨by rfl, ?_⟩) (by assumption) ?_
  rotate_left 1
  · (intro w hSw; (try dsimp only at hSw); go_split_ands; obtain ⟨c0, c1, c2, c3, c4, c7, d0, d1, d2, d3, d4, e0, e1, e2, e3, e4⟩ := HB.out w (by assumption); go_simp; (try with_reducible rfl))
  try simp only [Act.put, List.setIfInBounds_toArray, List.set_cons_zero, List.set_cons_succ]
  refine wpAnyH_take (i := 20) (oi := ⟨some 42, _, _, _, _, _⟩) (v := ?_) rfl (by kernel_rfl) (by kernel_rfl) (by kernel_rfl) (fun _ _ _ h => h) (Or.inl ⟨by rfl, ?_⟩) (by assumption) ?_
  rotate_left 1
  · (intro w hSw; (try dsimp only at hSw); go_split_ands; obtain ⟨c0, c1, c2, c3, c4, c7, d0, d1, d2, d3, d4, e0, e1, e2, e3, e4⟩ := HB.out w (by assumption); go_simp; (try with_reducible rfl))
  try simp only [Act.put, List.setIfInBounds_toArray, List.set_cons_zero, List.set_cons_succ]
  refine wpAnyH_take (i := 21) (oi := ⟨some 43, _, _, _, _, _⟩) (v := ?_) rfl (by kernel_rfl) (by kernel_rfl) (by kernel_rfl) (fun _ _ _ h => h) (Or.inl ⟨by rfl, ?_⟩) (by assumption) ?_
  rotate_left 1
  · (intro w hSw; (try dsimp only at hSw); go_split_ands; obtain ⟨c0, c1, c2, c3, c4, c7, d0, d1, d2, d3, d4, e0, e1, e2, e3, e4⟩ := HB.out w (by assumption); go_simp; (try with_reducible rfl))
  try simp only [Act.put, List.setIfInBounds_toArray, List.set_cons_zero, List.set_cons_succ]
  refine wpAnyH_take (i := 22) (oi := ⟨some 44, _, _, _, _, _⟩) (v := ?_) rfl (by kernel_rfl) (by kernel_rfl) (by kernel_rfl) (fun _ _ _ h => h) (Or.inl ⟨by rfl, ?_⟩) (by assumption) ?_
  rotate_left 1
  · (intro w hSw; (try dsimp only at hSw); go_split_ands; obtain ⟨c0, c1, c2, c3, c4, c7, d0, d1, d2, d3, d4, e0, e1, e2, e3, e4⟩ := HB.out w (by assumption); go_simp; (try with_reducible rfl))
  try simp only [Act.put, List.setIfInBounds_toArray, List.set_cons_zero, List.set_cons_succ]
  refine wpAnyH_take (i := 23) (oi := ⟨some 45, _, _, _, _, _⟩) (v := ?_) rfl (by kernel_rfl) (by kernel_rfl) (by kernel_rfl) (fun _ _ _ h => h) (Or.inl ⟨by rfl, ?_⟩) (by assumption) ?_
  rotate_left 1
  · (intro w hSw; (try dsimp only at hSw); go_split_ands; obtain ⟨c0, c1, c2, c3, c4, c7, d0, d1, d2, d3, d4, e0, e1, e2, e3, e4⟩ := HB.out w (by assumption); go_simp; (try with_reducible rfl))
  try simp only [Act.put, List.setIfInBounds_toArray, List.set_cons_zero, List.set_cons_succ]
  refine wpAnyH_take (i := 24) (oi := ⟨some 46, _, _, _, _, _⟩) (v := ?_) rfl (by kernel_rfl) (by kernel_rfl) (by kernel_rfl) (fun _ _ _ h => h) (Or.inl ⟨by rfl, ?_⟩) (by assumption) ?_
  rotate_left 1
  · (intro w hSw; (try dsimp only at hSw); go_split_ands; obtain ⟨c0, c1, c2, c3, c4, c7, d0, d1, d2, d3, d4, e0, e1, e2, e3, e4⟩ := HB.out w (by assumption); go_simp; (try with_reducible rfl))
  try simp only [Act.put, List.setIfInBounds_toArray, List.set_cons_zero, List.set_cons_succ]
  refine wpAnyH_take (i := 25) (oi := ⟨some 47, _, _, _, _, _⟩) (v := ?_) rfl (by kernel_rfl) (by kernel_rfl) (by kernel_rfl) (fun _ _ _ h => h) (Or.inl ⟨by rfl, ?_⟩) (by assumption) ?_
  rotate_left 1
  · (intro w hSw; (try dsimp only at hSw); go_split_ands; obtain ⟨c0, c1, c2, c3, c4, c7, d0, d1, d2, d3, d4, e0, e1, e2, e3, e4⟩ := HB.out w (by assumption); go_simp; (try with_reducible rfl))
  try simp only [Act.put, List.setIfInBounds_toArray, List.set_cons_zero, List.set_cons_succ]
  refine wpAnyH_take (i := 26) (oi := ⟨some 48, _, _, _, _, _⟩) (v := ?_) rfl (by kernel_rfl) (by kernel_rfl) (by kernel_rfl) (fun _ _ _ h => h) (Or.inl ⟨by rfl, ?_⟩) (by assumption) ?_
  rotate_left 1
  · (intro w hSw; (try dsimp only at hSw); go_split_ands; obtain ⟨c0, c1, c2, c3, c4, c7, d0, d1, d2, d3, d4, e0, e1, e2, e3, e4⟩ := HB.out w (by assumption); go_simp; (try with_reducible rfl))
  try simp only [Act.put, List.setIfInBounds_toArray, List.set_cons_zero, List.set_cons_succ]
  refine wpAnyH_take (i := 27) (oi := ⟨some 49, _, _, _, _, _⟩) (v := ?_) rfl (by kernel_rfl) (by kernel_rfl) (by kernel_rfl) (fun _ _ _ h => h) (Or.inl ⟨by rfl, ?_⟩) (by assumption) ?_
  rotate_left 1
  · (intro w hSw; (try dsimp only at hSw); go_split_ands; obtain ⟨c0, c1, c2, c3, c4, c7, d0, d1, d2, d3, d4, e0, e1, e2, e3, e4⟩ := HB.out w (by assumption); go_simp; (try with_reducible rfl))
  try simp only [Act.put, List.setIfInBounds_toArray, List.set_cons_zero, List.set_cons_succ]
  refine wpAnyH_take (i := 28) (oi := ⟨some 50, _, _, _, _, _⟩) (v := ?_) rfl (by kernel_rfl) (by kernel_rfl) (by kernel_rfl) (fun _ _ _ h => h) (Or.inl ⟨by rfl, ?_⟩) (by assumption) ?_
  rotate_left 1
  · (intro w hSw; (try dsimp only at hSw); go_split_ands; obtain ⟨c0, c1, c2, c3, c4, c7, d0, d1, d2, d3, d4, e0, e1, e2, e3, e4⟩ := HB.out w (by assumption); go_simp; (try with_reducible rfl))
  try simp only [Act.put, List.setIfInBounds_toArray, List.set_cons_zero, List.set_cons_succ]
  refine wpAnyH_take (i := 29) (oi := ⟨some 51, _, _, _, _, _⟩) (v := ?_) rfl (by kernel_rfl) (by kernel_rfl) (by kernel_rfl) (fun _ _ _ h => h) (Or.inl ⟨by rfl, ?_⟩) (by assumption) ?_
  rotate_left 1
  · (intro w hSw; (try dsimp only at hSw); go_split_ands; obtain ⟨c0, c1, c2, c3, c4, c7, d0, d1, d2, d3, d4, e0, e1, e2, e3, e4⟩ := HB.out w (by assumption); go_simp; (try with_reducible rfl))
  try simp only [Act.put, List.setIfInBounds_toArray, List.set_cons_zero, List.set_cons_succ]
  refine wpAnyH_take (i := 30) (oi := ⟨some 52, _, _, _, _, _⟩) (v := ?_) rfl (by kernel_rfl) (by kernel_rfl) (by kernel_rfl) (fun _ _ _ h => h) (Or.inl ⟨by rfl, ?_⟩) (by assumption) ?_
  rotate_left 1
  · (intro w hSw; (try dsimp only at hSw); go_split_ands; obtain ⟨c0, c1, c2, c3, c4, c7, d0, d1, d2, d3, d4, e0, e1, e2, e3, e4⟩ := HB.out w (by assumption); go_simp; (try with_reducible rfl))
  try simp only [Act.put, List.setIfInBounds_toArray, List.set_cons_zero, List.set_cons_succ]
  refine wpAnyH_take (i := 31) (oi := ⟨some 53, _, _, _, _, _⟩) (v := ?_) rfl (by kernel_rfl) (by kernel_rfl) (by kernel_rfl) (fun _ _ _ h => h) (Or.inl ⟨by rfl, ?_⟩) (by assumption) ?_
  rotate_left 1
  · (intro w hSw; (try dsimp only at hSw); go_split_ands; obtain ⟨c0, c1, c2, c3, c4, c7, d0, d1, d2, d3, d4, e0, e1, e2, e3, e4⟩ := HB.out w (by assumption); go_simp; (try with_reducible rfl))
  try simp only [Act.put, List.setIfInBounds_toArray, List.set_cons_zero, List.set_cons_succ]
  refine wpAnyH_take (i := 32) (oi := ⟨some 54, _, _, _, _, _⟩) (v := ?_) rfl (by kernel_rfl) (by kernel_rfl) (by kernel_rfl) (fun _ _ _ h => h) (Or.inl ⟨by rfl, ?_⟩) (by assumption) ?_
  rotate_left 1
  · (intro w hSw; (try dsimp only at hSw); go_split_ands; obtain ⟨c0, c1, c2, c3, c4, c7, d0, d1, d2, d3, d4, e0, e1, e2, e3, e4⟩ := HB.out w (by assumption); go_simp; (try with_reducible rfl))
  try simp only [Act.put, List.setIfInBounds_toArray, List.set_cons_zero, List.set_cons_succ]
  refine wpAnyH_take (i := 33) (oi := ⟨some 55, _, _, _, _, _⟩) (v := ?_) rfl (by kernel_rfl) (by kernel_rfl) (by kernel_rfl) (fun _ _ _ h => h) (Or.inl ⟨by rfl, ?_⟩) (by assumption) ?_
  rotate_left 1
  · (intro w hSw; (try dsimp only at hSw); go_split_ands; obtain ⟨c0, c1, c2, c3, c4, c7, d0, d1, d2, d3, d4, e0, e1, e2, e3, e4⟩ := HB.out w (by assumption); go_simp; (try with_reducible rfl))
  try simp only [Act.put, List.setIfInBounds_toArray, List.set_cons_zero, List.set_cons_succ]
  refine wpAnyH_take (i := 34) (oi := ⟨some 56, _, _, _, _, _⟩) (v := ?_) rfl (by kernel_rfl) (by kernel_rfl) (by kernel_rfl) (fun _ _ _ h => h) (Or.inl ⟨by rfl, ?_⟩) (by assumption) ?_
  rotate_left 1
  · (intro w hSw; (try dsimp only at hSw); go_split_ands; obtain ⟨c0, c1, c2, c3, c4, c7, d0, d1, d2, d3, d4, e0, e1, e2, e3, e4⟩ := HB.out w (by assumption); go_simp; (try with_reducible rfl))
  try simp only [Act.put, List.setIfInBounds_toArray, List.set_cons_zero, List.set_cons_succ]
  refine wpAnyH_take (i := 35) (oi := ⟨some 57, _, _, _, _, _⟩) (v := ?_) rfl (by kernel_rfl) (by kernel_rfl) (by kernel_rfl) (fun _ _ _ h => h) (Or.inl ⟨by rfl, ?_⟩) (by assumption) ?_
  rotate_left 1
  · (intro w hSw; (try dsimp only at hSw); go_split_ands; obtain ⟨c0, c1, c2, c3, c4, c7, d0, d1, d2, d3, d4, e0, e1, e2, e3, e4⟩ := HB.out w (by assumption); go_simp; (try with_reducible rfl))
  try simp only [Act.put, List.setIfInBounds_toArray, List.set_cons_zero, List.set_cons_succ]
  refine wpAnyH_take (i := 36) (oi := ⟨some 58, _, _, _, _, _⟩) (v := ?_) rfl (by kernel_rfl) (by kernel_rfl) (by kernel_rfl) (fun _ _ _ h => h) (Or.inl ⟨by rfl, ?_⟩) (by assumption) ?_
  rotate_left 1
  · (intro w hSw; (try dsimp only at hSw); go_split_ands; obtain ⟨c0, c1, c2, c3, c4, c7, d0, d1, d2, d3, d4, e0, e1, e2, e3, e4⟩ := HB.out w (by assumption); go_simp; (try with_reducible rfl))
  try simp only [Act.put, List.setIfInBounds_toArray, List.set_cons_zero, List.set_cons_succ]
  refine wpAnyH_take (i := 37) (oi := ⟨some 59, _, _, _, _, _⟩) (v := ?_) rfl (by kernel_rfl) (by kernel_rfl) (by kernel_rfl) (fun _ _ _ h => h) (Or.inl ⟨by rfl, ?_⟩) (by assumption) ?_
  rotate_left 1
  · (intro w hSw; (try dsimp only at hSw); go_split_ands; obtain ⟨c0, c1, c2, c3, c4, c7, d0, d1, d2, d3, d4, e0, e1, e2, e3, e4⟩ := HB.out w (by assumption); go_simp; (try with_reducible rfl))
  try simp only [Act.put, List.setIfInBounds_toArray, List.set_cons_zero, List.set_cons_succ]
  refine wpAnyH_take (i := 38) (oi := ⟨some 60, _, _, _, _, _⟩) (v := ?_) rfl (by kernel_rfl) (by kernel_rfl) (by kernel_rfl) (fun _ _ _ h => h) (Or.inl ⟨by rfl, ?_⟩) (by assumption) ?_
  rotate_left 1
  · (intro w hSw; (try dsimp only at hSw); go_split_ands; obtain ⟨c0, c1, c2, c3, c4, c7, d0, d1, d2, d3, d4, e0, e1, e2, e3, e4⟩ := HB.out w (by assumption); go_simp; (try with_reducible rfl))
  try simp only [Act.put, List.setIfInBounds_toArray, List.set_cons_zero, List.set_cons_succ]
  refine wpAnyH_take (i := 39) (oi := ⟨some 61, _, _, _, _, _⟩) (v := ?_) rfl (by kernel_rfl) (by kernel_rfl) (by kernel_rfl) (fun _ _ _ h => h) (Or.inl ⟨by rfl, ?_⟩) (by assumption) ?_
  rotate_left 1
  · (intro w hSw; (try dsimp only at hSw); go_split_ands; obtain ⟨c0, c1, c2, c3, c4, c7, d0, d1, d2, d3, d4, e0, e1, e2, e3, e4⟩ := HB.out w (by assumption); go_simp; (try with_reducible rfl))
  try simp only [Act.put, List.setIfInBounds_toArray, List.set_cons_zero, List.set_cons_succ]
  refine wpAnyH_take (i := 40) (oi := ⟨some 62, _, _, _, _, _⟩) (v := ?_) rfl (by kernel_rfl) (by kernel_rfl) (by kernel_rfl) (fun _ _ _ h => h) (Or.inl ⟨by rfl, ?_⟩) (by assumption) ?_
  rotate_left 1
  · (intro w hSw; (try dsimp only at hSw); go_split_ands; obtain ⟨c0, c1, c2, c3, c4, c7, d0, d1, d2, d3, d4, e0, e1, e2, e3, e4⟩ := HB.out w (by assumption); go_simp; (try with_reducible rfl))
  try simp only [Act.put, List.setIfInBounds_toArray, List.set_cons_zero, List.set_cons_succ]
  refine wpAnyH_take (i := 41) (oi := ⟨some 63, _, _, _, _, _⟩) (v := ?_) rfl (by kernel_rfl) (by kernel_rfl) (by kernel_rfl) (fun _ _ _ h => h) (Or.inl ⟨by rfl, ?_⟩) (by assumption) ?_
  rotate_left 1
  · (intro w hSw; (try dsimp only at hSw); go_split_ands; obtain ⟨c0, c1, c2, c3, c4, c7, d0, d1, d2, d3, d4, e0, e1, e2, e3, e4⟩ := HB.out w (by assumption); go_simp; (try with_reducible rfl))
  try simp only [Act.put, List.setIfInBounds_toArray, List.set_cons_zero, List.set_cons_succ]
  refine wpAnyH_take (i := 42) (oi := ⟨some 64, _, _, _, _, _⟩) (v := ?_) rfl (by kernel_rfl) (by kernel_rfl) (by kernel_rfl) (fun _ _ _ h => h) (Or.inl ⟨by rfl, ?_⟩) (by assumption) ?_
  rotate_left 1
  · (intro w hSw; (try dsimp only at hSw); go_split_ands; obtain ⟨c0, c1, c2, c3, c4, c7, d0, d1, d2, d3, d4, e0, e1, e2, e3, e4⟩ := HB.out w (by assumption); go_simp; (try with_reducible rfl))
  try simp only [Act.put, List.setIfInBounds_toArray, List.set_cons_zero, List.set_cons_succ]
  refine wpAnyH_take (i := 43) (oi := ⟨some 65, _, _, _, _, _⟩) (v := ?_) rfl (by kernel_rfl) (by kernel_rfl) (by kernel_rfl) (fun _ _ _ h => h) (Or.inl ⟨by rfl, ?_⟩) (by assumption) ?_
  rotate_left 1
  · (intro w hSw; (try dsimp only at hSw); go_split_ands; obtain ⟨c0, c1, c2, c3, c4, c7, d0, d1, d2, d3, d4, e0, e1, e2, e3, e4⟩ := HB.out w (by assumption); go_simp; (try with_reducible rfl))
  try simp only [Act.put, List.setIfInBounds_toArray, List.set_cons_zero, List.set_cons_succ]
  refine wpAnyH_take (i := 44) (oi := ⟨some 66, _, _, _, _, _⟩) (v := ?_) rfl (by kernel_rfl) (by kernel_rfl) (by kernel_rfl) (fun _ _ _ h => h) (Or.inl ⟨by rfl, ?_⟩) (by assumption) ?_
  rotate_left 1
  · (intro w hSw; (try dsimp only at hSw); go_split_ands; obtain ⟨c0, c1, c2, c3, c4, c7, d0, d1, d2, d3, d4, e0, e1, e2, e3, e4⟩ := HB.out w (by assumption); go_simp; (try with_reducible rfl))
  try simp only [Act.put, List.setIfInBounds_toArray, List.set_cons_zero, List.set_cons_succ]
  refine wpAnyH_take (i := 45) (oi := ⟨some 67, _, _, _, _, _⟩) (v := ?_) rfl (by kernel_rfl) (by kernel_rfl) (by kernel_rfl) (fun _ _ _ h => h) (Or.inl ⟨by rfl, ?_⟩) (by assumption) ?_
  rotate_left 1
  · (intro w hSw; (try dsimp only at hSw); go_split_ands; obtain ⟨c0, c1, c2, c3, c4, c7, d0, d1, d2, d3, d4, e0, e1, e2, e3, e4⟩ := HB.out w (by assumption); go_simp; (try with_reducible rfl))
  try simp only [Act.put, List.setIfInBounds_toArray, List.set_cons_zero, List.set_cons_succ]
  refine wpAnyH_take (i := 46) (oi := ⟨some 68, _, _, _, _, _⟩) (v := ?_) rfl (by kernel_rfl) (by kernel_rfl) (by kernel_rfl) (fun _ _ _ h => h) (Or.inl ⟨by rfl, ?_⟩) (by assumption) ?_
  rotate_left 1
  · (intro w hSw; (try dsimp only at hSw); go_split_ands; obtain ⟨c0, c1, c2, c3, c4, c7, d0, d1, d2, d3, d4, e0, e1, e2, e3, e4⟩ := HB.out w (by assumption); go_simp; (try with_reducible rfl))
  try simp only [Act.put, List.setIfInBounds_toArray, List.set_cons_zero, List.set_cons_succ]
  refine wpAnyH_take (i := 47) (oi := ⟨some 69, _, _, _, _, _⟩) (v := ?_) rfl (by kernel_rfl) (by kernel_rfl) (by kernel_rfl) (fun _ _ _ h => h) (Or.inl ⟨by rfl, ?_⟩) (by assumption) ?_
  rotate_left 1
  · (intro w hSw; (try dsimp only at hSw); go_split_ands; obtain ⟨c0, c1, c2, c3, c4, c7, d0, d1, d2, d3, d4, e0, e1, e2, e3, e4⟩ := HB.out w (by assumption); go_simp; (try with_reducible rfl))
  try simp only [Act.put, List.setIfInBounds_toArray, List.set_cons_zero, List.set_cons_succ]
  refine wpAnyH_take (i := 48) (oi := ⟨some 70, _, _, _, _, _⟩) (v := ?_) rfl (by kernel_rfl) (by kernel_rfl) (by kernel_rfl) (fun _ _ _ h => h) (Or.inl ⟨by rfl, ?_⟩) (by assumption) ?_
  rotate_left 1
  · (intro w hSw; (try dsimp only at hSw); go_split_ands; obtain ⟨c0, c1, c2, c3, c4, c7, d0, d1, d2, d3, d4, e0, e1, e2, e3, e4⟩ := HB.out w (by assumption); go_simp; (try with_reducible rfl))
  try simp only [Act.put, List.setIfInBounds_toArray, List.set_cons_zero, List.set_cons_succ]
  refine wpAnyH_take (i := 49) (oi := ⟨some 71, _, _, _, _, _⟩) (v := ?_) rfl (by kernel_rfl) (by kernel_rfl) (by kernel_rfl) (fun _ _ _ h => h) (Or.inl ⟨by rfl, ?_⟩) (by assumption) ?_
  rotate_left 1
  · (intro w hSw; (try dsimp only at hSw); go_split_ands; obtain ⟨c0, c1, c2, c3, c4, c7, d0, d1, d2, d3, d4, e0, e1, e2, e3, e4⟩ := HB.out w (by assumption); go_simp; (try with_reducible rfl))
  try simp only [Act.put, List.setIfInBounds_toArray, List.set_cons_zero, List.set_cons_succ]
  refine wpAnyH_take (i := 50) (oi := ⟨some 72, _, _, _, _, _⟩) (v := ?_) rfl (by kernel_rfl) (by kernel_rfl) (by kernel_rfl) (fun _ _ _ h => h) (Or.inl ⟨by rfl, ?_⟩) (by assumption) ?_
  rotate_left 1
  · (intro w hSw; (try dsimp only at hSw); go_split_ands; obtain ⟨c0, c1, c2, c3, c4, c7, d0, d1, d2, d3, d4, e0, e1, e2, e3, e4⟩ := HB.out w (by assumption); go_simp; (try with_reducible rfl))
  try simp only [Act.put, List.setIfInBounds_toArray, List.set_cons_zero, List.set_cons_succ]
  refine wpAnyH_take (i := 51) (oi := ⟨some 73, _, _, _, _, _⟩) (v := ?_) rfl (by kernel_rfl) (by kernel_rfl) (by kernel_rfl) (fun _ _ _ h => h) (Or.inl ⟨by rfl, ?_⟩) (by assumption) ?_
  rotate_left 1
  · (intro w hSw; (try dsimp only at hSw); go_split_ands; obtain ⟨c0, c1, c2, c3, c4, c7, d0, d1, d2, d3, d4, e0, e1, e2, e3, e4⟩ := HB.out w (by assumption); go_simp; (try with_reducible rfl))
  try simp only [Act.put, List.setIfInBounds_toArray, List.set_cons_zero, List.set_cons_succ]
  refine wpAnyH_take (i := 52) (oi := ⟨some 74, _, _, _, _, _⟩) (v := ?_) rfl (by kernel_rfl) (by kernel_rfl) (by kernel_rfl) (fun _ _ _ h => h) (Or.inl ⟨by rfl, ?_⟩) (by assumption) ?_
  rotate_left 1
  · (intro w hSw; (try dsimp only at hSw); go_split_ands; obtain ⟨c0, c1, c2, c3, c4, c7, d0, d1, d2, d3, d4, e0, e1, e2, e3, e4⟩ := HB.out w (by assumption); go_simp; (try with_reducible rfl))
  try simp only [Act.put, List.setIfInBounds_toArray, List.set_cons_zero, List.set_cons_succ]
  refine wpAnyH_take (i := 53) (oi := ⟨some 75, _, _, _, _, _⟩) (v := ?_) rfl (by kernel_rfl) (by kernel_rfl) (by kernel_rfl) (fun _ _ _ h => h) (Or.inl ⟨by rfl, ?_⟩) (by assumption) ?_
  rotate_left 1
  · (intro w hSw; (try dsimp only at hSw); go_split_ands; obtain ⟨c0, c1, c2, c3, c4, c7, d0, d1, d2, d3, d4, e0, e1, e2, e3, e4⟩ := HB.out w (by assumption); go_simp; (try with_reducible rfl))
  try simp only [Act.put, List.setIfInBounds_toArray, List.set_cons_zero, List.set_cons_succ]
  refine wpAnyH_take (i := 54) (oi := ⟨some 76, _, _, _, _, _⟩) (v := ?_) rfl (by kernel_rfl) (by kernel_rfl) (by kernel_rfl) (fun _ _ _ h => h) (Or.inl ⟨by rfl, ?_⟩) (by assumption) ?_
  rotate_left 1
  · (intro w hSw; (try dsimp only at hSw); go_split_ands; obtain ⟨c0, c1, c2, c3, c4, c7, d0, d1, d2, d3, d4, e0, e1, e2, e3, e4⟩ := HB.out w (by assumption); go_simp; (try with_reducible rfl))
  try simp only [Act.put, List.setIfInBounds_toArray, List.set_cons_zero, List.set_cons_succ]
  refine wpAnyH_take (i := 55) (oi := ⟨some 77, _, _, _, _, _⟩) (v := ?_) rfl (by kernel_rfl) (by kernel_rfl) (by kernel_rfl) (fun _ _ _ h => h) (Or.inl ⟨by rfl, ?_⟩) (by assumption) ?_
  rotate_left 1
  · (intro w hSw; (try dsimp only at hSw); go_split_ands; obtain ⟨c0, c1, c2, c3, c4, c7, d0, d1, d2, d3, d4, e0, e1, e2, e3, e4⟩ := HB.out w (by assumption); go_simp; (try with_reducible rfl))
  try simp only [Act.put, List.setIfInBounds_toArray, List.set_cons_zero, List.set_cons_succ]
  refine wpAnyH_take (i := 56) (oi := ⟨some 78, _, _, _, _, _⟩) (v := ?_) rfl (by kernel_rfl) (by kernel_rfl) (by kernel_rfl) (fun _ _ _ h => h) (Or.inl ⟨by rfl, ?_⟩) (by assumption) ?_
  rotate_left 1
  · (intro w hSw; (try dsimp only at hSw); go_split_ands; obtain ⟨c0, c1, c2, c3, c4, c7, d0, d1, d2, d3, d4, e0, e1, e2, e3, e4⟩ := HB.out w (by assumption); go_simp; (try with_reducible rfl))
  try simp only [Act.put, List.setIfInBounds_toArray, List.set_cons_zero, List.set_cons_succ]
  refine wpAnyH_take (i := 57) (oi := ⟨some 79, _, _, _, _, _⟩) (v := ?_) rfl (by kernel_rfl) (by kernel_rfl) (by kernel_rfl) (fun _ _ _ h => h) (Or.inl ⟨by rfl, ?_⟩) (by assumption) ?_
  rotate_left 1
  · (intro w hSw; (try dsimp only at hSw); go_split_ands; obtain ⟨c0, c1, c2, c3, c4, c7, d0, d1, d2, d3, d4, e0, e1, e2, e3, e4⟩ := HB.out w (by assumption); go_simp; (try with_reducible rfl))
  try simp only [Act.put, List.setIfInBounds_toArray, List.set_cons_zero, List.set_cons_succ]
  refine wpAnyH_take (i := 58) (oi := ⟨some 80, _, _, _, _, _⟩) (v := ?_) rfl (by kernel_rfl) (by kernel_rfl) (by kernel_rfl) (fun _ _ _ h => h) (Or.inl ⟨by rfl, ?_⟩) (by assumption) ?_
  rotate_left 1
  · (intro w hSw; (try dsimp only at hSw); go_split_ands; obtain ⟨c0, c1, c2, c3, c4, c7, d0, d1, d2, d3, d4, e0, e1, e2, e3, e4⟩ := HB.out w (by assumption); go_simp; (try with_reducible rfl))
  try simp only [Act.put, List.setIfInBounds_toArray, List.set_cons_zero, List.set_cons_succ]
  refine wpAnyH_take (i := 59) (oi := ⟨some 81, _, _, _, _, _⟩) (v := ?_) rfl (by kernel_rfl) (by kernel_rfl) (by kernel_rfl) (fun _ _ _ h => h) (Or.inl ⟨by rfl, ?_⟩) (by assumption) ?_
  rotate_left 1
  · (intro w hSw; (try dsimp only at hSw); go_split_ands; obtain ⟨c0, c1, c2, c3, c4, c7, d0, d1, d2, d3, d4, e0, e1, e2, e3, e4⟩ := HB.out w (by assumption); go_simp; (try with_reducible rfl))
  try simp only [Act.put, List.setIfInBounds_toArray, List.set_cons_zero, List.set_cons_succ]
  refine wpAnyH_take (i := 60) (oi := ⟨some 82, _, _, _, _, _⟩) (v := ?_) rfl (by kernel_rfl) (by kernel_rfl) (by kernel_rfl) (fun _ _ _ h => h) (Or.inl ⟨by rfl, ?_⟩) (by assumption) ?_
  rotate_left 1
  · (intro w hSw; (try dsimp only at hSw); go_split_ands; obtain ⟨c0, c1, c2, c3, c4, c7, d0, d1, d2, d3, d4, e0, e1, e2, e3, e4⟩ := HB.out w (by assumption); go_simp; (try with_reducible rfl))
  try simp only [Act.put, List.setIfInBounds_toArray, List.set_cons_zero, List.set_cons_succ]
  refine wpAnyH_take (i := 61) (oi := ⟨some 83, _, _, _, _, _⟩) (v := ?_) rfl (by kernel_rfl) (by kernel_rfl) (by kernel_rfl) (fun _ _ _ h => h) (Or.inl ⟨by rfl, ?_⟩) (by assumption) ?_
  rotate_left 1
  · (intro w hSw; (try dsimp only at hSw); go_split_ands; obtain ⟨c0, c1, c2, c3, c4, c7, d0, d1, d2, d3, d4, e0, e1, e2, e3, e4⟩ := HB.out w (by assumption); go_simp; (try with_reducible rfl))
  try simp only [Act.put, List.setIfInBounds_toArray, List.set_cons_zero, List.set_cons_succ]
  refine wpAnyH_take (i := 62) (oi := ⟨some 84, _, _, _, _, _⟩) (v := ?_) rfl (by kernel_rfl) (by kernel_rfl) (by kernel_rfl) (fun _ _ _ h => h) (Or.inl ⟨by rfl, ?_⟩) (by assumption) ?_
  rotate_left 1
  · (intro w hSw; (try dsimp only at hSw); go_split_ands; obtain ⟨c0, c1, c2, c3, c4, c7, d0, d1, d2, d3, d4, e0, e1, e2, e3, e4⟩ := HB.out w (by assumption); go_simp; (try with_reducible rfl))
  try simp only [Act.put, List.setIfInBounds_toArray, List.set_cons_zero, List.set_cons_succ]
  refine wpAnyH_take (i := 63) (oi := ⟨some 85, _, _, _, _, _⟩) (v := ?_) rfl (by kernel_rfl) (by kernel_rfl) (by kernel_rfl) (fun _ _ _ h => h) (Or.inl ⟨by rfl, ?_⟩) (by assumption) ?_
  rotate_left 1
  · (intro w hSw; (try dsimp only at hSw); go_split_ands; obtain ⟨c0, c1, c2, c3, c4, c7, d0, d1, d2, d3, d4, e0, e1, e2, e3, e4⟩ := HB.out w (by assumption); go_simp; (try with_reducible rfl))
  try simp only [Act.put, List.setIfInBounds_toArray, List.set_cons_zero, List.set_cons_succ]
  refine wpAnyH_take (i := 64) (oi := ⟨some 86, _, _, _, _, _⟩) (v := ?_) rfl (by kernel_rfl) (by kernel_rfl) (by kernel_rfl) (fun _ _ _ h => h) (Or.inl ⟨by rfl, ?_⟩) (by assumption) ?_
  rotate_left 1
  · (intro w hSw; (try dsimp only at hSw); go_split_ands; obtain ⟨c0, c1, c2, c3, c4, c7, d0, d1, d2, d3, d4, e0, e1, e2, e3, e4⟩ := HB.out w (by assumption); go_simp; (try with_reducible rfl))
  try simp only [Act.put, List.setIfInBounds_toArray, List.set_cons_zero, List.set_cons_succ]
  refine wpAnyH_take (i := 65) (oi := ⟨some 87, _, _, _, _, _⟩) (v := ?_) rfl (by kernel_rfl) (by kernel_rfl) (by kernel_rfl) (fun _ _ _ h => h) (Or.inl ⟨by rfl, ?_⟩) (by assumption) ?_
  rotate_left 1
  · (intro w hSw; (try dsimp only at hSw); go_split_ands; obtain ⟨c0, c1, c2, c3, c4, c7, d0, d1, d2, d3, d4, e0, e1, e2, e3, e4⟩ := HB.out w (by assumption); go_simp; (try with_reducible rfl))
  try simp only [Act.put, List.setIfInBounds_toArray, List.set_cons_zero, List.set_cons_succ]
  refine wpAnyH_take (i := 66) (oi := ⟨some 88, _, _, _, _, _⟩) (v := ?_) rfl (by kernel_rfl) (by kernel_rfl) (by kernel_rfl) (fun _ _ _ h => h) (Or.inl ⟨by rfl, ?_⟩) (by assumption) ?_
  rotate_left 1
  · (intro w hSw; (try dsimp only at hSw); go_split_ands; obtain ⟨c0, c1, c2, c3, c4, c7, d0, d1, d2, d3, d4, e0, e1, e2, e3, e4⟩ := HB.out w (by assumption); go_simp; (try with_reducible rfl))
  try simp only [Act.put, List.setIfInBounds_toArray, List.set_cons_zero, List.set_cons_succ]
  refine wpAnyH_take (i := 67) (oi := ⟨some 89, _, _, _, _, _⟩) (v := ?_) rfl (by kernel_rfl) (by kernel_rfl) (by kernel_rfl) (fun _ _ _ h => h) (Or.inl ⟨by rfl, ?_⟩) (by assumption) ?_
  rotate_left 1
  · (intro w hSw; (try dsimp only at hSw); go_split_ands; obtain ⟨c0, c1, c2, c3, c4, c7, d0, d1, d2, d3, d4, e0, e1, e2, e3, e4⟩ := HB.out w (by assumption); go_simp; (try with_reducible rfl))
  try simp only [Act.put, List.setIfInBounds_toArray, List.set_cons_zero, List.set_cons_succ]
  refine wpAnyH_take (i := 68) (oi := ⟨some 90, _, _, _, _, _⟩) (v := ?_) rfl (by kernel_rfl) (by kernel_rfl) (by kernel_rfl) (fun _ _ _ h => h) (Or.inl ⟨by rfl, ?_⟩) (by assumption) ?_
  rotate_left 1
  · (intro w hSw; (try dsimp only at hSw); go_split_ands; obtain ⟨c0, c1, c2, c3, c4, c7, d0, d1, d2, d3, d4, e0, e1, e2, e3, e4⟩ := HB.out w (by assumption); go_simp; (try with_reducible rfl))
  try simp only [Act.put, List.setIfInBounds_toArray, List.set_cons_zero, List.set_cons_succ]
  refine wpAnyH_take (i := 69) (oi := ⟨some 91, _, _, _, _, _⟩) (v := ?_) rfl (by kernel_rfl) (by kernel_rfl) (by kernel_rfl) (fun _ _ _ h => h) (Or.inl ⟨by rfl, ?_⟩) (by assumption) ?_
  rotate_left 1
  · (intro w hSw; (try dsimp only at hSw); go_split_ands; obtain ⟨c0, c1, c2, c3, c4, c7, d0, d1, d2, d3, d4, e0, e1, e2, e3, e4⟩ := HB.out w (by assumption); go_simp; (try with_reducible rfl))
  try simp only [Act.put, List.setIfInBounds_toArray, List.set_cons_zero, List.set_cons_succ]
  refine wpAnyH_take (i := 70) (oi := ⟨some 92, _, _, _, _, _⟩) (v := ?_) rfl (by kernel_rfl) (by kernel_rfl) (by kernel_rfl) (fun _ _ _ h => h) (Or.inl ⟨by rfl, ?_⟩) (by assumption) ?_
  rotate_left 1
  · (intro w hSw; (try dsimp only at hSw); go_split_ands; obtain ⟨c0, c1, c2, c3, c4, c7, d0, d1, d2, d3, d4, e0, e1, e2, e3, e4⟩ := HB.out w (by assumption); go_simp; (try with_reducible rfl))
  try simp only [Act.put, List.setIfInBounds_toArray, List.set_cons_zero, List.set_cons_succ]
  refine wpAnyH_take (i := 71) (oi := ⟨some 93, _, _, _, _, _⟩) (v := ?_) rfl (by kernel_rfl) (by kernel_rfl) (by kernel_rfl) (fun _ _ _ h => h) (Or.inl ⟨by rfl, ?_⟩) (by assumption) ?_
  rotate_left 1
  · (intro w hSw; (try dsimp only at hSw); go_split_ands; obtain ⟨c0, c1, c2, c3, c4, c7, d0, d1, d2, d3, d4, e0, e1, e2, e3, e4⟩ := HB.out w (by assumption); go_simp; (try with_reducible rfl))
  try simp only [Act.put, List.setIfInBounds_toArray, List.set_cons_zero, List.set_cons_succ]
  refine wpAnyH_take (i := 72) (oi := ⟨some 94, _, _, _, _, _⟩) (v := ?_) rfl (by kernel_rfl) (by kernel_rfl) (by kernel_rfl) (fun _ _ _ h => h) (Or.inl ⟨by rfl, ?_⟩) (by assumption) ?_
  rotate_left 1
  · (intro w hSw; (try dsimp only at hSw); go_split_ands; obtain ⟨c0, c1, c2, c3, c4, c7, d0, d1, d2, d3, d4, e0, e1, e2, e3, e4⟩ := HB.out w (by assumption); go_simp; (try with_reducible rfl))
  try simp only [Act.put, List.setIfInBounds_toArray, List.set_cons_zero, List.set_cons_succ]
  refine wpAnyH_take (i := 73) (oi := ⟨some 95, _, _, _, _, _⟩) (v := ?_) rfl (by kernel_rfl) (by kernel_rfl) (by kernel_rfl) (fun _ _ _ h => h) (Or.inl ⟨by rfl, ?_⟩) (by assumption) ?_
  rotate_left 1
  · (intro w hSw; (try dsimp only at hSw); go_split_ands; obtain ⟨c0, c1, c2, c3, c4, c7, d0, d1, d2, d3, d4, e0, e1, e2, e3, e4⟩ := HB.out w (by assumption); go_simp; (try with_reducible rfl))
  try simp only [Act.put, List.setIfInBounds_toArray, List.set_cons_zero, List.set_cons_succ]
  refine wpAnyH_take (i := 74) (oi := ⟨some 96, _, _, _, _, _⟩) (v := ?_) rfl (by kernel_rfl) (by kernel_rfl) (by kernel_rfl) (fun _ _ _ h => h) (Or.inl ⟨by rfl, ?_⟩) (by assumption) ?_
  rotate_left 1
  · (intro w hSw; (try dsimp only at hSw); go_split_ands; obtain ⟨c0, c1, c2, c3, c4, c7, d0, d1, d2, d3, d4, e0, e1, e2, e3, e4⟩ := HB.out w (by assumption); go_simp; (try with_reducible rfl))
  try simp only [Act.put, List.setIfInBounds_toArray, List.set_cons_zero, List.set_cons_succ]
  refine wpAnyH_take (i := 75) (oi := ⟨some 97, _, _, _, _, _⟩) (v := ?_) rfl (by kernel_rfl) (by kernel_rfl) (by kernel_rfl) (fun _ _ _ h => h) (Or.inl ⟨by rfl, ?_⟩) (by assumption) ?_
  rotate_left 1
  · (intro w hSw; (try dsimp only at hSw); go_split_ands; obtain ⟨c0, c1, c2, c3, c4, c7, d0, d1, d2, d3, d4, e0, e1, e2, e3, e4⟩ := HB.out w (by assumption); go_simp; (try with_reducible rfl))
  try simp only [Act.put, List.setIfInBounds_toArray, List.set_cons_zero, List.set_cons_succ]
  refine wpAnyH_take (i := 76) (oi := ⟨some 98, _, _, _, _, _⟩) (v := ?_) rfl (by kernel_rfl) (by kernel_rfl) (by kernel_rfl) (fun _ _ _ h => h) (Or.inl ⟨by rfl, ?_⟩) (by assumption) ?_
  rotate_left 1
  · (intro w hSw; (try dsimp only at hSw); go_split_ands; obtain ⟨c0, c1, c2, c3, c4, c7, d0, d1, d2, d3, d4, e0, e1, e2, e3, e4⟩ := HB.out w (by assumption); go_simp; (try with_reducible rfl))
  try simp only [Act.put, List.setIfInBounds_toArray, List.set_cons_zero, List.set_cons_succ]
  refine wpAnyH_take (i := 77) (oi := ⟨some 99, _, _, _, _, _⟩) (v := ?_) rfl (by kernel_rfl) (by kernel_rfl) (by kernel_rfl) (fun _ _ _ h => h) (Or.inl ⟨by rfl, ?_⟩) (by assumption) ?_
  rotate_left 1
  · (intro w hSw; (try dsimp only at hSw); go_split_ands; obtain ⟨c0, c1, c2, c3, c4, c7, d0, d1, d2, d3, d4, e0, e1, e2, e3, e4⟩ := HB.out w (by assumption); go_simp; (try with_reducible rfl))
  try simp only [Act.put, List.setIfInBounds_toArray, List.set_cons_zero, List.set_cons_succ]
  refine wpAnyH_take (i := 78) (oi := ⟨some 100, _, _, _, _, _⟩) (v := ?_) rfl (by kernel_rfl) (by kernel_rfl) (by kernel_rfl) (fun _ _ _ h => h) (Or.inl ⟨by rfl, ?_⟩) (by assumption) ?_
  rotate_left 1
  · (intro w hSw; (try dsimp only at hSw); go_split_ands; obtain ⟨c0, c1, c2, c3, c4, c7, d0, d1, d2, d3, d4, e0, e1, e2, e3, e4⟩ := HB.out w (by assumption); go_simp; (try with_reducible rfl))
  try simp only [Act.put, List.setIfInBounds_toArray, List.set_cons_zero, List.set_cons_succ]
  refine wpAnyH_take (i := 79) (oi := ⟨some 101, _, _, _, _, _⟩) (v := ?_) rfl (by kernel_rfl) (by kernel_rfl) (by kernel_rfl) (fun _ _ _ h => h) (Or.inl ⟨by rfl, ?_⟩) (by assumption) ?_
  rotate_left 1
  · (intro w hSw; (try dsimp only at hSw); go_split_ands; obtain ⟨c0, c1, c2, c3, c4, c7, d0, d1, d2, d3, d4, e0, e1, e2, e3, e4⟩ := HB.out w (by assumption); go_simp; (try with_reducible rfl))
  try simp only [Act.put, List.setIfInBounds_toArray, List.set_cons_zero, List.set_cons_succ]
  refine wpAnyH_take (i := 80) (oi := ⟨some 2, _, _, _, _, _⟩) (v := ?_) rfl (by kernel_rfl) (by kernel_rfl) (by kernel_rfl) (fun _ _ _ h => h) (Or.inl ⟨by rfl, ?_⟩) (by assumption) ?_
  rotate_left 1
  · (intro w hSw; (try dsimp only at hSw); go_split_ands; obtain ⟨c0, c1, c2, c3, c4, c7, d0, d1, d2, d3, d4, e0, e1, e2, e3, e4⟩ := HB.out w (by assumption); go_simp; (try with_reducible rfl))
  try simp only [Act.put, List.setIfInBounds_toArray, List.set_cons_zero, List.set_cons_succ]
  refine wpAnyH_done (by kernel_rfl) ?_ _
  go_wp2_with fail
  go_ret
  exact ⟨rfl, y5.trans hk⟩
end Go.Proofs.Ytipcgebaihndgaa
