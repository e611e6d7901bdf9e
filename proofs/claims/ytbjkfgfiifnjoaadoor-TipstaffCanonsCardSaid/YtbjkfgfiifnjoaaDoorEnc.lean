/- Package insn: Encode; the known parts. -/
import Derived.Test.YtbjkfgfiifnjoaaDoorShare
namespace Go.Proofs.YtbjkfgfiifnjoaaDoor
open Go.RowKit
set_option maxRecDepth 100000

/-- A row of bytes as a string. -/
theorem conv_bytes {w : World} {v : Value} {l : List UInt8} (h : w.ownsRow 0 5 1 v l.length (bytesV l)) :
    (convert 39 9 v).run Tryd.prog w = .ok (.string ⟨l.toArray⟩) w := by
  rcases h.2 with ⟨rfl, h0⟩ | ⟨g, cap, cur, rfl, -⟩
  · have : l = [] := List.eq_nil_of_length_eq_zero h0
    subst this
    rfl
  · refine run_convert_bytes_back w _ _ 5 ⟨g, 0, none⟩ cap l Tryd.underlying39 Tryd.underlying5 Tryd.underlying9 ?_
    intro j hj
    rw [Addr.add_lit, Nat.zero_add]
    have := h.cells (g := g) rfl j (.int .u8 (l[j].toNat : Int)) (by unfold bytesV; simp [hj])
    rwa [Addr.add_lit, Nat.zero_add] at this

theorem dst_src (d s : UInt8) : bits .or .u8 (bits .and .u8 (d.toNat : Int) 15) ((s.toNat : Int) * 16 % 256) = ((d.toNat % 16 + 16 * (s.toNat % 16) : Nat) : Int) := by
  have h1 : ∀ n : Fin 256, bits .and .u8 ((n.val : Nat) : Int) 15 = ((n.val % 16 : Nat) : Int) := by decide +kernel
  have h2 : ∀ a b : Fin 16, bits .or .u8 ((a.val : Nat) : Int) ((16 * b.val : Nat) : Int) = ((a.val + 16 * b.val : Nat) : Int) := by decide +kernel
  have e1 := h1 ⟨d.toNat, d.toNat_lt⟩
  simp only at e1
  rw [e1, show (s.toNat : Int) * 16 % 256 = ((16 * (s.toNat % 16) : Nat) : Int) by omega]
  exact h2 ⟨d.toNat % 16, by omega⟩ ⟨s.toNat % 16, by omega⟩

theorem off_lo (b : BitVec 16) : b.toInt % 256 = (b.toNat : Int) % 256 := by rw [BitVec.toInt_eq_toNat_cond]; split <;> omega
theorem off_hi (b : BitVec 16) : b.toInt / 256 % 256 = ((b.toNat / 256 : Nat) : Int) % 256 := by rw [BitVec.toInt_eq_toNat_cond]; split <;> omega
theorem imm_at (b : BitVec 32) (j : Nat) (hj : j < 4) : b.toInt / 2 ^ (8 * j) % 256 = ((b.toNat / 256 ^ j : Nat) : Int) % 256 := by
  rw [BitVec.toInt_eq_toNat_cond]
  match j, hj with
  | 0, _ => simp; split <;> omega
  | 1, _ => simp; split <;> omega
  | 2, _ => simp; split <;> omega
  | 3, _ => simp; split <;> omega

theorem enc_head (y : Ins) : (#[Value.int IntKind.u8 (y.op.toNat : Int), Value.int IntKind.u8 (bits BinOp.or IntKind.u8 (bits BinOp.and IntKind.u8 (y.dst.toNat : Int) 15) ((y.src.toNat : Int) * 16 % 256)), Value.int IntKind.u8 (y.off.toInt % 256), Value.int IntKind.u8 (y.off.toInt / 256 % 256)] : Array Value).toList = bytesV ((encI y).take 4) := by
  rw [dst_src, off_lo, off_hi]
  simp only [encI, List.take_succ_cons, List.take_zero, bytesV, List.map_cons, List.map_nil, byte_val]
  rw [show ((y.dst.toNat % 16 + 16 * (y.src.toNat % 16) : Nat) : Int) % 256 = ((y.dst.toNat % 16 + 16 * (y.src.toNat % 16) : Nat) : Int) by omega]

theorem enc_tail (y : Ins) (j : Nat) (hj : j < 4) : (encI y).take (4 + (j + 1)) = (encI y).take (4 + j) ++ [UInt8.ofNat (y.imm.toNat / 256 ^ j)] := by
  match j, hj with
  | 0, _ => simp [encI]
  | 1, _ => simp [encI]
  | 2, _ => simp [encI]
  | 3, _ => simp [encI]

set_option maxHeartbeats 4000000 in
set_option maxRecDepth 100000 in
theorem encode_any (v : Value) (l : List Ins) (w : World) (hr : Reads w v 5 l.length (insV l)) (hl : l.length ≤ 100000) :
    Calls Tryd.prog 14 #[v] w (BytesPost w (encL l)) := by
  obtain ⟨i0, hi, hz0, hz1, hz2⟩ := info_parts info_byte
  have HR := Lib.hid (fun (h0 : 0 < l.length) ao c (he : v = .slice ao l.length c) => ins_lit (he ▸ hr) h0)
  obtain ⟨ao, c, rfl, -, -, -⟩ := hr
  go_enter Tryd.func14, Tryd.ntmps14
  go_wp2_with fail
  go_loopw [3, 9] (fun v i wr => ∃ k : Nat, k ≤ l.length ∧ i = .int .i64 (k : Int) ∧ wr.ownsRow 0 5 1 v (8 * k) (bytesV (encL (l.take k))) ∧ Ext [] w wr ∧ ∀ g, v.ownBlock = some g → w.heap.size ≤ g) (fun _ i _ => l.length - (intOf i).toNat)
  case atStart => exact ⟨0, by omega, rfl, by simpa [bytesV, encL] using World.ownsRow_nil _ _ _ _, Ext.refl _ _, fun g h => by cases h⟩
  case round =>
    obtain ⟨wo, rfl⟩ : ∃ wo : World, wo = wr := ⟨_, rfl⟩
    obtain ⟨k, hk, rfl, hown, x, hfr⟩ := hrel
    obtain ⟨va, vc, rfl⟩ := owns_slice hown
    by_cases hlt : k < l.length
    · obtain ⟨bb, oo, rfl, hbb, hcells⟩ := HR.out (by omega) ao c rfl
      have hc := fun j (hj : j < 5) => (x.cell (p := ⟨bb, oo + k * 5 + j, none⟩) hbb (by simp)).trans (hcells k hlt j hj)
      clear hcells
      have hst := Lib.hid (encL_take l k hlt)
      generalize l[k] = y at *
      have c0 := hc 0 (by omega)
      have c1 := hc 1 (by omega)
      have c2 := hc 2 (by omega)
      have c3 := hc 3 (by omega)
      have c4 := hc 4 (by omega)
      simp only [Ins.cells, List.getElem?_cons_zero, List.getElem?_cons_succ, Nat.add_zero] at c0 c1 c2 c3 c4
      clear hc
      go_upto_region 5 with (fail)
      show Code.wp _ _ _ _ (wo.alloc (.cells y.cells.toArray 25))
      have BY := Blk.new wo 25 y.cells.toArray
      have x1 : Ext [] wo (wo.alloc (.cells y.cells.toArray 25)) := (Ext.refl _ _).alloc _
      have hown1 := owns_ext hown x1 (by simp)
      have hob : ∀ g, (Value.slice va (8 * k) vc).ownBlock = some g → g < wo.heap.size := fun g hg => owns_lt hown hg
      have y1 := x.trans x1
      have hsz := x.size
      have hbl := BY.lt
      obtain ⟨by', hby⟩ : ∃ b, b = wo.heap.size := ⟨_, rfl⟩
      rw [← hby] at BY hbl hsz hob
      rw [← hby]
      clear hown x x1 c0 c1 c2 c3 c4 hby
      generalize wo.alloc (.cells y.cells.toArray 25) = w1 at *
      have d0 := BY.cell 0
      have d1 := BY.cell 1
      have d2 := BY.cell 2
      have d3 := BY.cell 3
      simp only [Ins.cells, List.getElem?_cons_zero, List.getElem?_cons_succ] at d0 d1 d2 d3
      go_upto_region 6 with (at_builtin; go_must (refine wpList_app _ rfl (.tmp 13) (.tmp 30) 39 rfl 5 i0 (.int .u8 0) 1 1 Tryd.underlying39 hi hz0 hz1 hz2 rfl (by decide) _ _ _ rfl (owns_ext hown1 ((Ext.refl [] w1).alloc _) (by simp)) _ 4 _ rfl (blk_reads (Blk.new w1 _ _) 4 rfl) (by intro u hu; simp at hu; rcases hu with rfl | rfl | rfl | rfl <;> rfl) (by unfold maxLen; omega) (by omega) ?_); intro v2 w2 hown2 hgrow2 hfr2 _)
      rw [enc_head y, ← bytesV_append] at hown2
      have x2 : Ext [] w w2 := (y1.alloc _).grown hgrow2 (by intro g hg; exact .inr (hfr g hg))
      have fr2 : ∀ g, v2.ownBlock = some g → w.heap.size ≤ g := by
        intro g hg
        rcases hfr2 with h | ⟨g', h, hle⟩
        · exact hfr g (h ▸ hg)
        · rw [h] at hg; obtain rfl := Option.some.inj hg; have := y1.size; simp at hle; omega
      have BY2 : Blk w2 by' 25 y.cells := (BY.alloc _).grown hgrow2 (fun e => by have := hob _ e; omega)
      have hob2 : ∀ g, v2.ownBlock = some g → g ≠ by' := by
        intro g hg
        rcases hfr2 with h | ⟨g', h, hle⟩
        · have := hob g (h ▸ hg); omega
        · rw [h] at hg; obtain rfl := Option.some.inj hg; simp at hle; omega
      have hown0 : w2.ownsRow 0 5 1 v2 (8 * k + 4 + 0) (bytesV (encL (l.take k) ++ (encI y).take (4 + 0))) := hown2
      clear hown2 hgrow2 hfr2 hob hfr y1 hown1 BY d0 d1 d2 d3
      generalize encL (l.take k) = pre at *
      go_wp2_with fail
      go_loopw [3, 6, 32] (fun v _ i wr => ∃ j : Nat, j ≤ 4 ∧ i = .int .i64 (j : Int) ∧ wr.ownsRow 0 5 1 v (8 * k + 4 + j) (bytesV (pre ++ (encI y).take (4 + j))) ∧ Blk wr by' 25 y.cells ∧ Ext [] w wr ∧ (∀ g, v.ownBlock = some g → w.heap.size ≤ g) ∧ (∀ g, v.ownBlock = some g → g ≠ by')) (fun _ _ i _ => 4 - (intOf i).toNat)
      case atStart => exact ⟨0, by omega, rfl, hown0, BY2, x2, fr2, hob2⟩
      case round =>
        clear hown0 BY2 x2 fr2 hob2
        obtain ⟨j, hj, rfl, hown, BY, x, fr, hob⟩ := hrel
        obtain ⟨va, vc, rfl⟩ := owns_slice hown
        by_cases hlt2 : j < 4
        · have hst2 := Lib.hid (enc_tail y j hlt2)
          have him := Lib.hid (imm_at y.imm j hlt2)
          have d4 := BY.cell 4
          simp only [Ins.cells, List.getElem?_cons_zero, List.getElem?_cons_succ] at d4
          go_wp2_with (at_builtin; go_must (refine wpList_app _ rfl (.tmp 35) (.tmp 42) 39 rfl 5 i0 (.int .u8 0) 1 1 Tryd.underlying39 hi hz0 hz1 hz2 rfl (by decide) _ _ _ rfl (owns_ext hown ((Ext.refl [] wr).alloc _) (by simp)) _ 1 _ rfl (blk_reads (Blk.new wr _ _) 1 rfl) (by intro u hu; simp at hu; subst hu; rfl) (by unfold maxLen; omega) (by omega) ?_); intro v3 w3 hown3 hgrow3 hfr3 _)
          go_roundw
          case rel =>
            refine ⟨j + 1, by omega, by go_num, ?_, (BY.alloc _).grown hgrow3 (fun e => hob _ e rfl), (x.alloc _).grown hgrow3 (by intro g hg; exact .inr (fr g hg)), ?_, ?_⟩
            · rw [hst2.out, ← List.append_assoc, bytesV_append, show bytesV [UInt8.ofNat (y.imm.toNat / 256 ^ j)] = [.int .u8 (y.imm.toInt / 2 ^ (8 * j) % 256)] by
                show [Value.int .u8 _] = _
                rw [byte_val, him.out]]
              exact hown3
            · intro g hg
              have := x.size
              rcases hfr3 with h | ⟨g', h, hle'⟩
              · exact fr g (h ▸ hg)
              · rw [h] at hg; obtain rfl := Option.some.inj hg; simp at hle'; omega
            · intro g hg
              have := BY.lt
              rcases hfr3 with h | ⟨g', h, hle'⟩
              · exact hob g (h ▸ hg)
              · rw [h] at hg; obtain rfl := Option.some.inj hg; simp at hle'; omega
          case measure => simp [intOf]; omega
        · have hj4 : j = 4 := by omega
          rw [hj4] at hown
          go_wp2_with fail
          go_roundw
          case rel =>
            refine ⟨k + 1, by omega, by go_num, ?_, x, fr⟩
            rw [hst.out, show 8 * (k + 1) = 8 * k + 4 + 4 by omega]
            have e : (encI y).take (4 + 4) = encI y := by simp [encI]
            rw [e] at hown
            rw [hj4]
            exact hown
          case measure => simp [intOf]; omega
    · have hk' : k = l.length := by omega
      go_wp2_with fail
      go_ret
      refine ⟨_, rfl, ?_, x, hfr⟩
      have h8 : 8 * k = (encL l).length := by rw [encL_length, hk']
      rw [hk', List.take_length, ← encL_length] at hown
      rw [h8]
      exact hown
end Go.Proofs.YtbjkfgfiifnjoaaDoor
