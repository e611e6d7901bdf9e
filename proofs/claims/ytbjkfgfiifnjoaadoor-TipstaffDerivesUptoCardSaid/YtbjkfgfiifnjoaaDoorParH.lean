/- rights.Parse: whatever the text is, it returns some rights and an error or none. -/
import Derived.Deep.CutBlock
import Derived.Test.YtbjkfgfiifnjoaaDoorParG
namespace Go.Proofs.YtbjkfgfiifnjoaaDoor
open Go.RowKit
set_option maxRecDepth 100000

theorem results_rt (tmps : Array Value) (w : World) (b : Nat) (r : Rt) (hp : tmps.getD 2 undef = .pointer (some ⟨b, 0, none⟩)) (hg : Blk w b 84 r.cells) :
    (results Tryd.f36 tmps).run Tryd.prog w = .ok (.tuple #[r.val, tmps.getD 3 undef]) w := by
  rw [results_cell_tmp Tryd.results36, hp]
  have h := run_loadVar_row (P := Tryd.prog) w b 84 84 r.cells.toArray (0, 0) _ hg Tryd.underlying84 rfl (by kernel_rfl)
  simp only [asAddr, Result.andThen, Sem.run_pure, h]
  rfl

/-- What Parse hands back. -/
def ParsePost (w : World) (e : Ending) (w' : World) : Prop := (∃ (r : Rt) (k : Int), e = .returned (.tuple #[r.val, .int .i64 k])) ∧ Ext [] w w'

theorem rt_over {w : World} {b : Nat} {zc : List Value} {r : Rt} (hz : zc.length = 6) (h : Blk w b 84 (zc.take 0 ++ r.cells ++ zc.drop (0 + r.cells.length))) : Blk w b 84 r.cells := by
  rw [List.take_zero, List.nil_append, List.drop_of_length_le (by rw [hz]; exact Nat.le_refl _), List.append_nil] at h
  exact h
theorem rt_one (r : Rt) : ∀ u ∈ r.cells, u.oneCell' = true := by
  intro u hu; simp [Rt.cells] at hu; rcases hu with rfl | rfl | rfl | rfl | rfl | rfl <;> rfl

set_option maxHeartbeats 16000000 in
theorem parse_any (s : ByteArray) (hs : s.size ≤ 1048576) (w : World) (G : ParG w) : Calls Tryd.prog 36 #[.string s] w (ParsePost w) := by
  obtain ⟨wb, hwb⟩ : ∃ wb, wb = (w.alloc (.cells #[.int .u16 0, .int .u16 0, .int .u16 0, .int .u16 0, .bool false, .bool false] 84)).alloc (.cells #[.int .u16 0, .int .u16 0, .int .u16 0, .int .u16 0] 158) := ⟨_, rfl⟩
  have xb : Ext [] w wb := by rw [hwb]; exact ((Ext.refl _ _).alloc _).alloc _
  have BG : Blk wb w.heap.size 84 Rt.none.cells := by rw [hwb]; exact (Blk.new w _ _).alloc _
  have BN : Blk wb (w.heap.size + 1) 158 ([0#16, 0#16, 0#16, 0#16].map fun n : BitVec 16 => .int .u16 (n.toNat : Int)) := by rw [hwb]; exact Blk.new' _ _ _ _ (by simp)
  have HG := Lib.hid (fun w' (x : Ext [] w w') => G.ext x)
  have HX := Lib.hid xb
  clear G xb
  go_enter Tryd.func36, Tryd.ntmps36
  go_upto_region 2 with (fail)
  rw [← hwb]
  obtain ⟨gb, hgb⟩ : ∃ gb, gb = w.heap.size := ⟨_, rfl⟩
  obtain ⟨nb, hnb⟩ : ∃ nb, nb = w.heap.size + 1 := ⟨_, rfl⟩
  rw [← hnb] at BN ⊢
  rw [← hgb] at BG ⊢
  have HGB := Lib.hid hgb
  have HNB := Lib.hid hnb
  clear hgb hnb hwb
  go_wp2_with fail
  refine (split_any s hs wb (HG.out _ HX.out)).mono ?_
  rintro e w2 ⟨ss, rfl, h1, h2, h3, BS, x2⟩
  have hsb := Lib.hid (show wb.heap.size = wb.heap.size from rfl)
  have hne2 : nb < wb.heap.size := BN.lt
  have BG := BG.ext x2 (by simp)
  have BN := BN.ext x2 (by simp)
  have hnl := BN.lt
  have hgl := BG.lt
  have hsl := BS.lt
  have hX2 := Lib.hid (HX.out.trans x2)
  have hle := x2.size
  have hne1 : nb ≠ gb := by have a := HGB.out; have b := HNB.out; omega
  clear x2 hle hsb
  generalize wb.heap.size = sb at *
  clear HX
  have hfit : 0 + ([.int .u16 0, .int .u16 0, .int .u16 0, .int .u16 0, .bool false, .bool false] : List Value).length ≤ Rt.none.cells.length := Nat.le_refl _
  have h1c : ∀ u ∈ ([.int .u16 0, .int .u16 0, .int .u16 0, .int .u16 0, .bool false, .bool false] : List Value), u.oneCell' = true := rt_one Rt.none
  have hsz : (Tryd.prog.info? 84).map (·.size) = some ([.int .u16 0, .int .u16 0, .int .u16 0, .int .u16 0, .bool false, .bool false] : List Value).length := by kernel_rfl
  by_cases h4 : ss.length < 4
  · have BGX := BG
    go_wp2_with (with_reducible refine wpList_strow rfl 84 (.tmp 2) (.tmp 16) rfl gb 0 rfl 84 Rt.none.cells [.int .u16 0, .int .u16 0, .int .u16 0, .int .u16 0, .bool false, .bool false] rfl BGX hfit h1c hsz ?_; intro w7 B7 x7 _)
    refine bodyPost_ret (results_rt _ _ gb Rt.none rfl (rt_over (zc := Rt.none.cells) (r := Rt.none) rfl B7)) rfl ⟨⟨_, _, rfl⟩, ?_⟩
    exact hX2.out.trans' x7 (by intro i hi; rw [List.mem_singleton] at hi; exact .inr (by rw [hi, HGB.out]; exact Nat.le_refl _))
  · have HNE := Lib.hid hne1
    have HNS := Lib.hid hne2
    have HSB := Lib.hid (show sb ≠ nb by omega)
    have BN0 : Blk w2 nb 158 (([0#16, 0#16, 0#16, 0#16] : List (BitVec 16)).map fun n : BitVec 16 => .int .u16 (n.toNat : Int)) := BN
    have hnil : ([0#16, 0#16, 0#16, 0#16] : List (BitVec 16)).length = 4 := rfl
    generalize ([0#16, 0#16, 0#16, 0#16] : List (BitVec 16)) = ns0 at *
    have BS2 := Lib.hid (fun w' (x : Ext [nb] w2 w') => BS.ext x (by have := HSB.out; simpa using this))
    have BG2 := Lib.hid (fun w' (x : Ext [nb] w2 w') => BG.ext x (by have := HNE.out; simp; omega))
    have HX2 := Lib.hid (fun w' (x : Ext [nb] w2 w') => (hX2.out.trans' x (by intro i hi; rw [List.mem_singleton] at hi; exact .inr (by rw [hi, HNB.out]; omega)) : Ext [] w w'))
    have H3 := Lib.hid h3
    clear h3 BS BG BN hne1 hne2 hX2 hgl hsl hnl
    have h40 : ¬ (ss.length : Int) < 4 := by omega
    go_upto_region 6 with (fail)
    go_loopw [17] (fun i wr => ∃ (k : Nat) (ns : List (BitVec 16)), i = .int .i64 (k : Int) ∧ k ≤ 4 ∧ ns.length = 4 ∧ Blk wr nb 158 (ns.map fun n : BitVec 16 => .int .u16 (n.toNat : Int)) ∧ Ext [nb] w2 wr) (fun i _ => 4 - (intOf i).toNat)
    case atStart => exact ⟨0, ns0, rfl, by omega, hnil, BN0, Ext.refl _ _⟩
    case round =>
      clear BN0 hnil
      obtain ⟨k, ns, rfl, hk, hns, BN, x⟩ := hrel
      have BSr := BS2.out wr x
      have BGX := BG2.out wr x
      by_cases hlt : k < 4
      · have hks : k < ss.length := by omega
        have hcell : wr.cell? ⟨sb, k, none⟩ = some (.string ss[k]) := by rw [BSr.cell, List.getElem?_map, List.getElem?_eq_getElem hks]; rfl
        have hxs : ss[k].size ≤ 1048576 := H3.out _ (List.getElem_mem hks)
        have hsl := BSr.lt
        generalize ss[k] = xk at *
        have hks2 : (k : Int) < (ss.length : Int) := by omega
        by_cases hx0 : xk = ⟨#[]⟩
        · subst hx0
          clear BSr
          go_wp2_with (with_reducible refine wpList_strow rfl 84 (.tmp 2) (.tmp 25) rfl gb 0 rfl 84 Rt.none.cells [.int .u16 0, .int .u16 0, .int .u16 0, .int .u16 0, .bool false, .bool false] rfl BGX hfit h1c hsz ?_; intro w7 B7 x7 _)
          refine bodyPost_ret (results_rt _ _ gb Rt.none rfl (rt_over (zc := Rt.none.cells) (r := Rt.none) rfl B7)) rfl ⟨⟨_, _, rfl⟩, ?_⟩
          exact (HX2.out wr x).trans' x7 (by intro i hi; rw [List.mem_singleton] at hi; exact .inr (by rw [hi, HGB.out]; exact Nat.le_refl _))
        · have hxp : 1 ≤ xk.size := by
            rcases Nat.lt_or_ge 0 xk.size with h | h
            · exact h
            · exact absurd (ByteArray.ext (Array.eq_empty_of_size_eq_zero (by have : xk.data.size = xk.size := rfl; omega))) hx0
          have hne : xk.toList.isEmpty = false := by
            cases h : xk.toList.isEmpty with
            | false => rfl
            | true =>
              rw [ByteArray.toList_eq, List.isEmpty_iff] at h
              have h5 : xk.data.toList.length = xk.size := by rw [Array.length_toList]; rfl
              rw [h] at h5
              simp at h5
              omega
          go_upto_region 10 with (fail)
          obtain ⟨xe, hxe⟩ : ∃ xe, xe = xk.extract (1 : Int).toNat xk.size := ⟨_, rfl⟩
          have hxx : xe.size ≤ 1048576 := by rw [hxe, ByteArray.size_extract]; omega
          have hrun : ∀ w', (Instr.slice 9 (.string xk) (some (.int .i64 1)) none none).run Tryd.prog w' = .ok (.string xe) w' := by
            intro w'
            rw [hxe, run_slice_string_from_if (P := Tryd.prog) w' 9 xk .i64 1 Tryd.underlying9, if_pos (by omega)]
          have HGr := Lib.hid (HG.out _ (HX2.out _ x))
          clear BSr hne hx0 hxe hxs
          go_wp2_with fail
          refine (pu_any xe hxx wr HGr.out).mono ?_
          rintro e w3 ⟨⟨n, hn, v, rfl, hv⟩, x3⟩
          have BN3 := BN.ext x3 (by simp)
          have x3 := x.trans' x3 (by simp)
          have BGX := BG2.out _ x3
          rcases hv with rfl | ⟨tt, pp, rfl⟩
          · have hw16 : IntKind.u16.wrap (n : Int) = (n : Int) := by simp [IntKind.wrap, IntKind.bits, IntKind.signed]; omega
            have hc3 := BN3.cellAt (i := k) (by rw [List.length_map]; omega)
            generalize (ns.map fun n : BitVec 16 => Value.int .u16 (n.toNat : Int))[k]'_ = cv at hc3
            have hf3 := BN3.frozen k
            have hnl3 := BN3.lt
            have hk4 : (k : Int) < 4 := by omega
            clear BN BGX
            go_wp2_with fail
            have B4 := BN3.set k (.int .u16 (n : Int))
            have x4 : Ext [nb] w2 (w3.setCell ⟨nb, k, none⟩ (.int .u16 (n : Int))) := x3.setCell (.inl (by simp)) _
            rw [show ((ns.map fun n : BitVec 16 => Value.int .u16 (n.toNat : Int)).set k (.int .u16 (n : Int))) = (ns.set k (BitVec.ofNat 16 n)).map fun n : BitVec 16 => Value.int .u16 (n.toNat : Int) by rw [List.map_set, show (((BitVec.ofNat 16 n).toNat : Nat) : Int) = (n : Int) by rw [BitVec.toNat_ofNat, Nat.mod_eq_of_lt (by omega)]]] at B4
            go_roundw
            case rel => exact ⟨k + 1, ns.set k (BitVec.ofNat 16 n), by go_num, hlt, by simpa using hns, B4, x4⟩
            case measure => simp [intOf]; omega
          · clear BN BN3
            go_wp2_with (with_reducible refine wpList_strow rfl 84 (.tmp 2) (.tmp 37) rfl gb 0 rfl 84 Rt.none.cells [.int .u16 0, .int .u16 0, .int .u16 0, .int .u16 0, .bool false, .bool false] rfl BGX hfit h1c hsz ?_; intro w7 B7 x7 _)
            refine bodyPost_ret (results_rt _ _ gb Rt.none rfl (rt_over (zc := Rt.none.cells) (r := Rt.none) rfl B7)) rfl ⟨⟨_, _, rfl⟩, ?_⟩
            exact (HX2.out _ x3).trans' x7 (by intro i hi; rw [List.mem_singleton] at hi; exact .inr (by rw [hi, HGB.out]; exact Nat.le_refl _))
      · obtain rfl : k = 4 := by omega
        obtain ⟨n0, n1, n2, n3, rfl⟩ : ∃ a b c d, ns = [a, b, c, d] := by
          match ns, hns with
          | [a, b, c, d], _ => exact ⟨a, b, c, d, rfl⟩
        obtain ⟨v, hrv, hok⟩ := rest_run sb ss.length ss.length (by omega) (Nat.le_refl _) wr ss rfl h2 BSr
        have BN : Blk wr nb 158 [.int .u16 (n0.toNat : Int), .int .u16 (n1.toNat : Int), .int .u16 (n2.toNat : Int), .int .u16 (n3.toNat : Int)] := BN
        clear BSr
        have HOK := Lib.hid hok
        clear hok
        go_upto_region 16 with (fail)
        refine parse16 nb n0 n1 n2 n3 v wr BN HOK _ (by kernel_rfl) _ _ _ _ _ _ _ _ _ _ _ _ _ _ _ _ _ _ _ _ _ _ _ _ _ _ _ _ _ _ _ _ _ _ _ _ _ _ _ _ _ _ _ _ _ _ _ _ _ _ _ _ _ _ _ _ _ _ _ _ _ _ _ (fun _ _ _ _ _ h => h) ?_
        intro s45 s46 s47 s48 s49 s50 s51 s52 s53 s54 s55 s56 s57 rb r w4 BR hrb x4
        have x24 : Ext [nb] w2 w4 := x.trans (x4.sub (by simp))
        have HTX := Lib.hid (text_any r w4 (HG.out _ (HX2.out _ x24)))
        have HXX := Lib.hid (HX2.out _ x24)
        have HBG := Lib.hid (BG2.out _ x24)
        obtain ⟨c0, c1, c2, c3, c4, c5, hrl⟩ := rt_cells BR
        have HBR := Lib.hid BR
        clear BN hrv x4 x x24 BR hrb
        unfold Rt.val at HTX
        go_upto_region 17 with (fail)
        go_wp2_with fail
        refine HTX.out.mono ?_
        rintro e w5 ⟨⟨st, rfl⟩, x5⟩
        have BR5 := HBR.out.ext x5 (by simp)
        have BGX := HBG.out.ext x5 (by simp)
        have HX5 := Lib.hid (HXX.out.trans x5)
        clear c0 c1 c2 c3 c4 c5 hrl x5
        cases hq : (st.toList == s.toList)
        · skip
          go_wp2_with (with_reducible refine wpList_strow rfl 84 (.tmp 2) (.tmp 62) rfl gb 0 rfl 84 Rt.none.cells [.int .u16 0, .int .u16 0, .int .u16 0, .int .u16 0, .bool false, .bool false] rfl BGX hfit h1c hsz ?_; intro w7 B7 x7 _)
          refine bodyPost_ret (results_rt _ _ gb Rt.none rfl (rt_over (zc := Rt.none.cells) (r := Rt.none) rfl B7)) rfl ⟨⟨_, _, rfl⟩, ?_⟩
          exact HX5.out.trans' x7 (by intro i hi; rw [List.mem_singleton] at hi; exact .inr (by rw [hi, HGB.out]; exact Nat.le_refl _))
        · obtain ⟨c0, c1, c2, c3, c4, c5, hrl⟩ := rt_cells BR5
          have hfit2 : 0 + ([.int .u16 (r.c.toNat : Int), .int .u16 (r.p.toNat : Int), .int .u16 (r.m.toNat : Int), .int .u16 (r.h.toNat : Int), .bool r.v, .bool r.s] : List Value).length ≤ Rt.none.cells.length := Nat.le_refl _
          have h1c2 : ∀ u ∈ ([.int .u16 (r.c.toNat : Int), .int .u16 (r.p.toNat : Int), .int .u16 (r.m.toNat : Int), .int .u16 (r.h.toNat : Int), .bool r.v, .bool r.s] : List Value), u.oneCell' = true := rt_one r
          have hsz2 : (Tryd.prog.info? 84).map (·.size) = some ([.int .u16 (r.c.toNat : Int), .int .u16 (r.p.toNat : Int), .int .u16 (r.m.toNat : Int), .int .u16 (r.h.toNat : Int), .bool r.v, .bool r.s] : List Value).length := by kernel_rfl
          go_wp2_with (with_reducible refine wpList_strow rfl 84 (.tmp 2) (.tmp 63) rfl gb 0 rfl 84 Rt.none.cells [.int .u16 (r.c.toNat : Int), .int .u16 (r.p.toNat : Int), .int .u16 (r.m.toNat : Int), .int .u16 (r.h.toNat : Int), .bool r.v, .bool r.s] rfl BGX hfit2 h1c2 hsz2 ?_; intro w7 B7 x7 _)
          refine bodyPost_ret (results_rt _ _ gb r rfl (rt_over (zc := Rt.none.cells) (r := r) rfl B7)) rfl ⟨⟨_, _, rfl⟩, ?_⟩
          exact HX5.out.trans' x7 (by intro i hi; rw [List.mem_singleton] at hi; exact .inr (by rw [hi, HGB.out]; exact Nat.le_refl _))
end Go.Proofs.YtbjkfgfiifnjoaaDoor
