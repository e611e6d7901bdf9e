/- Package registry: Find. -/
import Derived.Test.YtgcbgeombbohpaaDoorRegD
namespace Go.Proofs.YtgcbgeombbohpaaDoor
open Go.RowKit
set_option maxRecDepth 100000

theorem wpList_ldpartG {P : Program} {ops : Array Oper} {rest : List Oper} {o : Oper} {a : Act} {w : World} {Q : Exit → Act → World → Prop} (hw : Region.wanted o (yielded ops a.tmps) = true) (ty : TypeId) (x : Operand) (ho : o.op = .load ty x)
    (b off : Nat) (hx : a.eval x = .pointer (some ⟨b, off, none⟩)) (vs : List Value) (d : TypeDesc) (hg : PartAt w b off vs)
    (hu : P.underlying ty = some d) (hd : (match d with | .struct _ | .array _ _ => true | _ => false) = true) (hi : (P.info? ty).map (·.size) = some vs.length)
    (h : wpList P ops Q rest (a.put o.dst (.agg vs.toArray)) w) : wpList P ops Q (o :: rest) a w :=
  wpList_step fun K hK => by
    rw [if_pos hw]
    exact wp_ldpart ty x ho b off hx vs d hg hu hd hi (hK _ _ h)

theorem rfind_nil (sum : List UInt8) (a : Option Addr) (n c : Nat) (w : World) :
    Calls Tryd.prog 11 #[.pointer none, .agg (bytesV sum).toArray, .slice a n c] w fun e' w' => e' = .returned (.tuple #[.int .i64 0, .int .i64 22]) ∧ Ext [] w w' := by
  generalize (bytesV sum).toArray = kv
  go_enter Tryd.func11, Tryd.ntmps11
  go_wp2
  go_ret2
  exact ⟨rfl, (Ext.refl _ _).alloc _⟩

theorem rfindS_no (b : Nat) (es : List RE) (sum s : List UInt8) (a : Option Addr) (n c : Nat) (w : World) (hn : n = s.length) (hs : s.length ≠ 2048) :
    Calls Tryd.prog 11 #[.pointer (some ⟨b, 0, none⟩), .agg (bytesV sum).toArray, .slice a n c] w fun e' w' => e' = .returned (fsV es sum s) ∧ Ext [] w w' := by
  have HE := Lib.hid (show fsV es sum s = .tuple #[.int .i64 0, .int .i64 22] from if_neg hs)
  have h1 : ((n : Int) != 2048) = true := by rw [bne_iff_ne]; omega
  generalize fsV es sum s = R at *
  generalize (bytesV sum).toArray = kv
  clear hn hs
  go_enter Tryd.func11, Tryd.ntmps11
  go_wp2
  go_ret2
  exact ⟨by rw [HE.out]; rfl, (Ext.refl _ _).alloc _⟩

set_option maxHeartbeats 8000000 in
theorem rfindS_any (b : Nat) (v : Value) (es : List RE) (sum s : List UInt8) (sv : Value) (w : World) (G : DigG w) (h : RegAt w b v es) (hn : es.length ≤ 1000) (hsl : sum.length = 32) (hs : s.length = 2048) (ho : w.ownsRow 0 5 1 sv 2048 (bytesV s)) :
    Calls Tryd.prog 11 #[.pointer (some ⟨b, 0, none⟩), .agg (bytesV sum).toArray, sv] w fun e' w' => e' = .returned (fsV es sum s) ∧ Ext [] w w' := by
  have HE := Lib.hid (show fsV es sum s = if fsN es sum s < es.length then .tuple #[.int .i64 (fsN es sum s : Int), .int .i64 0] else .tuple #[.int .i64 0, .int .i64 129] from if_pos hs)
  have HN1 := Lib.hid (fun k (hk : k < es.length) h1 h2 => fsN_at es sum s k hk h1 h2)
  have HN2 := Lib.hid (fsN_none es sum s)
  have HV := Lib.hid (fun key w' (x : Ext [] w w') (hk : key.length = 32) => verify_own key sum s sv w' (G.ext x (by simp) (by simp)) hk hsl hs (owns_ext ho x (by simp)))
  have hc := h.hd.cell 0
  obtain ⟨va, vc, rfl⟩ := owns_slice h.own
  obtain ⟨sa, sc, rfl⟩ := owns_slice ho
  have HPE := Lib.hid (fun w' (x : Ext [] w w') k (hk : k < es.length) => (show ∃ g, va = some ⟨g, 0, none⟩ ∧ PartAt w' g (k * 33) (entV es[k]) ∧ es[k].1.length = 32 from by
    obtain ⟨g, c', cur, he, -, -, -, -, -⟩ := owns_some h.own (by omega)
    cases he
    exact ⟨g, rfl, (h.ext0 x).entry k hk, h.len _ (List.getElem_mem hk)⟩))
  have hsv : (bytesV sum).length = 32 := by rw [bytesV_length, hsl]
  obtain ⟨mv, hmv⟩ : ∃ mv, mv = bytesV sum := ⟨_, rfl⟩
  rw [← hmv] at HV hsv ⊢
  generalize fsV es sum s = R at *
  have hlt := h.hd.lt
  clear hmv h ho hs hsl G
  have hu3 := Tryd.underlying22
  have hue := Tryd.underlying62
  have hsz3 : (Tryd.prog.info? 22).map (·.size) = some mv.length := by rw [hsv]; kernel_rfl
  go_enter Tryd.func11, Tryd.ntmps11
  go_upto_region 1 with (fail)
  show Code.wp _ _ _ _ (w.alloc (.cells mv.toArray 22))
  have BM : Blk (w.alloc (.cells mv.toArray 22)) w.heap.size 22 mv := Blk.new w _ mv.toArray
  have x1 : Ext [] w (w.alloc (.cells mv.toArray 22)) := (Ext.refl _ _).alloc _
  have hc1 := (x1.cell (p := ⟨b, 0, none⟩) hlt (by simp)).trans hc
  generalize w.alloc (.cells mv.toArray 22) = w1 at *
  clear hc
  go_wp2_with fail
  clear hc1
  go_loopw [22] (fun i wr => ∃ k : Nat, k ≤ es.length ∧ i = .int .i64 (k : Int) ∧ (∀ j, j < k → (es[j]?.map (fsP sum s)) ≠ some true) ∧ Ext [] w1 wr) (fun i _ => es.length - (intOf i).toNat)
  case atStart => exact ⟨0, Nat.zero_le _, rfl, fun j hj => by omega, Ext.refl _ _⟩
  case round =>
    obtain ⟨k, hk, rfl, hno, x⟩ := hrel
    have HNO := Lib.hid hno
    clear hno
    by_cases hlt : k < es.length
    · obtain ⟨g, rfl, hpe, hel⟩ := HPE.out wr (x1.trans x) k hlt
      have HAT := Lib.hid (show es[k]? = some es[k] from List.getElem?_eq_getElem hlt)
      have HN := Lib.hid (HN1.out k hlt HNO.out)
      generalize es[k] = ek at *
      have hevl := entV_length ek hel
      have hevo := entV_one ek
      have hkl : (bytesV ek.1).length = 32 := by rw [bytesV_length, hel]
      have HPL := Lib.hid (fun (w' : World) b (h : Blk w' b 62 (entV ek)) => (show PartAt w' b 0 (bytesV ek.1) ∧ w'.cell? ⟨b, 32, none⟩ = some (.bool ek.2) from ⟨part_left (show PartAt w' b 0 (bytesV ek.1 ++ [.bool ek.2]) from h.part), by
        rw [h.cell]
        unfold entV
        rw [List.getElem?_append_right (by omega), hkl]; rfl⟩))
      have HVK := Lib.hid (fun w' (x' : Ext [] w w') => HV.out ek.1 w' x' hel)
      have HFP := Lib.hid (show fsP sum s ek = (!ek.2 && decide (verR ek.1 sum s = 0)) from rfl)
      have hszk : (Tryd.prog.info? 22).map (·.size) = some (bytesV ek.1).length := by rw [hkl]; kernel_rfl
      generalize verR ek.1 sum s = VR at *
      generalize bytesV ek.1 = kv at *
      generalize hev : entV ek = ev at *
      have hsze : (Tryd.prog.info? 62).map (·.size) = some ev.length := by rw [hevl]; kernel_rfl
      obtain ⟨zz, hzz⟩ : ∃ zz, zz = entV (List.replicate 32 0, false) := ⟨_, rfl⟩
      have hzl : zz.length = 33 := by rw [hzz]; rfl
      clear hev hel
      go_wp2_with (with_reducible refine wpList_ldpart rfl 62 (.tmp 25) rfl g (k * 33) rfl ev _ hpe hue rfl hsze ?_)
      refine upon_strow wr.heap.size 0 62 _ ev (hzz ▸ Blk.new wr 62 zz.toArray) (by rw [hevl]; exact Nat.le_refl _) hevo ?_
      intro w2 H2 x2 hs2
      clear hs2
      have e9 : zz.take 0 ++ ev ++ zz.drop (0 + ev.length) = ev := by
        rw [hevl, List.take_zero, List.nil_append, List.drop_of_length_le (by omega), List.append_nil]
      rw [hzz] at e9
      have H2 : Blk w2 wr.heap.size 62 ev := e9 ▸ H2
      have x12 : Ext [] wr w2 := ((Ext.refl [] wr).alloc _).trans' x2 (by simp)
      clear e9 x2 hzz hzl
      generalize wr.heap.size = bw at *
      obtain ⟨hpk, hp32⟩ := HPL.out w2 bw H2
      have y2 := x.trans x12
      have BM2 := BM.ext y2 (by simp)
      have HVK2 := Lib.hid (HVK.out w2 (x1.trans y2))
      clear HPL HVK hpe H2 x12 x hevo hevl
      by_cases hsp : ek.2 = true
      · rw [hsp] at hp32
        have HNO2 := Lib.hid (show ∀ j, j < k + 1 → (es[j]?.map (fsP sum s)) ≠ some true from fun j hj => by
          by_cases h : j < k
          · exact HNO.out j h
          · obtain rfl : j = k := by omega
            rw [HAT.out, Option.map_some, HFP.out, hsp]; simp)
        clear hsp HFP HN
        go_wp2_with fail
        go_roundw
        case rel => exact ⟨k + 1, by omega, by go_num, HNO2.out, y2⟩
        case measure => simp [intOf]; omega
      · rw [show ek.2 = false by simpa using hsp] at hp32
        by_cases hz : VR = 0
        · have HR := Lib.hid (show R = .tuple #[.int .i64 (k : Int), .int .i64 0] by
            rw [HE.out, HN.out (by rw [HFP.out, hz]; simpa using hsp), if_pos hlt])
          clear hsp HFP HN
          subst hz
          go_wp2_with (first
            | (with_reducible refine wpList_ldpartG rfl 22 (.tmp 31) rfl bw 0 rfl kv _ hpk hu3 rfl hszk ?_)
            | (with_reducible refine wpList_ldpartG rfl 22 (.tmp 4) rfl w.heap.size 0 rfl mv _ BM2.part hu3 rfl hsz3 ?_))
          refine HVK2.out.mono ?_
          rintro e w3 ⟨rfl, x3⟩
          go_wp2_with fail
          go_ret2
          exact ⟨by rw [HR.out]; rfl, x1.trans (y2.trans x3)⟩
        · have HNO2 := Lib.hid (show ∀ j, j < k + 1 → (es[j]?.map (fsP sum s)) ≠ some true from fun j hj => by
            by_cases h : j < k
            · exact HNO.out j h
            · obtain rfl : j = k := by omega
              rw [HAT.out, Option.map_some, HFP.out, decide_eq_false hz]; simp)
          have hz2 : (VR == 0) = false := by rw [beq_eq_false_iff_ne]; exact hz
          clear hsp HFP HN hz
          go_wp2_with (first
            | (with_reducible refine wpList_ldpartG rfl 22 (.tmp 31) rfl bw 0 rfl kv _ hpk hu3 rfl hszk ?_)
            | (with_reducible refine wpList_ldpartG rfl 22 (.tmp 4) rfl w.heap.size 0 rfl mv _ BM2.part hu3 rfl hsz3 ?_))
          refine HVK2.out.mono ?_
          rintro e w3 ⟨rfl, x3⟩
          have y3 := y2.trans x3
          go_wp2_with fail
          go_roundw
          case rel => exact ⟨k + 1, by omega, by go_num, HNO2.out, y3⟩
          case measure => simp [intOf]; omega
    · obtain rfl : k = es.length := by omega
      have HR := Lib.hid (show R = .tuple #[.int .i64 0, .int .i64 129] by
        rw [HE.out, HN2.out HNO.out, if_neg (Nat.lt_irrefl _)])
      go_wp2_with fail
      go_ret2
      exact ⟨by rw [HR.out]; rfl, x1.trans x⟩
end Go.Proofs.YtgcbgeombbohpaaDoor
