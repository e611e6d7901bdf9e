/- The statement TokenDepth. -/
import Derived.Test.YtnjgehfnafdldaaDoorTokH
namespace Go.Proofs.YtnjgehfnafdldaaDoor
open Go.RowKit
set_option maxRecDepth 100000

theorem mod_lit (a : Int) (m : Nat) (h0 : 0 < m) (hm : m ≤ 9223372036854775807) (M : Int) (hM : M = (m : Int)) : ∃ k : Nat, wrap64 ((IntKind.u64.wrap a).tmod M) = (k : Int) ∧ k < m := by
  subst hM
  exact mod_nat a m h0 hm

/-- The rights behind a round's cut, and ahead of it. -/
def rrA (cut h j : Nat) : Rt := if cut ≤ j then lessR h else Rt.all
def rrB (cut h j : Nat) : Rt := if cut < j then lessR h else Rt.all
def chn (cut h : Nat) : Nat → List Tk
  | 0 => []
  | j + 1 => (0, rrA cut h j) :: chn cut h j

def hv (h : Nat) : Int := [1, 2, 3, 5, 7, 87, 88, 89].getD h 0

theorem rr_next (cut h j : Nat) : rrB cut h (j + 1) = rrA cut h j := by simp [rrA, rrB, Nat.lt_succ_iff]
theorem cut_bits (h : Nat) (h8 : h < 8) : bits BinOp.andNot IntKind.u16 ((Rt.all.h.toNat : Nat) : Int) (IntKind.u16.wrap (2 ^ h)) = (((lessR h).h.toNat : Nat) : Int) :=
  (by decide +kernel : ∀ h : Fin 8, bits BinOp.andNot IntKind.u16 ((Rt.all.h.toNat : Nat) : Int) (IntKind.u16.wrap (2 ^ h.val)) = (((lessR h.val).h.toNat : Nat) : Int)) ⟨h, h8⟩
theorem fact_root (cut h : Nat) (hc : cut < 6) (h8 : h < 8) : rootE Tree.one 0 (rrA cut h 0) = 0 :=
  (by decide +kernel : ∀ cut : Fin 6, ∀ h : Fin 8, rootE Tree.one 0 (rrA cut.val h.val 0) = 0) ⟨cut, hc⟩ ⟨h, h8⟩
theorem fact_der (cut h j : Nat) (hc : cut < 6) (h8 : h < 8) (hj : j < 5) : derE Tree.one (0, rrA cut h j) (min (j + 1) 4) 0 (rrA cut h (j + 1)) = if j < 3 then 0 else 7 :=
  (by decide +kernel : ∀ cut : Fin 6, ∀ h : Fin 8, ∀ j : Fin 5, derE Tree.one (0, rrA cut.val h.val j.val) (min (j.val + 1) 4) 0 (rrA cut.val h.val (j.val + 1)) = if j.val < 3 then 0 else 7) ⟨cut, hc⟩ ⟨h, h8⟩ ⟨j, hj⟩
theorem fact_der4 (cut h j : Nat) (hc : cut < 6) (h8 : h < 8) (hj : j < 6) (h4 : 4 ≤ j) : derE Tree.one (0, rrA cut h 3) 4 0 (rrA cut h j) = 7 := by
  have := (by decide +kernel : ∀ cut : Fin 6, ∀ h : Fin 8, ∀ j : Fin 6, 4 ≤ j.val → derE Tree.one (0, rrA cut.val h.val 3) 4 0 (rrA cut.val h.val j.val) = 7) ⟨cut, hc⟩ ⟨h, h8⟩ ⟨j, hj⟩
  exact this h4
theorem fact_help (cut h j : Nat) (hc : cut < 6) (h8 : h < 8) (hj : j < 6) : helpE (rrA cut h j) (hv h) = if j < cut then 0 else 1 :=
  (by decide +kernel : ∀ cut : Fin 6, ∀ h : Fin 8, ∀ j : Fin 6, helpE (rrA cut.val h.val j.val) (hv h.val) = if j.val < cut.val then 0 else 1) ⟨cut, hc⟩ ⟨h, h8⟩ ⟨j, hj⟩
theorem fact_sound (cut h m : Nat) (hc : cut < 6) (h8 : h < 8) (hm : m < 4) : soundB Tree.one (chn cut h (m + 1)) = true :=
  (by decide +kernel : ∀ cut : Fin 6, ∀ h : Fin 8, ∀ m : Fin 4, soundB Tree.one (chn cut.val h.val (m.val + 1)) = true) ⟨cut, hc⟩ ⟨h, h8⟩ ⟨m, hm⟩
theorem fact_hv (h : Nat) (h8 : h < 8) : (#[.int .i32 1, .int .i32 2, .int .i32 3, .int .i32 5, .int .i32 7, .int .i32 87, .int .i32 88, .int .i32 89] : Array Value).toList[h]? = some (.int .i32 (hv h)) := by
  match h, h8 with
  | 0, _ => rfl
  | 1, _ => rfl
  | 2, _ => rfl
  | 3, _ => rfl
  | 4, _ => rfl
  | 5, _ => rfl
  | 6, _ => rfl
  | 7, _ => rfl
  | n + 8, hn => omega
theorem set3 (r : Rt) (v : BitVec 16) : r.cells.set 3 (.int .u16 (v.toNat : Int)) = ({ r with h := v } : Rt).cells := rfl

set_option maxHeartbeats 8000000 in
theorem depth_walk (n at_ bit : Int) (w : World) (G : HelpG w) :
    Calls Tryd.prog 3 #[.int .i64 n, .int .i64 at_, .int .i64 bit] w fun e w' => e = .returned (.bool true) ∧ Ext [] w w' := by
  have HG := Lib.hid (fun w' (x' : Ext [] w w') => G.ext x' (by simp))
  have HN := Lib.hid (tree_new w)
  have HA := Lib.hid all_any
  clear G
  obtain ⟨k, hk, hk6⟩ := mod_lit n 6 (by decide) (by decide) 6 rfl
  obtain ⟨cut, hcut, hc6⟩ := mod_lit at_ 6 (by decide) (by decide) 6 rfl
  obtain ⟨h, hh, hh8⟩ := mod_lit bit 8 (by decide) (by decide) 8 rfl
  have HK := Lib.hid hk
  have HCUT := Lib.hid hcut
  have HH := Lib.hid hh
  clear hk hcut hh
  go_enter Tryd.func3, Tryd.ntmps3
  go_wp2_with fail
  refine HN.out.mono ?_
  rintro e w1 ⟨rfl, T1, x1, -⟩
  generalize w.heap.size + 1 = bt at *
  generalize w.heap.size = bl at *
  clear HN
  go_wp2_with fail
  rw [HK.out, HCUT.out, HH.out]
  rw [show wrap64 (1 + (k : Int)) = ((k + 1 : Nat) : Int) from by rw [IntWalk.wrap64_in _ (by omega)]; omega]
  have xa : Ext [] w1 (w1.alloc (.cells #[.int .i32 1, .int .i32 2, .int .i32 3, .int .i32 5, .int .i32 7, .int .i32 87, .int .i32 88, .int .i32 89] 21)) := (Ext.refl _ _).alloc _
  have BH := Blk.new w1 21 #[.int .i32 1, .int .i32 2, .int .i32 3, .int .i32 5, .int .i32 7, .int .i32 87, .int .i32 88, .int .i32 89]
  generalize (w1.alloc (.cells #[.int .i32 1, .int .i32 2, .int .i32 3, .int .i32 5, .int .i32 7, .int .i32 87, .int .i32 88, .int .i32 89] 21)) = w2 at *
  refine (HA.out _).mono ?_
  rintro e w3 ⟨rfl, x3⟩
  rw [show Rt.all.val = .agg #[.int .u16 255, .int .u16 15, .int .u16 63, .int .u16 255, .bool true, .bool false] from rfl]
  go_wp2_with fail
  have BR : Blk (w3.alloc (.cells #[.int .u16 255, .int .u16 15, .int .u16 63, .int .u16 255, .bool true, .bool false] 28)) w3.heap.size 28 Rt.all.cells := Blk.new w3 _ _
  have xb : Ext [] w3 (w3.alloc (.cells #[.int .u16 255, .int .u16 15, .int .u16 63, .int .u16 255, .bool true, .bool false] 28)) := (Ext.refl _ _).alloc _
  obtain ⟨w4, hw4⟩ : ∃ w4, w4 = (w3.alloc (.cells #[.int .u16 255, .int .u16 15, .int .u16 63, .int .u16 255, .bool true, .bool false] 28)) := ⟨_, rfl⟩
  rw [← hw4] at BR xb
  have hd := derives_any w4 (HG.out _ (x1.trans (xa.trans (x3.trans xb))))
  rw [hw4] at hd
  refine hd.mono ?_
  rw [← hw4]
  rintro e w5 ⟨rfl, x5⟩
  clear hw4 hd
  have BR5 := BR.ext x5 (by simp)
  have hbr : w3.heap.size < w5.heap.size := BR5.lt
  have X15 := xa.trans (x3.trans (xb.trans x5))
  have BH5 := BH.ext (x3.trans (xb.trans x5)) (by simp)
  have hbh : w1.heap.size ≠ w3.heap.size := by
    have h1 := BH.lt
    have h2 := x3.size
    omega
  have hbt : bt ≠ w3.heap.size := by
    have h1 := T1.lt1
    have h2 := (xa.trans x3).size
    omega
  have hbl : bl ≠ w3.heap.size := by
    have h1 := T1.lt2
    have h2 := (xa.trans x3).size
    omega
  have T5 := T1.ext X15 (by simp) (by simp)
  have x05 := x1.trans X15
  have hw0 : w.heap.size ≤ w3.heap.size := (x1.trans (xa.trans x3)).size
  generalize w3.heap.size = br at *
  generalize w1.heap.size = bh at *
  clear BR xb xa x3 x5 X15 BH T1 x1 HA
  have HT := Lib.hid (fun w' (x' : Ext [br] w5 w') => T5.ext x' (by simpa using hbt) (by simpa using hbl))
  have HBH := Lib.hid (fun w' (x' : Ext [br] w5 w') => BH5.ext x' (by simpa using hbh))
  have HGG := Lib.hid (fun w' (x' : Ext [br] w5 w') => HG.out w' (x05.trans' x' (fun i hi => .inr (by simp at hi; omega))))
  have HBR := Lib.hid BR5
  clear T5 BH5 HG BR5
  go_wp2_with fail
  go_loopw [13, 14] (fun p i wr => ∃ (j : Nat) (bs : List Nat), i = .int .i64 j ∧ p = ptrV bs ∧ j ≤ k + 1 ∧ bs.length = min j 4 ∧ Hid (Desc bs) ∧ Hid (∀ b ∈ bs, w5.heap.size ≤ b) ∧ Hid (TokAt wr bs (chn cut h (min j 4))) ∧ Hid (Blk wr br 28 (rrB cut h j).cells) ∧ Ext [br] w5 wr) (fun _ i _ => k + 1 - (intOf i).toNat)
  case atStart => exact ⟨0, [], rfl, rfl, by omega, rfl, Lib.hid List.Pairwise.nil, Lib.hid (by simp), Lib.hid trivial, HBR, Ext.refl _ _⟩
  case round =>
    clear HBR
    obtain ⟨j, bs, rfl, rfl, hj, hlen, HD, HLE, HC, HB, x⟩ := hrel
    by_cases hlt : j < k + 1
    · by_cases hc : j = cut
      · obtain rfl := hc
        rw [show rrB j h j = Rt.all from by simp [rrB]] at HB
        go_wp2_with fail
        obtain ⟨q0, q1, q2, q3, q4, q5, lt⟩ := rt_cells HB.out
        have hz := HB.out.frozen 3
        go_region
        rw [cut_bits h hh8]
        have hxj : Blk (wr.setCell ⟨br, 3, none⟩ (.int .u16 (((lessR h).h.toNat : Nat) : Int))).drew br 28 (rrA j h j).cells := by
          have := HB.out.set 3 (.int .u16 (((lessR h).h.toNat : Nat) : Int))
          rw [set3] at this
          rw [show rrA j h j = lessR h from by simp [rrA]]
          exact this.drew
        have xjj : Ext [br] wr (wr.setCell ⟨br, 3, none⟩ (.int .u16 (((lessR h).h.toNat : Nat) : Int))).drew := ((Ext.refl _ _).setCell (.inl (by simp)) _).drew
        have xj := x.trans xjj
        generalize (wr.setCell ⟨br, 3, none⟩ (.int .u16 (((lessR h).h.toNat : Nat) : Int))).drew = wj at *
        clear q0 q1 q2 q3 q4 q5 lt hz HB
        have HXX := Lib.hid hxj
        have ⟨q0, q1, q2, q3, q4, q5, lt⟩ := rt_cells hxj
        by_cases hj0 : j = 0
        · have hm : min j 4 = j := by omega
          rw [hm] at HC hlen
          have HCj : TokAt wj bs (chn j h j) := HC.out.ext xjj (fun b hb hm => by have := HLE.out b hb; simp at hm; omega)
          have hbs : bs = [] := by cases bs with | nil => rfl | cons b0 bs0 => exfalso; rw [List.length_cons] at hlen; omega
          have hpb : ptrV bs = .pointer none := by rw [hbs]; rfl
          have hd := root_any bt bl 1 Tree.one 0 (rrA j h j) wj (HT.out _ xj)
          have hE : rootE Tree.one 0 (rrA j h j) = 0 := by
            have := fact_root j h (by omega) hh8
            rw [← hj0] at this
            exact this
          rw [hE, ← hpb] at hd
          have HJ0 := Lib.hid hj0
          have hj4 : j < 4 := by omega
          have hj0t : ((j : Int) == 0) = true := by simp [hj0]
          clear hE hbs hpb hj0
          go_wp2_with fail
          refine hd.mono ?_
          intro e wy hy
          obtain ⟨by_, rfl, hby, hsy, xy⟩ := hy.ok
          clear hd hy q0 q1 q2 q3 q4 q5 lt
          have HCy := TokAt.ext0 xy HCj
          have HNEW : TokAt wy (by_ :: bs) ((0, rrA j h j) :: chn j h j) := ⟨hby, HCy⟩
          have hbc := (HBH.out _ (xj.trans (xy.sub (by simp)))).cell h
          rw [fact_hv h hh8] at hbc
          have hbhl := (HBH.out _ (xj.trans (xy.sub (by simp)))).lt
          have hh8i : (h : Int) < 8 := by omega
          go_wp2_with fail
          have hhe := helper_any (by_ :: bs) ((0, rrA j h j) :: chn j h j) (hv h) wy HNEW (HGG.out _ (xj.trans (xy.sub (by simp))))
          rw [show rOf ((0, rrA j h j) :: chn j h j) = rrA j h j from rfl, fact_help j h j (by omega) hh8 (by omega), show ptrV (by_ :: bs) = .pointer (some ⟨by_, 0, none⟩) from rfl] at hhe
          refine hhe.mono ?_
          rintro e wz ⟨rfl, xz⟩
          clear hhe hbc
          have Xz := xj.trans ((xy.trans xz).sub (S := [br]) (by simp))
          have HREL : TokAt wz (by_ :: bs) (chn j h (j + 1)) := TokAt.ext0 xz HNEW
          have HBZ : Blk wz br 28 (rrB j h (j + 1)).cells := by
            rw [rr_next]
            exact hxj.ext (xy.trans xz) (by simp)
          have HDZ : Desc (by_ :: bs) := List.pairwise_cons.2 ⟨fun c hcm => Nat.lt_of_lt_of_le (TokAt.cons HCj c hcm) hsy, HD.out⟩
          have HLZ : ∀ b ∈ by_ :: bs, w5.heap.size ≤ b := by
            intro b hb
            rcases List.mem_cons.1 hb with rfl | hb
            · exact Nat.le_trans xj.size hsy
            · exact HLE.out b hb
          have HREL := Lib.hid HREL
          have HBZ := Lib.hid HBZ
          have HDZ := Lib.hid HDZ
          have HLZ := Lib.hid HLZ
          clear HNEW HCy hby hxj hbhl
          have hlen' : (by_ :: bs).length = min (j + 1) 4 := by rw [List.length_cons, hlen]; omega
          have hm4 : min (j + 1) 4 = j + 1 := by omega
          have hjc : ¬ j < j := by omega
          all_goals
            simp only [hjc, if_false]
            go_wp2_with fail
            go_roundw
            case rel => exact ⟨j + 1, by_ :: bs, by simp, rfl, by omega, hlen', HDZ, HLZ, by rw [hm4]; exact HREL, HBZ, Xz⟩
            case measure => simp [intOf]; omega
        · by_cases hj4 : j < 4
          · obtain ⟨j', hj'⟩ : ∃ j', j = j' + 1 := ⟨j - 1, by omega⟩
            have hm : min j 4 = j := by omega
            rw [hm] at HC hlen
            have HCj : TokAt wj bs (chn j h j) := HC.out.ext xjj (fun b hb hm => by have := HLE.out b hb; simp at hm; omega)
            have hpp : ∃ b0 bs0, bs = b0 :: bs0 := by
              cases bs with
              | nil => exfalso; rw [List.length_nil] at hlen; omega
              | cons b0 bs0 => exact ⟨b0, bs0, rfl⟩
            obtain ⟨b0, bs0, hbs⟩ := hpp
            have e1 : chn j h j = (0, rrA j h j') :: chn j h j' := by rw [show chn j h j = chn j h (j' + 1) from by rw [← hj']]; rfl
            have e2 : rrA j h j = rrA j h (j' + 1) := by rw [← hj']
            have hd := derive_any bt bl 1 b0 bs0 Tree.one (0, rrA j h j') (chn j h j') 0 (rrA j h j) wj (HT.out _ xj) (by rw [e1, hbs] at HCj; exact HCj) (by rw [hbs] at hlen; rw [List.length_cons] at hlen; omega)
            have hE : derE Tree.one (0, rrA j h j') (bs0.length + 1) 0 (rrA j h j) = 0 := by
              have hl : bs0.length + 1 = min (j' + 1) 4 := by rw [hbs] at hlen; rw [List.length_cons] at hlen; omega
              have := fact_der j h j' (by omega) hh8 (by omega)
              rw [if_pos (by omega)] at this
              rw [hl, e2]
              exact this
            rw [hE] at hd
            have hpb : ptrV bs = .pointer (some ⟨b0, 0, none⟩) := by rw [hbs]; rfl
            rw [← hpb] at hd
            clear hE e1 e2 hbs hpb
            clear hj'
            go_wp2_with fail
            refine hd.mono ?_
            intro e wy hy
            obtain ⟨by_, rfl, hby, hsy, xy⟩ := hy.ok
            clear hd hy q0 q1 q2 q3 q4 q5 lt
            have HCy := TokAt.ext0 xy HCj
            have HNEW : TokAt wy (by_ :: bs) ((0, rrA j h j) :: chn j h j) := ⟨hby, HCy⟩
            have hbc := (HBH.out _ (xj.trans (xy.sub (by simp)))).cell h
            rw [fact_hv h hh8] at hbc
            have hbhl := (HBH.out _ (xj.trans (xy.sub (by simp)))).lt
            have hh8i : (h : Int) < 8 := by omega
            go_wp2_with fail
            have hhe := helper_any (by_ :: bs) ((0, rrA j h j) :: chn j h j) (hv h) wy HNEW (HGG.out _ (xj.trans (xy.sub (by simp))))
            rw [show rOf ((0, rrA j h j) :: chn j h j) = rrA j h j from rfl, fact_help j h j (by omega) hh8 (by omega), show ptrV (by_ :: bs) = .pointer (some ⟨by_, 0, none⟩) from rfl] at hhe
            refine hhe.mono ?_
            rintro e wz ⟨rfl, xz⟩
            clear hhe hbc
            have Xz := xj.trans ((xy.trans xz).sub (S := [br]) (by simp))
            have HREL : TokAt wz (by_ :: bs) (chn j h (j + 1)) := TokAt.ext0 xz HNEW
            have HBZ : Blk wz br 28 (rrB j h (j + 1)).cells := by
              rw [rr_next]
              exact hxj.ext (xy.trans xz) (by simp)
            have HDZ : Desc (by_ :: bs) := List.pairwise_cons.2 ⟨fun c hcm => Nat.lt_of_lt_of_le (TokAt.cons HCj c hcm) hsy, HD.out⟩
            have HLZ : ∀ b ∈ by_ :: bs, w5.heap.size ≤ b := by
              intro b hb
              rcases List.mem_cons.1 hb with rfl | hb
              · exact Nat.le_trans xj.size hsy
              · exact HLE.out b hb
            have HREL := Lib.hid HREL
            have HBZ := Lib.hid HBZ
            have HDZ := Lib.hid HDZ
            have HLZ := Lib.hid HLZ
            clear HNEW HCy hby hxj hbhl
            have hlen' : (by_ :: bs).length = min (j + 1) 4 := by rw [List.length_cons, hlen]; omega
            have hm4 : min (j + 1) 4 = j + 1 := by omega
            have hjc : ¬ j < j := by omega
            all_goals
              simp only [hjc, if_false]
              go_wp2_with fail
              go_roundw
              case rel => exact ⟨j + 1, by_ :: bs, by simp, rfl, by omega, hlen', HDZ, HLZ, by rw [hm4]; exact HREL, HBZ, Xz⟩
              case measure => simp [intOf]; omega

          · have hm : min j 4 = 4 := by omega
            rw [hm] at HC hlen
            have HCj : TokAt wj bs (chn j h 4) := HC.out.ext xjj (fun b hb hm => by have := HLE.out b hb; simp at hm; omega)
            have hpp : ∃ b0 bs0, bs = b0 :: bs0 := by
              cases bs with
              | nil => exfalso; rw [List.length_nil] at hlen; omega
              | cons b0 bs0 => exact ⟨b0, bs0, rfl⟩
            obtain ⟨b0, bs0, hbs⟩ := hpp
            have hd := derive_any bt bl 1 b0 bs0 Tree.one (0, rrA j h 3) (chn j h 3) 0 (rrA j h j) wj (HT.out _ xj) (by rw [hbs] at HCj; exact HCj) (by rw [hbs] at hlen; rw [List.length_cons] at hlen; omega)
            have hE : derE Tree.one (0, rrA j h 3) (bs0.length + 1) 0 (rrA j h j) = 7 := by
              have hl : bs0.length + 1 = 4 := by rw [hbs] at hlen; rw [List.length_cons] at hlen; omega
              rw [hl]
              exact fact_der4 j h j (by omega) hh8 (by omega) (by omega)
            rw [hE] at hd
            have hpb : ptrV bs = .pointer (some ⟨b0, 0, none⟩) := by rw [hbs]; rfl
            rw [← hpb] at hd
            clear hE hbs hpb
            go_wp2_with fail
            refine hd.mono ?_
            intro e wy hy
            obtain ⟨rfl, xy⟩ := hy.no (by decide)
            clear hd hy q0 q1 q2 q3 q4 q5 lt
            have Xz := xj.trans (xy.sub (S := [br]) (by simp))
            have HREL := Lib.hid (TokAt.ext0 xy HCj)
            have HBZ : Blk wy br 28 (rrB j h (j + 1)).cells := by
              rw [rr_next]
              exact hxj.ext xy (by simp)
            have HBZ := Lib.hid HBZ
            have hm4 : min (j + 1) 4 = 4 := by omega
            have hj4i : (4 : Int) ≤ j := by omega
            clear hxj
            go_wp2_with fail
            go_roundw
            case rel => exact ⟨j + 1, bs, by simp, rfl, by omega, by rw [hm4]; exact hlen, HD, HLE, by rw [hm4]; exact HREL, HBZ, Xz⟩
            case measure => simp [intOf]; omega

      · have hxj : Blk wr br 28 (rrA cut h j).cells := by
          have := HB.out
          rw [show rrA cut h j = rrB cut h j from by unfold rrA rrB; by_cases h1 : cut < j <;> simp [h1] <;> omega]
          exact this
        have xjj : Ext [br] wr wr := Ext.refl _ _
        have xj := x
        clear HB
        have HXX := Lib.hid hxj
        have ⟨q0, q1, q2, q3, q4, q5, lt⟩ := rt_cells hxj
        by_cases hj0 : j = 0
        · have hm : min j 4 = j := by omega
          rw [hm] at HC hlen
          have HCj : TokAt wr bs (chn cut h j) := HC.out.ext xjj (fun b hb hm => by have := HLE.out b hb; simp at hm; omega)
          have hbs : bs = [] := by cases bs with | nil => rfl | cons b0 bs0 => exfalso; rw [List.length_cons] at hlen; omega
          have hpb : ptrV bs = .pointer none := by rw [hbs]; rfl
          have hd := root_any bt bl 1 Tree.one 0 (rrA cut h j) wr (HT.out _ xj)
          have hE : rootE Tree.one 0 (rrA cut h j) = 0 := by
            have := fact_root cut h (by omega) hh8
            rw [← hj0] at this
            exact this
          rw [hE, ← hpb] at hd
          have HJ0 := Lib.hid hj0
          have hj4 : j < 4 := by omega
          have hj0t : ((j : Int) == 0) = true := by simp [hj0]
          clear hE hbs hpb hj0
          go_wp2_with fail
          refine hd.mono ?_
          intro e wy hy
          obtain ⟨by_, rfl, hby, hsy, xy⟩ := hy.ok
          clear hd hy q0 q1 q2 q3 q4 q5 lt
          have HCy := TokAt.ext0 xy HCj
          have HNEW : TokAt wy (by_ :: bs) ((0, rrA cut h j) :: chn cut h j) := ⟨hby, HCy⟩
          have hbc := (HBH.out _ (xj.trans (xy.sub (by simp)))).cell h
          rw [fact_hv h hh8] at hbc
          have hbhl := (HBH.out _ (xj.trans (xy.sub (by simp)))).lt
          have hh8i : (h : Int) < 8 := by omega
          go_wp2_with fail
          have hhe := helper_any (by_ :: bs) ((0, rrA cut h j) :: chn cut h j) (hv h) wy HNEW (HGG.out _ (xj.trans (xy.sub (by simp))))
          rw [show rOf ((0, rrA cut h j) :: chn cut h j) = rrA cut h j from rfl, fact_help cut h j (by omega) hh8 (by omega), show ptrV (by_ :: bs) = .pointer (some ⟨by_, 0, none⟩) from rfl] at hhe
          refine hhe.mono ?_
          rintro e wz ⟨rfl, xz⟩
          clear hhe hbc
          have Xz := xj.trans ((xy.trans xz).sub (S := [br]) (by simp))
          have HREL : TokAt wz (by_ :: bs) (chn cut h (j + 1)) := TokAt.ext0 xz HNEW
          have HBZ : Blk wz br 28 (rrB cut h (j + 1)).cells := by
            rw [rr_next]
            exact hxj.ext (xy.trans xz) (by simp)
          have HDZ : Desc (by_ :: bs) := List.pairwise_cons.2 ⟨fun c hcm => Nat.lt_of_lt_of_le (TokAt.cons HCj c hcm) hsy, HD.out⟩
          have HLZ : ∀ b ∈ by_ :: bs, w5.heap.size ≤ b := by
            intro b hb
            rcases List.mem_cons.1 hb with rfl | hb
            · exact Nat.le_trans xj.size hsy
            · exact HLE.out b hb
          have HREL := Lib.hid HREL
          have HBZ := Lib.hid HBZ
          have HDZ := Lib.hid HDZ
          have HLZ := Lib.hid HLZ
          clear HNEW HCy hby hxj hbhl
          have hlen' : (by_ :: bs).length = min (j + 1) 4 := by rw [List.length_cons, hlen]; omega
          have hm4 : min (j + 1) 4 = j + 1 := by omega
          by_cases hjc : j < cut
          all_goals
            simp only [hjc, if_true, if_false]
            go_wp2_with fail
            go_roundw
            case rel => exact ⟨j + 1, by_ :: bs, by simp, rfl, by omega, hlen', HDZ, HLZ, by rw [hm4]; exact HREL, HBZ, Xz⟩
            case measure => simp [intOf]; omega
        · by_cases hj4 : j < 4
          · obtain ⟨j', hj'⟩ : ∃ j', j = j' + 1 := ⟨j - 1, by omega⟩
            have hm : min j 4 = j := by omega
            rw [hm] at HC hlen
            have HCj : TokAt wr bs (chn cut h j) := HC.out.ext xjj (fun b hb hm => by have := HLE.out b hb; simp at hm; omega)
            have hpp : ∃ b0 bs0, bs = b0 :: bs0 := by
              cases bs with
              | nil => exfalso; rw [List.length_nil] at hlen; omega
              | cons b0 bs0 => exact ⟨b0, bs0, rfl⟩
            obtain ⟨b0, bs0, hbs⟩ := hpp
            have e1 : chn cut h j = (0, rrA cut h j') :: chn cut h j' := by rw [show chn cut h j = chn cut h (j' + 1) from by rw [← hj']]; rfl
            have e2 : rrA cut h j = rrA cut h (j' + 1) := by rw [← hj']
            have hd := derive_any bt bl 1 b0 bs0 Tree.one (0, rrA cut h j') (chn cut h j') 0 (rrA cut h j) wr (HT.out _ xj) (by rw [e1, hbs] at HCj; exact HCj) (by rw [hbs] at hlen; rw [List.length_cons] at hlen; omega)
            have hE : derE Tree.one (0, rrA cut h j') (bs0.length + 1) 0 (rrA cut h j) = 0 := by
              have hl : bs0.length + 1 = min (j' + 1) 4 := by rw [hbs] at hlen; rw [List.length_cons] at hlen; omega
              have := fact_der cut h j' (by omega) hh8 (by omega)
              rw [if_pos (by omega)] at this
              rw [hl, e2]
              exact this
            rw [hE] at hd
            have hpb : ptrV bs = .pointer (some ⟨b0, 0, none⟩) := by rw [hbs]; rfl
            rw [← hpb] at hd
            clear hE e1 e2 hbs hpb
            clear hj'
            go_wp2_with fail
            refine hd.mono ?_
            intro e wy hy
            obtain ⟨by_, rfl, hby, hsy, xy⟩ := hy.ok
            clear hd hy q0 q1 q2 q3 q4 q5 lt
            have HCy := TokAt.ext0 xy HCj
            have HNEW : TokAt wy (by_ :: bs) ((0, rrA cut h j) :: chn cut h j) := ⟨hby, HCy⟩
            have hbc := (HBH.out _ (xj.trans (xy.sub (by simp)))).cell h
            rw [fact_hv h hh8] at hbc
            have hbhl := (HBH.out _ (xj.trans (xy.sub (by simp)))).lt
            have hh8i : (h : Int) < 8 := by omega
            go_wp2_with fail
            have hhe := helper_any (by_ :: bs) ((0, rrA cut h j) :: chn cut h j) (hv h) wy HNEW (HGG.out _ (xj.trans (xy.sub (by simp))))
            rw [show rOf ((0, rrA cut h j) :: chn cut h j) = rrA cut h j from rfl, fact_help cut h j (by omega) hh8 (by omega), show ptrV (by_ :: bs) = .pointer (some ⟨by_, 0, none⟩) from rfl] at hhe
            refine hhe.mono ?_
            rintro e wz ⟨rfl, xz⟩
            clear hhe hbc
            have Xz := xj.trans ((xy.trans xz).sub (S := [br]) (by simp))
            have HREL : TokAt wz (by_ :: bs) (chn cut h (j + 1)) := TokAt.ext0 xz HNEW
            have HBZ : Blk wz br 28 (rrB cut h (j + 1)).cells := by
              rw [rr_next]
              exact hxj.ext (xy.trans xz) (by simp)
            have HDZ : Desc (by_ :: bs) := List.pairwise_cons.2 ⟨fun c hcm => Nat.lt_of_lt_of_le (TokAt.cons HCj c hcm) hsy, HD.out⟩
            have HLZ : ∀ b ∈ by_ :: bs, w5.heap.size ≤ b := by
              intro b hb
              rcases List.mem_cons.1 hb with rfl | hb
              · exact Nat.le_trans xj.size hsy
              · exact HLE.out b hb
            have HREL := Lib.hid HREL
            have HBZ := Lib.hid HBZ
            have HDZ := Lib.hid HDZ
            have HLZ := Lib.hid HLZ
            clear HNEW HCy hby hxj hbhl
            have hlen' : (by_ :: bs).length = min (j + 1) 4 := by rw [List.length_cons, hlen]; omega
            have hm4 : min (j + 1) 4 = j + 1 := by omega
            by_cases hjc : j < cut
            all_goals
              simp only [hjc, if_true, if_false]
              go_wp2_with fail
              go_roundw
              case rel => exact ⟨j + 1, by_ :: bs, by simp, rfl, by omega, hlen', HDZ, HLZ, by rw [hm4]; exact HREL, HBZ, Xz⟩
              case measure => simp [intOf]; omega

          · have hm : min j 4 = 4 := by omega
            rw [hm] at HC hlen
            have HCj : TokAt wr bs (chn cut h 4) := HC.out.ext xjj (fun b hb hm => by have := HLE.out b hb; simp at hm; omega)
            have hpp : ∃ b0 bs0, bs = b0 :: bs0 := by
              cases bs with
              | nil => exfalso; rw [List.length_nil] at hlen; omega
              | cons b0 bs0 => exact ⟨b0, bs0, rfl⟩
            obtain ⟨b0, bs0, hbs⟩ := hpp
            have hd := derive_any bt bl 1 b0 bs0 Tree.one (0, rrA cut h 3) (chn cut h 3) 0 (rrA cut h j) wr (HT.out _ xj) (by rw [hbs] at HCj; exact HCj) (by rw [hbs] at hlen; rw [List.length_cons] at hlen; omega)
            have hE : derE Tree.one (0, rrA cut h 3) (bs0.length + 1) 0 (rrA cut h j) = 7 := by
              have hl : bs0.length + 1 = 4 := by rw [hbs] at hlen; rw [List.length_cons] at hlen; omega
              rw [hl]
              exact fact_der4 cut h j (by omega) hh8 (by omega) (by omega)
            rw [hE] at hd
            have hpb : ptrV bs = .pointer (some ⟨b0, 0, none⟩) := by rw [hbs]; rfl
            rw [← hpb] at hd
            clear hE hbs hpb
            go_wp2_with fail
            refine hd.mono ?_
            intro e wy hy
            obtain ⟨rfl, xy⟩ := hy.no (by decide)
            clear hd hy q0 q1 q2 q3 q4 q5 lt
            have Xz := xj.trans (xy.sub (S := [br]) (by simp))
            have HREL := Lib.hid (TokAt.ext0 xy HCj)
            have HBZ : Blk wy br 28 (rrB cut h (j + 1)).cells := by
              rw [rr_next]
              exact hxj.ext xy (by simp)
            have HBZ := Lib.hid HBZ
            have hm4 : min (j + 1) 4 = 4 := by omega
            have hj4i : (4 : Int) ≤ j := by omega
            clear hxj
            go_wp2_with fail
            go_roundw
            case rel => exact ⟨j + 1, bs, by simp, rfl, by omega, by rw [hm4]; exact hlen, HD, HLE, by rw [hm4]; exact HREL, HBZ, Xz⟩
            case measure => simp [intOf]; omega
    · obtain ⟨m, hm4⟩ : ∃ m, min j 4 = m + 1 := ⟨min j 4 - 1, by omega⟩
      rw [hm4] at HC
      have hs := sound_any bt bl 1 bs Tree.one (chn cut h (m + 1)) wr (HT.out _ x) HC.out HD.out
      rw [fact_sound cut h m hc6 hh8 (by omega)] at hs
      obtain rfl : j = k + 1 := by omega
      go_wp2_with fail
      refine hs.mono ?_
      rintro e wy ⟨rfl, xy⟩
      clear hs
      go_wp2_with fail
      have hcc := chain_any bs (chn cut h (m + 1)) wy (TokAt.ext0 xy HC.out) (by omega)
      refine hcc.mono ?_
      rintro e wz ⟨v, rfl, hown, xz, -⟩
      obtain ⟨va, vc, rfl⟩ := owns_slice hown
      clear hcc hown
      have hle : (bs.length : Int) = min ((k : Int) + 1) 4 := by omega
      go_wp2_with fail
      all_goals
        go_ret
        refine ⟨?_, x05.trans' ((x.trans ((xy.trans xz).sub (S := [br]) (by simp)))) (fun i hi => .inr (by simp at hi; omega))⟩
        exact congrArg (fun b => Ending.returned (Value.bool b)) (by simp; omega)
end Go.Proofs.YtnjgehfnafdldaaDoor
