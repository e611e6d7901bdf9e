/- The statement TokenDerives. -/
import Derived.Test.YtnjgehfnafdldaaDoorTokQ
namespace Go.Proofs.YtnjgehfnafdldaaDoor
open Go.RowKit
set_option maxRecDepth 100000

set_option maxHeartbeats 32000000 in
theorem tderives_walk (v : Value) (n : Int) (helper : Int) (w : World) (hv : CaseArg w v) (G : HelpG w) :
    Calls Tryd.prog 5 #[v, .int .i64 n, .int .i32 helper] w fun e w' => e = .returned (.bool true) ∧ Ext [] w w' := by
  obtain ⟨a1, len1, cap1, z1, a2, len2, cap2, ch, rfl, r1, rfl, hle2, hst⟩ := hv
  obtain ⟨hl, hm, -, b, off, hA, hB, hC⟩ := r1.at
  unfold maxLen at hm
  obtain ⟨hm2, b2, o2, h20, h2c⟩ := hst
  unfold maxLen at hm2
  obtain ⟨wa, hwa⟩ : ∃ wa, wa = w.alloc (.cells #[.slice a1 len1 cap1, .slice a2 ch.length cap2] 44) := ⟨_, rfl⟩
  have xa : Ext [] w wa := by rw [hwa]; exact (Ext.refl _ _).alloc _
  have BC : Blk wa w.heap.size 44 [.slice a1 len1 cap1, .slice a2 ch.length cap2] := by rw [hwa]; exact Blk.new w _ _
  have HG := Lib.hid (fun w' (x' : Ext [] wa w') => G.ext (xa.trans x') (by simp))
  have HA := Lib.hid hA
  have HC := Lib.hid (fun i (hi : i < z1.length) => (show wa.cell? ⟨b, off + i, none⟩ = some (.int .i64 (z1.getD i 0)) from (xa.cell (hB (by omega)) (by simp)).trans (hC i hi)))
  have HB := Lib.hid (fun (hi : 0 < z1.length) => Nat.lt_of_lt_of_le (hB hi) xa.size)
  have HS0 := Lib.hid (fun (hi : 0 < ch.length) => (⟨(h20 hi).1, Nat.lt_of_lt_of_le (h20 hi).2 xa.size⟩ : a2 = some ⟨b2, o2, none⟩ ∧ b2 < wa.heap.size))
  have HSC := Lib.hid (fun w' (x' : Ext [] wa w') k (hk : k < ch.length) => st_here (w := w') (b := b2) (o := o2) (k := k) (x := ch[k]) (fun j hj => ((xa.trans x').cell (h20 (by omega)).2 (by simp)).trans (h2c k hk j hj)))
  have hbc := BC.lt
  clear hA hB hC r1 G h20 h2c
  have HXA := Lib.hid xa
  go_enter Tryd.func5, Tryd.ntmps5
  go_wp2_with fail
  rw [← hwa]
  clear hwa xa
  generalize w.heap.size = bc at *
  refine (root_nil 0 Rt.none wa).mono ?_
  rintro e w1 ⟨rfl, x1⟩
  go_wp2_with fail
  refine (tree_new w1).mono ?_
  rintro e w2 ⟨rfl, T2, x2, -⟩
  go_wp2_with fail
  refine (derive_nil _ 0 Rt.none w2).mono ?_
  rintro e w3 ⟨rfl, x3⟩
  have X3 := x1.trans (x2.trans x3)
  clear x1 x2 x3 T2
  go_wp2_with fail
  refine (derives_any w3 (HG.out _ X3)).mono ?_
  rintro e w4 ⟨rfl, x4⟩
  have X4 := X3.trans x4
  clear X3 x4
  go_wp2_with fail
  have hcc := chain_any [] [] w4 trivial (by simp)
  rw [show ptrV [] = .pointer none from rfl] at hcc
  refine hcc.mono ?_
  rintro e w5 ⟨vq, rfl, hown, x5, -⟩
  obtain ⟨va, vc, rfl⟩ := owns_slice hown
  have X5 := X4.trans x5
  clear X4 x5 hcc hown
  rw [show ([] : List Nat).length = 0 from rfl]
  go_wp2_with fail
  refine (tree_new w5).mono ?_
  rintro e w6 ⟨rfl, T6, x6, -⟩
  have X6 := X5.trans x6
  clear X5 x6
  go_wp2_with fail
  have hss := sound_any _ _ 1 [] Tree.one [] w6 T6 trivial List.Pairwise.nil
  rw [show ptrV [] = .pointer none from rfl, show soundB Tree.one [] = false from rfl] at hss
  refine hss.mono ?_
  rintro e w7 ⟨rfl, x7⟩
  have X7 := X6.trans x7
  clear X6 x7 hss T6
  obtain ⟨n1, n2, n3, n4⟩ := nil_has
  have N1 := Lib.hid n1
  have N2 := Lib.hid n2
  have N3 := Lib.hid n3
  have N4 := Lib.hid n4
  clear n1 n2 n3 n4
  go_wp2_with fail
  have hcm := command_any [] [] 0 w7 trivial
  rw [show ptrV [] = .pointer none from rfl, N1.out] at hcm
  refine hcm.mono ?_
  rintro e w8 ⟨rfl, x8⟩
  have X8 := X7.trans x8
  clear X7 x8 hcm
  go_wp2_with fail
  have hcm := program_any [] [] 0 w8 trivial
  rw [show ptrV [] = .pointer none from rfl, N2.out] at hcm
  refine hcm.mono ?_
  rintro e w9 ⟨rfl, x9⟩
  have X9 := X8.trans x9
  clear X8 x9 hcm
  go_wp2_with fail
  have hcm := map_any [] [] 0 w9 trivial
  rw [show ptrV [] = .pointer none from rfl, N3.out] at hcm
  refine hcm.mono ?_
  rintro e w10 ⟨rfl, x10⟩
  have X10 := X9.trans x10
  clear X9 x10 hcm
  go_wp2_with fail
  have hcm := helper_any [] [] 1 w10 trivial (HG.out _ X10)
  rw [show ptrV [] = .pointer none from rfl, N4.out] at hcm
  refine hcm.mono ?_
  rintro e w0 ⟨rfl, x11⟩
  have X0 := X10.trans x11
  clear X10 x11 hcm N1 N2 N3 N4
  go_wp2_with fail
  refine (tree_new w0).mono ?_
  rintro e w1 ⟨rfl, T1, x1, hz1⟩
  go_wp2_with fail
  refine (ref_new w1).mono ?_
  rintro e w2 ⟨bw, bu, cr, rfl, R1, x2, hf3, hf4⟩
  have l1 := T1.lt1
  have l2 := T1.lt2
  generalize hbt : w0.heap.size + 1 = bt at *
  go_upto_block 0 with (fail)
  go_cut [13] from 74 to 98 (fun i wr => ∃ (bl c bu c' : Nat) (T : Tree), Pair w0.heap.size wr bt bl c bw bu c' T ∧ Ext [] w0 wr)
  case first =>
    go_wp2_with fail
    go_loopw [13] (fun i wr => ∃ (k bl c bu c' : Nat) (T : Tree), k ≤ len1 ∧ k ≤ 10 ∧ i = .int .i64 k ∧ Pair w0.heap.size wr bt bl c bw bu c' T ∧ Ext [] w0 wr) (fun i _ => 10 - (intOf i).toNat)
    case atStart =>
      exact ⟨0, _, _, _, _, _, Nat.zero_le _, by omega, rfl, ⟨T1.ext x2 (by simp) (by simp), R1, by omega, by omega, by omega, by omega, by omega, by omega, by omega, by omega⟩, x1.trans x2⟩
    case round =>
      clear T1 R1 hz1 l1 l2 x1 x2 hf4
      obtain ⟨k, bl, c, bu, c', T, hk, hk10, rfl, P, x⟩ := hrel
      have hbc0 : wr.cell? ⟨bc, 0, none⟩ = some (.slice a1 len1 cap1) := (BC.ext (X0.trans x) (by simp)).cell 0
      have hbcl := (BC.ext (X0.trans x) (by simp)).lt
      by_cases hlt : k < len1 ∧ k < 10
      · obtain ⟨hlt, h9⟩ := hlt
        obtain rfl := HA.out (by omega)
        have hb := HB.out (by omega)
        have hcell : wr.cell? ⟨b, off + k, none⟩ = some (.int .i64 (z1.getD k 0)) := by
          rw [(X0.trans x).cell hb (by simp)]; exact HC.out k (by omega)
        have hcell0 := Lib.hid (show wa.cell? ⟨b, off + k, none⟩ = some (.int .i64 (z1.getD k 0)) from HC.out k (by omega))
        have hbw := Nat.lt_of_lt_of_le hb (X0.trans x).size
        generalize z1.getD k 0 = z at *
        go_wp2_with fail
        refine (make_any _ _ _ z T wr P.t).mono ?_
        rintro e w3 ⟨bl', cp', rfl, T2, x3, hbl⟩
        have l1 := P.t.lt1
        have l2 := P.t.lt2
        have l3 := P.r.lt1
        have l4 := P.r.lt2
        have q1 := P.n1
        have q2 := P.n2
        have q3 := P.n3
        have q4 := P.n4
        have q5 := P.f2
        have q0 := P.f1
        have hsz := x.size
        have x13 : Ext [] w0 w3 := x.trans' x3 (by intro i hi; simp at hi; rcases hi with rfl | rfl <;> omega)
        have hcell3 : w3.cell? ⟨b, off + k, none⟩ = some (.int .i64 z) := by rw [(X0.trans x13).cell hb (by simp)]; exact hcell0.out
        have hbc3 : w3.cell? ⟨bc, 0, none⟩ = some (.slice (some ⟨b, off, none⟩) len1 cap1) := (BC.ext (X0.trans x13) (by simp)).cell 0
        have hbcl3 := (BC.ext (X0.trans x13) (by simp)).lt
        have hbw3 := Nat.lt_of_lt_of_le hb (X0.trans x13).size
        have R2 := P.r.ext x3 (by simp; omega) (by simp; omega)
        clear hcell hbc0
        go_wp2_with fail
        refine (rmake_any _ _ _ z T w3 R2).mono ?_
        rintro e w4 ⟨bu', cp2, rfl, R3, x4, hbu⟩
        have l5 := T2.lt1
        have l6 := T2.lt2
        have q6 := P.f4
        have q7 := P.f3
        go_wp2_with fail
        go_roundw
        case rel =>
          have hs3 := x3.size
          refine ⟨k + 1, bl', cp', bu', cp2, _, by omega, by omega, by go_num, ⟨T2.ext x4 (by simp; omega) (by simp; omega), R3, by omega, by omega, by omega, by omega, by omega, by omega, by omega, by omega⟩, ?_⟩
          exact x13.trans' x4 (by intro i hi; simp at hi; rcases hi with rfl | rfl <;> omega)
        case measure => simp [intOf]; omega
      · have hge : (k < len1 ∧ k = 10) ∨ ¬ k < len1 := by omega
        clear HA HB HC hlt
        rcases hge with ⟨hlt', rfl⟩ | hlt'
        all_goals
          go_wp2_with fail
          go_meet
          exact ⟨_, _, _, _, _, P, x⟩
  case rest =>
    obtain ⟨bl, c, bu, c', T, P, x⟩ := hcut
    have HT := Lib.hid (fun w' (x' : Ext [] wc w') => P.t.ext x' (by simp) (by simp))
    have HR := Lib.hid (fun w' (x' : Ext [] wc w') => P.r.ext x' (by simp) (by simp))
    have HBC := Lib.hid (fun w' (x' : Ext [] wc w') => (⟨(BC.ext ((X0.trans x).trans x') (by simp)).cell 1, (BC.ext ((X0.trans x).trans x') (by simp)).lt⟩ : w'.cell? ⟨bc, 1, none⟩ = some (.slice a2 ch.length cap2) ∧ bc < w'.heap.size))
    have HGR := Lib.hid (fun w' (x' : Ext [] wc w') => HG.out w' ((X0.trans x).trans x'))
    have HSR := Lib.hid (fun w' (x' : Ext [] wc w') => HSC.out w' ((X0.trans x).trans x'))
    have HXW := Lib.hid (fun w' (x' : Ext [] wc w') => HXA.out.trans ((X0.trans x).trans x'))
    have HS2 := Lib.hid (fun (hi : 0 < ch.length) => (⟨(HS0.out hi).1, Nat.lt_of_lt_of_le (HS0.out hi).2 (X0.trans x).size⟩ : a2 = some ⟨b2, o2, none⟩ ∧ b2 < wc.heap.size))
    clear P BC HG HSC x X0 HS0 HXA HA HB HC T1 R1 x1 x2 hz1 hf3 hf4 l1 l2 hbt hbc
    generalize hw5 : wc = w5 at *
    clear hw5
    go_upto_block 2 with (fail)
    go_cut [14, 15, 16] from 99 to 182 (fun p v i wr => ∃ (bs : List Nat) (cs : List Tk), p = ptrV bs ∧ cs.length ≤ 9 ∧ Inv2 w5 wr T bs cs v ∧ Ext [] w5 wr)
    case first =>
      go_wp2_with fail
      go_loopw [14, 15, 16] (fun p v i wr => ∃ (k : Nat) (bs : List Nat) (cs : List Tk), i = .int .i64 k ∧ p = ptrV bs ∧ k ≤ ch.length ∧ k ≤ 9 ∧ cs.length ≤ k ∧ Inv2 w5 wr T bs cs v ∧ Ext [] w5 wr) (fun _ _ i _ => 9 - (intOf i).toNat)
      case atStart => exact ⟨0, [], [], rfl, rfl, Nat.zero_le _, by omega, Nat.le_refl _, ⟨rfl, List.Pairwise.nil, by simpa [stV] using World.ownsRow_nil _ _ _ _, trivial, .inl rfl, by simp, fun g h => by cases h⟩, Ext.refl _ _⟩
      case round =>
        obtain ⟨k, bs, cs, rfl, rfl, hkl, hk9, hck, I, x⟩ := hrel
        have hb1 := HBC.out wr x
        obtain ⟨hb1, hb1l⟩ := hb1
        by_cases hlt2 : k < ch.length ∧ k < 9
        · obtain ⟨hlt, h6⟩ := hlt2
          obtain ⟨rfl, hb2⟩ := HS2.out (by omega)
          have hcs := HSR.out wr x k hlt
          obtain ⟨⟨sa, sr⟩, hs⟩ : ∃ s, ch[k] = s := ⟨_, rfl⟩
          rw [hs] at hcs
          dsimp only at hcs
          obtain ⟨c0, c1, c2, c3, c4, c5, c6⟩ := hcs
          have hb2l := Nat.lt_of_lt_of_le hb2 x.size
          clear hs
          obtain ⟨w6, hw6⟩ : ∃ w6, w6 = wr.alloc (.cells #[.int .i64 sa, .int .u16 (sr.c.toNat : Int), .int .u16 (sr.p.toNat : Int), .int .u16 (sr.m.toNat : Int), .int .u16 (sr.h.toNat : Int), .bool sr.v, .bool sr.s] 52) := ⟨_, rfl⟩
          have BS : Blk w6 wr.heap.size 52 (stCells (sa, sr)) := by rw [hw6]; exact Blk.new _ _ _
          have X6 : Ext [] wr w6 := by rw [hw6]; exact (Ext.refl _ _).alloc _
          have HBS := Lib.hid (fun w' (x' : Ext [] w6 w') => BS.ext x' (by simp))
          have HTO := Lib.hid (fun r w' => to_any r w')
          unfold Rt.val at HTO
          obtain ⟨E, hE⟩ : ∃ E, moreE T cs.reverse (sa, sr) = E := ⟨_, rfl⟩
          have HMORE := Lib.hid (fun w' (x' : Ext [] w6 w') => rmore_any bw bu c' T u15 cs.length cs (sa, sr) w' (HR.out _ (x.trans (X6.trans x'))) (I.ext (X6.trans x')).own rfl (by omega))
          rw [hE, show (stCells (sa, sr)).toArray = #[.int .i64 sa, .int .u16 (sr.c.toNat : Int), .int .u16 (sr.p.toNat : Int), .int .u16 (sr.m.toNat : Int), .int .u16 (sr.h.toNat : Int), .bool sr.v, .bool sr.s] from rfl] at HMORE
          have hgo : (bs = [] ∧ cs = []) ∨ ∃ b0 bs0, bs = b0 :: bs0 := by
            have := I.len
            cases bs with
            | nil => exact .inl ⟨rfl, List.length_eq_zero_iff.1 this.symm⟩
            | cons b0 bs0 => exact .inr ⟨b0, bs0, rfl⟩
          rcases hgo with ⟨hbs, hcs⟩ | ⟨b0, bs0, hbs⟩
          · have hpb : ptrV bs = .pointer none := by rw [hbs]; rfl
            have HPB := Lib.hid hpb
            have HRT := Lib.hid (fun w' (x' : Ext [] w6 w') => root_any bt bl c T sa sr w' (HT.out _ (x.trans (X6.trans x'))))
            have hE' : rootE T sa sr = E := by rw [← hE, hcs]; rfl
            rw [hE'] at HRT
            clear hbs hcs hE'
            unfold Rt.val at HRT
            rw [hpb]
            clear hpb
            go_upto_region 20 with (fail)
            rw [← hw6]
            clear hw6 c0 c1 c2 c3 c4 c5 c6 BS hb1 hb1l hb2l
            generalize wr.heap.size = ns at *
            by_cases hz : E = 0
            · subst hz
              have HNEW := Lib.hid (fun w' (x' : Ext [] w6 w') => (HRT.out w' x').mono (fun e w'' h => h.ok))
              clear HRT
              have zz : Ext [] w6 w6.drew := (Ext.refl _ _).drew
              refine wp_region_held_drew (S := fun w' => Ext [] w6 w') (by kernel_rfl) zz (fun hS => ?_)
              refine wpAnyH_take (i := 0) (oi := ⟨some 118, _, _, _, _, _⟩) (v := ?_) rfl (by kernel_rfl) (by kernel_rfl) (by kernel_rfl) (fun _ _ _ h => h) (Or.inl ⟨by rfl, ?_⟩) (by assumption) ?_
              rotate_left 1
              · (intro w hSw; (try dsimp only at hSw); go_split_ands; (try go_simp); (try with_reducible rfl))
              try simp only [Act.put, List.setIfInBounds_toArray, List.set_cons_zero, List.set_cons_succ]
              refine wpAnyH_take (i := 1) (oi := ⟨some 119, _, _, _, _, _⟩) (v := ?_) rfl (by kernel_rfl) (by kernel_rfl) (by kernel_rfl) (fun _ _ _ h => h) (Or.inl ⟨by rfl, ?_⟩) (by assumption) ?_
              rotate_left 1
              · (intro w hSw; (try dsimp only at hSw); go_split_ands; (try go_simp); (try with_reducible rfl))
              try simp only [Act.put, List.setIfInBounds_toArray, List.set_cons_zero, List.set_cons_succ]
              refine wpAnyH_take (i := 2) (oi := ⟨some 120, _, _, _, _, _⟩) (v := ?_) rfl (by kernel_rfl) (by kernel_rfl) (by kernel_rfl) (fun _ _ _ h => h) (Or.inl ⟨by rfl, ?_⟩) (by assumption) ?_
              rotate_left 1
              · (intro w hSw; (try dsimp only at hSw); go_split_ands; obtain ⟨p0, p1, p2, p3, p4, p5, p6, p7⟩ := st_cells (HBS.out _ hSw); (try go_simp); (try with_reducible rfl))
              try simp only [Act.put, List.setIfInBounds_toArray, List.set_cons_zero, List.set_cons_succ]
              refine wpAnyH_take (i := 3) (oi := ⟨some 121, _, _, _, _, _⟩) (v := ?_) rfl (by kernel_rfl) (by kernel_rfl) (by kernel_rfl) (fun _ _ _ h => h) (Or.inl ⟨by rfl, ?_⟩) (by assumption) ?_
              rotate_left 1
              · (intro w hSw; (try dsimp only at hSw); go_split_ands; (try go_simp); (try with_reducible rfl))
              try simp only [Act.put, List.setIfInBounds_toArray, List.set_cons_zero, List.set_cons_succ]
              refine wpAnyH_take (i := 4) (oi := ⟨some 122, _, _, _, _, _⟩) (v := ?_) rfl (by kernel_rfl) (by kernel_rfl) (by kernel_rfl) (fun _ _ _ h => h) (Or.inl ⟨by rfl, ?_⟩) (by assumption) ?_
              rotate_left 1
              · (intro w hSw; (try dsimp only at hSw); go_split_ands; obtain ⟨p0, p1, p2, p3, p4, p5, p6, p7⟩ := st_cells (HBS.out _ hSw); (try go_simp); (try with_reducible rfl))
              try simp only [Act.put, List.setIfInBounds_toArray, List.set_cons_zero, List.set_cons_succ]
              refine wpAnyH_ready (rs := [5]) (by kernel_rfl) (by simp) ?_
              refine AllReadyH.cons (o := ⟨some 123, _, _, _, _, _⟩) rfl (fun K hK => ?_) AllReadyH.nil
              go_simp
              refine (HTO.out sr _).mono ?_
              rintro e W5 ⟨rfl, x6⟩
              go_simp
              have hk := hS.trans x6
              refine hK.out _ _ hk (fun hS => ?_)
              clear hK K
              try simp only [Act.put, List.setIfInBounds_toArray, List.set_cons_zero, List.set_cons_succ]
              have hwd := (X6.trans hS).size
              generalize W5 = wd at *
              refine wpAnyH_ready (rs := [6]) (by kernel_rfl) (by simp) ?_
              refine AllReadyH.cons (o := ⟨some 124, _, _, _, _, _⟩) rfl (fun K hK => ?_) AllReadyH.nil
              go_simp
              refine (HNEW.out _ hS).mono ?_
              rintro e W6 ⟨nb, rfl, BN, hnb, x7⟩
              go_simp
              have hk := hS.trans x7
              refine hK.out _ _ hk (fun hS => ?_)
              clear hK K
              try simp only [Act.put, List.setIfInBounds_toArray, List.set_cons_zero, List.set_cons_succ]
              generalize W6 = wx at *
              refine wpAnyH_take (i := 7) (oi := ⟨some 117, _, _, _, _, _⟩) (v := ?_) rfl (by kernel_rfl) (by kernel_rfl) (by kernel_rfl) (fun _ _ _ h => h) (Or.inl ⟨by rfl, ?_⟩) (by assumption) ?_
              rotate_left 1
              · (intro w hSw; (try dsimp only at hSw); go_split_ands; (try go_simp); (try with_reducible rfl))
              try simp only [Act.put, List.setIfInBounds_toArray, List.set_cons_zero, List.set_cons_succ]
              refine wpAnyH_take (i := 8) (oi := ⟨some 125, _, _, _, _, _⟩) (v := ?_) rfl (by kernel_rfl) (by kernel_rfl) (by kernel_rfl) (fun _ _ _ h => h) (Or.inl ⟨by rfl, ?_⟩) (by assumption) ?_
              rotate_left 1
              · (intro w hSw; (try dsimp only at hSw); go_split_ands; (try go_simp); (try with_reducible rfl))
              try simp only [Act.put, List.setIfInBounds_toArray, List.set_cons_zero, List.set_cons_succ]
              refine wpAnyH_take (i := 10) (oi := ⟨some 18, _, _, _, _, _⟩) (v := ?_) rfl (by kernel_rfl) (by kernel_rfl) (by kernel_rfl) (fun _ _ _ h => h) (Or.inl ⟨by rfl, ?_⟩) (by assumption) ?_
              rotate_left 1
              · (intro w hSw; (try dsimp only at hSw); go_split_ands; (try go_simp); (try with_reducible rfl))
              try simp only [Act.put, List.setIfInBounds_toArray, List.set_cons_zero, List.set_cons_succ]
              refine wpAnyH_take (i := 9) (oi := ⟨some 126, _, _, _, _, _⟩) (v := ?_) rfl (by kernel_rfl) (by kernel_rfl) (by kernel_rfl) (fun _ _ _ h => h) (Or.inl ⟨by rfl, ?_⟩) (by assumption) ?_
              rotate_left 1
              · (intro w hSw; (try dsimp only at hSw); go_split_ands; (try go_simp); (try with_reducible rfl))
              try simp only [Act.put, List.setIfInBounds_toArray, List.set_cons_zero, List.set_cons_succ]
              refine wpAnyH_take (i := 11) (oi := ⟨some 19, _, _, _, _, _⟩) (v := ?_) rfl (by kernel_rfl) (by kernel_rfl) (by kernel_rfl) (fun _ _ _ h => h) (Or.inl ⟨by rfl, ?_⟩) (by assumption) ?_
              rotate_left 1
              · (intro w hSw; (try dsimp only at hSw); go_split_ands; (try go_simp); (try with_reducible rfl))
              try simp only [Act.put, List.setIfInBounds_toArray, List.set_cons_zero, List.set_cons_succ]
              refine wpAnyH_done (by kernel_rfl) ?_ _

              have X : Ext [] w6 wx := hS
              clear hS zz
              obtain ⟨p0, p1, p2, p3, p4, p5, p6, p7⟩ := st_cells (HBS.out _ X)
              go_wp2_with fail
              refine (HMORE.out _ X).mono ?_
              rintro e wy ⟨rfl, xy⟩
              clear p0 p1 p2 p3 p4 p5 p6 p7
              have hBY := BN.ext xy (by simp)
              have HBY := Lib.hid (fun w' (x' : Ext [] wy w') => hBY.ext x' (by simp))
              clear hBY
              have Xy := X.trans xy
              go_upto_region 25 with (fail)
              have zz : Ext [] wy wy.drew := (Ext.refl _ _).drew
              refine wp_region_held_drew (S := fun w' => Ext [] wy w') (by kernel_rfl) zz (fun hS => ?_)
              refine wpAnyH_take (i := 0) (oi := ⟨some 153, _, _, _, _, _⟩) (v := ?_) rfl (by kernel_rfl) (by kernel_rfl) (by kernel_rfl) (fun _ _ _ h => h) (Or.inl ⟨by rfl, ?_⟩) (by assumption) ?_
              rotate_left 1
              · (intro w hSw; (try dsimp only at hSw); go_split_ands; (try go_simp); (try with_reducible rfl))
              try simp only [Act.put, List.setIfInBounds_toArray, List.set_cons_zero, List.set_cons_succ]
              refine wpAnyH_take (i := 1) (oi := ⟨some 154, _, _, _, _, _⟩) (v := ?_) rfl (by kernel_rfl) (by kernel_rfl) (by kernel_rfl) (fun _ _ _ h => h) (Or.inl ⟨by rfl, ?_⟩) (by assumption) ?_
              rotate_left 1
              · (intro w hSw; (try dsimp only at hSw); go_split_ands; (try go_simp); (try with_reducible rfl))
              try simp only [Act.put, List.setIfInBounds_toArray, List.set_cons_zero, List.set_cons_succ]
              refine wpAnyH_take (i := 2) (oi := ⟨some 155, _, _, _, _, _⟩) (v := ?_) rfl (by kernel_rfl) (by kernel_rfl) (by kernel_rfl) (fun _ _ _ h => h) (Or.inl ⟨by rfl, ?_⟩) (by assumption) ?_
              rotate_left 1
              · (intro w hSw; (try dsimp only at hSw); go_split_ands; (try go_simp); (try with_reducible rfl))
              try simp only [Act.put, List.setIfInBounds_toArray, List.set_cons_zero, List.set_cons_succ]
              refine wpAnyH_take (i := 3) (oi := ⟨some 156, _, _, _, _, _⟩) (v := ?_) rfl (by kernel_rfl) (by kernel_rfl) (by kernel_rfl) (fun _ _ _ h => h) (Or.inl ⟨by rfl, ?_⟩) (by assumption) ?_
              rotate_left 1
              · (intro w hSw; (try dsimp only at hSw); go_split_ands; obtain ⟨t0, t1, t2, t3, t4, t5, t6, t7, tlt⟩ := tk_cells (HBY.out _ hSw); (try go_simp); (try with_reducible rfl))
              try simp only [Act.put, List.setIfInBounds_toArray, List.set_cons_zero, List.set_cons_succ]
              refine wpAnyH_take (i := 4) (oi := ⟨some 157, _, _, _, _, _⟩) (v := ?_) rfl (by kernel_rfl) (by kernel_rfl) (by kernel_rfl) (fun _ _ _ h => h) (Or.inl ⟨by rfl, ?_⟩) (by assumption) ?_
              rotate_left 1
              · (intro w hSw; (try dsimp only at hSw); go_split_ands; (try go_simp); (try with_reducible rfl))
              try simp only [Act.put, List.setIfInBounds_toArray, List.set_cons_zero, List.set_cons_succ]
              refine wpAnyH_take (i := 5) (oi := ⟨some 158, _, _, _, _, _⟩) (v := ?_) rfl (by kernel_rfl) (by kernel_rfl) (by kernel_rfl) (fun _ _ _ h => h) (Or.inl ⟨by rfl, ?_⟩) (by assumption) ?_
              rotate_left 1
              · (intro w hSw; (try dsimp only at hSw); go_split_ands; obtain ⟨p0, p1, p2, p3, p4, p5, p6, p7⟩ := st_cells (HBS.out _ (Xy.trans hSw)); (try go_simp); (try with_reducible rfl))
              try simp only [Act.put, List.setIfInBounds_toArray, List.set_cons_zero, List.set_cons_succ]
              refine wpAnyH_take (i := 6) (oi := ⟨some 159, _, _, _, _, _⟩) (v := ?_) rfl (by kernel_rfl) (by kernel_rfl) (by kernel_rfl) (fun _ _ _ h => h) (Or.inl ⟨by rfl, ?_⟩) (by assumption) ?_
              rotate_left 1
              · (intro w hSw; (try dsimp only at hSw); go_split_ands; (try go_simp); (try with_reducible rfl))
              try simp only [Act.put, List.setIfInBounds_toArray, List.set_cons_zero, List.set_cons_succ]
              refine wpAnyH_take (i := 7) (oi := ⟨some 160, _, _, _, _, _⟩) (v := ?_) rfl (by kernel_rfl) (by kernel_rfl) (by kernel_rfl) (fun _ _ _ h => h) (Or.inl ⟨by rfl, ?_⟩) (by assumption) ?_
              rotate_left 1
              · (intro w hSw; (try dsimp only at hSw); go_split_ands; (try go_simp); (try with_reducible rfl))
              try simp only [Act.put, List.setIfInBounds_toArray, List.set_cons_zero, List.set_cons_succ]
              refine wpAnyH_take (i := 8) (oi := ⟨some 161, _, _, _, _, _⟩) (v := ?_) rfl (by kernel_rfl) (by kernel_rfl) (by kernel_rfl) (fun _ _ _ h => h) (Or.inl ⟨by rfl, ?_⟩) (by assumption) ?_
              rotate_left 1
              · (intro w hSw; (try dsimp only at hSw); go_split_ands; (try go_simp); (try with_reducible rfl))
              try simp only [Act.put, List.setIfInBounds_toArray, List.set_cons_zero, List.set_cons_succ]
              refine wpAnyH_take (i := 9) (oi := ⟨some 162, _, _, _, _, _⟩) (v := ?_) rfl (by kernel_rfl) (by kernel_rfl) (by kernel_rfl) (fun _ _ _ h => h) (Or.inl ⟨by rfl, ?_⟩) (by assumption) ?_
              rotate_left 1
              · (intro w hSw; (try dsimp only at hSw); go_split_ands; (try go_simp); (try with_reducible rfl))
              try simp only [Act.put, List.setIfInBounds_toArray, List.set_cons_zero, List.set_cons_succ]
              refine wpAnyH_take (i := 10) (oi := ⟨some 163, _, _, _, _, _⟩) (v := ?_) rfl (by kernel_rfl) (by kernel_rfl) (by kernel_rfl) (fun _ _ _ h => h) (Or.inl ⟨by rfl, ?_⟩) (by assumption) ?_
              rotate_left 1
              · (intro w hSw; (try dsimp only at hSw); go_split_ands; (try go_simp); (try with_reducible rfl))
              try simp only [Act.put, List.setIfInBounds_toArray, List.set_cons_zero, List.set_cons_succ]
              refine wpAnyH_take (i := 11) (oi := ⟨some 164, _, _, _, _, _⟩) (v := ?_) rfl (by kernel_rfl) (by kernel_rfl) (by kernel_rfl) (fun _ _ _ h => h) (Or.inl ⟨by rfl, ?_⟩) (by assumption) ?_
              rotate_left 1
              · (intro w hSw; (try dsimp only at hSw); go_split_ands; obtain ⟨t0, t1, t2, t3, t4, t5, t6, t7, tlt⟩ := tk_cells (HBY.out _ hSw); (try go_simp); (try with_reducible rfl))
              try simp only [Act.put, List.setIfInBounds_toArray, List.set_cons_zero, List.set_cons_succ]
              refine wpAnyH_take (i := 12) (oi := ⟨some 165, _, _, _, _, _⟩) (v := ?_) rfl (by kernel_rfl) (by kernel_rfl) (by kernel_rfl) (fun _ _ _ h => h) (Or.inl ⟨by rfl, ?_⟩) (by assumption) ?_
              rotate_left 1
              · (intro w hSw; (try dsimp only at hSw); go_split_ands; (try go_simp); (try with_reducible rfl))
              try simp only [Act.put, List.setIfInBounds_toArray, List.set_cons_zero, List.set_cons_succ]
              refine wpAnyH_take (i := 13) (oi := ⟨some 166, _, _, _, _, _⟩) (v := ?_) rfl (by kernel_rfl) (by kernel_rfl) (by kernel_rfl) (fun _ _ _ h => h) (Or.inl ⟨by rfl, ?_⟩) (by assumption) ?_
              rotate_left 1
              · (intro w hSw; (try dsimp only at hSw); go_split_ands; obtain ⟨p0, p1, p2, p3, p4, p5, p6, p7⟩ := st_cells (HBS.out _ (Xy.trans hSw)); (try go_simp); (try with_reducible rfl))
              try simp only [Act.put, List.setIfInBounds_toArray, List.set_cons_zero, List.set_cons_succ]
              refine wpAnyH_ready (rs := [14]) (by kernel_rfl) (by simp) ?_
              refine AllReadyH.cons (o := ⟨some 167, _, _, _, _, _⟩) rfl (fun K hK => ?_) AllReadyH.nil
              go_simp
              refine (HTO.out sr _).mono ?_
              rintro e W14 ⟨rfl, x9⟩
              go_simp
              have hk := hS.trans x9
              refine hK.out _ _ hk (fun hS => ?_)
              clear hK K
              try simp only [Act.put, List.setIfInBounds_toArray, List.set_cons_zero, List.set_cons_succ]
              generalize W14 = wz at *
              refine wpAnyH_take (i := 15) (oi := ⟨some 168, _, _, _, _, _⟩) (v := ?_) rfl (by kernel_rfl) (by kernel_rfl) (by kernel_rfl) (fun _ _ _ h => h) (Or.inl ⟨by rfl, ?_⟩) (by assumption) ?_
              rotate_left 1
              · (intro w hSw; (try dsimp only at hSw); go_split_ands; (try go_simp); (try with_reducible rfl))
              try simp only [Act.put, List.setIfInBounds_toArray, List.set_cons_zero, List.set_cons_succ]
              refine wpAnyH_take (i := 16) (oi := ⟨some 169, _, _, _, _, _⟩) (v := ?_) rfl (by kernel_rfl) (by kernel_rfl) (by kernel_rfl) (fun _ _ _ h => h) (Or.inl ⟨by rfl, ?_⟩) (by assumption) ?_
              rotate_left 1
              · (intro w hSw; (try dsimp only at hSw); go_split_ands; (try go_simp); (try with_reducible rfl))
              try simp only [Act.put, List.setIfInBounds_toArray, List.set_cons_zero, List.set_cons_succ]
              refine wpAnyH_take (i := 17) (oi := ⟨some 170, _, _, _, _, _⟩) (v := ?_) rfl (by kernel_rfl) (by kernel_rfl) (by kernel_rfl) (fun _ _ _ h => h) (Or.inl ⟨by rfl, ?_⟩) (by assumption) ?_
              rotate_left 1
              · (intro w hSw; (try dsimp only at hSw); go_split_ands; (try go_simp); (try with_reducible rfl))
              try simp only [Act.put, List.setIfInBounds_toArray, List.set_cons_zero, List.set_cons_succ]
              refine wpAnyH_take (i := 18) (oi := ⟨some 171, _, _, _, _, _⟩) (v := ?_) rfl (by kernel_rfl) (by kernel_rfl) (by kernel_rfl) (fun _ _ _ h => h) (Or.inl ⟨by rfl, ?_⟩) (by assumption) ?_
              rotate_left 1
              · (intro w hSw; (try dsimp only at hSw); go_split_ands; (try go_simp); (try with_reducible rfl))
              try simp only [Act.put, List.setIfInBounds_toArray, List.set_cons_zero, List.set_cons_succ]
              refine wpAnyH_take (i := 19) (oi := ⟨some 172, _, _, _, _, _⟩) (v := ?_) rfl (by kernel_rfl) (by kernel_rfl) (by kernel_rfl) (fun _ _ _ h => h) (Or.inl ⟨by rfl, ?_⟩) (by assumption) ?_
              rotate_left 1
              · (intro w hSw; (try dsimp only at hSw); go_split_ands; (try go_simp); (try with_reducible rfl))
              try simp only [Act.put, List.setIfInBounds_toArray, List.set_cons_zero, List.set_cons_succ]
              refine wpAnyH_take (i := 20) (oi := ⟨some 173, _, _, _, _, _⟩) (v := ?_) rfl (by kernel_rfl) (by kernel_rfl) (by kernel_rfl) (fun _ _ _ h => h) (Or.inl ⟨by rfl, ?_⟩) (by assumption) ?_
              rotate_left 1
              · (intro w hSw; (try dsimp only at hSw); go_split_ands; (try go_simp); (try with_reducible rfl))
              try simp only [Act.put, List.setIfInBounds_toArray, List.set_cons_zero, List.set_cons_succ]
              refine wpAnyH_take (i := 21) (oi := ⟨some 174, _, _, _, _, _⟩) (v := ?_) rfl (by kernel_rfl) (by kernel_rfl) (by kernel_rfl) (fun _ _ _ h => h) (Or.inl ⟨by rfl, ?_⟩) (by assumption) ?_
              rotate_left 1
              · (intro w hSw; (try dsimp only at hSw); go_split_ands; obtain ⟨t0, t1, t2, t3, t4, t5, t6, t7, tlt⟩ := tk_cells (HBY.out _ hSw); (try go_simp); (try with_reducible rfl))
              try simp only [Act.put, List.setIfInBounds_toArray, List.set_cons_zero, List.set_cons_succ]
              refine wpAnyH_take (i := 22) (oi := ⟨some 175, _, _, _, _, _⟩) (v := ?_) rfl (by kernel_rfl) (by kernel_rfl) (by kernel_rfl) (fun _ _ _ h => h) (Or.inl ⟨by rfl, ?_⟩) (by assumption) ?_
              rotate_left 1
              · (intro w hSw; (try dsimp only at hSw); go_split_ands; (try go_simp); (try with_reducible rfl))
              try simp only [Act.put, List.setIfInBounds_toArray, List.set_cons_zero, List.set_cons_succ]
              refine wpAnyH_take (i := 23) (oi := ⟨some 176, _, _, _, _, _⟩) (v := ?_) rfl (by kernel_rfl) (by kernel_rfl) (by kernel_rfl) (fun _ _ _ h => h) (Or.inl ⟨by rfl, ?_⟩) (by assumption) ?_
              rotate_left 1
              · (intro w hSw; (try dsimp only at hSw); go_split_ands; (try go_simp); (try with_reducible rfl))
              try simp only [Act.put, List.setIfInBounds_toArray, List.set_cons_zero, List.set_cons_succ]
              refine wpAnyH_take (i := 24) (oi := ⟨some 177, _, _, _, _, _⟩) (v := ?_) rfl (by kernel_rfl) (by kernel_rfl) (by kernel_rfl) (fun _ _ _ h => h) (Or.inl ⟨by rfl, ?_⟩) (by assumption) ?_
              rotate_left 1
              · (intro w hSw; (try dsimp only at hSw); go_split_ands; (try go_simp); (try with_reducible rfl))
              try simp only [Act.put, List.setIfInBounds_toArray, List.set_cons_zero, List.set_cons_succ]
              refine wpAnyH_done (by kernel_rfl) ?_ _
              have Xz := Xy.trans hS
              have IZ := I.ext (X6.trans Xz)
              have OWN := Lib.hid (owns_ext IZ.own ((Ext.refl [] wz).alloc (.cells #[.int .i64 sa, .int .u16 (sr.c.toNat : Int), .int .u16 (sr.p.toNat : Int), .int .u16 (sr.m.toNat : Int), .int .u16 (sr.h.toNat : Int), .bool sr.v, .bool sr.s] 52)) (by simp))
              have hEI := Lib.hid hE
              clear hE IZ
              obtain ⟨p0, p1, p2, p3, p4, p5, p6, p7⟩ := st_cells (HBS.out _ Xz)
              obtain ⟨i0, hi, hz0, hz1, hz2⟩ := info_parts info_step
              go_wp2_with (at_builtin; go_must (refine wpList_app _ rfl (.tmp 179) (.tmp 181) 42 rfl 52 i0 _ 7 24 Tryd.underlying42 hi hz0 hz1 hz2 rfl (by decide) u15 cs.length (stV cs) rfl OWN.out _ 1 (stCells (sa, sr)) rfl (blk_reads (Blk.new wz _ _) 1 rfl) (stCells_one _) (by unfold maxLen; omega) (by omega) ?_); intro v3 w3 hown3 hgrow3 hfr3 _)
              clear p0 p1 p2 p3 p4 p5 p6 p7 OWN
              have I2 := Inv2.more I x (X6.trans (Xz.alloc _)) (by rw [HPB.out]; exact HBY.out _ (hS.alloc _)) (by omega) hEI.out hown3 hgrow3 hfr3
              have XF := I.far x (X6.trans (Xz.alloc _)) hgrow3
              clear hown3 hgrow3 hfr3
              go_wp2_with fail
              go_roundw
              case rel => exact ⟨k + 1, nb :: bs, cs ++ [(sa, sr)], by go_num, rfl, by omega, by omega, by simp; omega, I2, XF⟩
              case measure => simp [intOf]; omega
            · have HNEW := Lib.hid (fun w' (x' : Ext [] w6 w') => (HRT.out w' x').mono (fun e w'' h => h.no hz))
              clear HRT
              have hzb : (E == 0) = false := by simp [hz]
              have zz : Ext [] w6 w6.drew := (Ext.refl _ _).drew
              refine wp_region_held_drew (S := fun w' => Ext [] w6 w') (by kernel_rfl) zz (fun hS => ?_)
              refine wpAnyH_take (i := 0) (oi := ⟨some 118, _, _, _, _, _⟩) (v := ?_) rfl (by kernel_rfl) (by kernel_rfl) (by kernel_rfl) (fun _ _ _ h => h) (Or.inl ⟨by rfl, ?_⟩) (by assumption) ?_
              rotate_left 1
              · (intro w hSw; (try dsimp only at hSw); go_split_ands; (try go_simp); (try with_reducible rfl))
              try simp only [Act.put, List.setIfInBounds_toArray, List.set_cons_zero, List.set_cons_succ]
              refine wpAnyH_take (i := 1) (oi := ⟨some 119, _, _, _, _, _⟩) (v := ?_) rfl (by kernel_rfl) (by kernel_rfl) (by kernel_rfl) (fun _ _ _ h => h) (Or.inl ⟨by rfl, ?_⟩) (by assumption) ?_
              rotate_left 1
              · (intro w hSw; (try dsimp only at hSw); go_split_ands; (try go_simp); (try with_reducible rfl))
              try simp only [Act.put, List.setIfInBounds_toArray, List.set_cons_zero, List.set_cons_succ]
              refine wpAnyH_take (i := 2) (oi := ⟨some 120, _, _, _, _, _⟩) (v := ?_) rfl (by kernel_rfl) (by kernel_rfl) (by kernel_rfl) (fun _ _ _ h => h) (Or.inl ⟨by rfl, ?_⟩) (by assumption) ?_
              rotate_left 1
              · (intro w hSw; (try dsimp only at hSw); go_split_ands; obtain ⟨p0, p1, p2, p3, p4, p5, p6, p7⟩ := st_cells (HBS.out _ hSw); (try go_simp); (try with_reducible rfl))
              try simp only [Act.put, List.setIfInBounds_toArray, List.set_cons_zero, List.set_cons_succ]
              refine wpAnyH_take (i := 3) (oi := ⟨some 121, _, _, _, _, _⟩) (v := ?_) rfl (by kernel_rfl) (by kernel_rfl) (by kernel_rfl) (fun _ _ _ h => h) (Or.inl ⟨by rfl, ?_⟩) (by assumption) ?_
              rotate_left 1
              · (intro w hSw; (try dsimp only at hSw); go_split_ands; (try go_simp); (try with_reducible rfl))
              try simp only [Act.put, List.setIfInBounds_toArray, List.set_cons_zero, List.set_cons_succ]
              refine wpAnyH_take (i := 4) (oi := ⟨some 122, _, _, _, _, _⟩) (v := ?_) rfl (by kernel_rfl) (by kernel_rfl) (by kernel_rfl) (fun _ _ _ h => h) (Or.inl ⟨by rfl, ?_⟩) (by assumption) ?_
              rotate_left 1
              · (intro w hSw; (try dsimp only at hSw); go_split_ands; obtain ⟨p0, p1, p2, p3, p4, p5, p6, p7⟩ := st_cells (HBS.out _ hSw); (try go_simp); (try with_reducible rfl))
              try simp only [Act.put, List.setIfInBounds_toArray, List.set_cons_zero, List.set_cons_succ]
              refine wpAnyH_ready (rs := [5]) (by kernel_rfl) (by simp) ?_
              refine AllReadyH.cons (o := ⟨some 123, _, _, _, _, _⟩) rfl (fun K hK => ?_) AllReadyH.nil
              go_simp
              refine (HTO.out sr _).mono ?_
              rintro e W5 ⟨rfl, x6⟩
              go_simp
              have hk := hS.trans x6
              refine hK.out _ _ hk (fun hS => ?_)
              clear hK K
              try simp only [Act.put, List.setIfInBounds_toArray, List.set_cons_zero, List.set_cons_succ]
              have hwd := (X6.trans hS).size
              generalize W5 = wd at *
              refine wpAnyH_ready (rs := [6]) (by kernel_rfl) (by simp) ?_
              refine AllReadyH.cons (o := ⟨some 124, _, _, _, _, _⟩) rfl (fun K hK => ?_) AllReadyH.nil
              go_simp
              refine (HNEW.out _ hS).mono ?_
              rintro e W6 ⟨rfl, x7⟩
              go_simp
              have hk := hS.trans x7
              refine hK.out _ _ hk (fun hS => ?_)
              clear hK K
              try simp only [Act.put, List.setIfInBounds_toArray, List.set_cons_zero, List.set_cons_succ]
              generalize W6 = wx at *
              refine wpAnyH_take (i := 7) (oi := ⟨some 117, _, _, _, _, _⟩) (v := ?_) rfl (by kernel_rfl) (by kernel_rfl) (by kernel_rfl) (fun _ _ _ h => h) (Or.inl ⟨by rfl, ?_⟩) (by assumption) ?_
              rotate_left 1
              · (intro w hSw; (try dsimp only at hSw); go_split_ands; (try go_simp); (try with_reducible rfl))
              try simp only [Act.put, List.setIfInBounds_toArray, List.set_cons_zero, List.set_cons_succ]
              refine wpAnyH_take (i := 8) (oi := ⟨some 125, _, _, _, _, _⟩) (v := ?_) rfl (by kernel_rfl) (by kernel_rfl) (by kernel_rfl) (fun _ _ _ h => h) (Or.inl ⟨by rfl, ?_⟩) (by assumption) ?_
              rotate_left 1
              · (intro w hSw; (try dsimp only at hSw); go_split_ands; (try go_simp); (try with_reducible rfl))
              try simp only [Act.put, List.setIfInBounds_toArray, List.set_cons_zero, List.set_cons_succ]
              refine wpAnyH_take (i := 10) (oi := ⟨some 18, _, _, _, _, _⟩) (v := ?_) rfl (by kernel_rfl) (by kernel_rfl) (by kernel_rfl) (fun _ _ _ h => h) (Or.inl ⟨by rfl, ?_⟩) (by assumption) ?_
              rotate_left 1
              · (intro w hSw; (try dsimp only at hSw); go_split_ands; (try go_simp); (try with_reducible rfl))
              try simp only [Act.put, List.setIfInBounds_toArray, List.set_cons_zero, List.set_cons_succ]
              refine wpAnyH_take (i := 9) (oi := ⟨some 126, _, _, _, _, _⟩) (v := ?_) rfl (by kernel_rfl) (by kernel_rfl) (by kernel_rfl) (fun _ _ _ h => h) (Or.inl ⟨by rfl, ?_⟩) (by assumption) ?_
              rotate_left 1
              · (intro w hSw; (try dsimp only at hSw); go_split_ands; (try go_simp); (try with_reducible rfl))
              try simp only [Act.put, List.setIfInBounds_toArray, List.set_cons_zero, List.set_cons_succ]
              refine wpAnyH_take (i := 11) (oi := ⟨some 19, _, _, _, _, _⟩) (v := ?_) rfl (by kernel_rfl) (by kernel_rfl) (by kernel_rfl) (fun _ _ _ h => h) (Or.inl ⟨by rfl, ?_⟩) (by assumption) ?_
              rotate_left 1
              · (intro w hSw; (try dsimp only at hSw); go_split_ands; (try go_simp); (try with_reducible rfl))
              try simp only [Act.put, List.setIfInBounds_toArray, List.set_cons_zero, List.set_cons_succ]
              refine wpAnyH_done (by kernel_rfl) ?_ _

              have X : Ext [] w6 wx := hS
              clear hS zz
              obtain ⟨p0, p1, p2, p3, p4, p5, p6, p7⟩ := st_cells (HBS.out _ X)
              go_wp2_with fail
              refine (HMORE.out _ X).mono ?_
              rintro e wy ⟨rfl, xy⟩
              clear p0 p1 p2 p3 p4 p5 p6 p7
              have Xy := X6.trans (X.trans xy)
              go_wp2_with fail
              go_roundw
              case rel => exact ⟨k + 1, bs, cs, by go_num, HPB.out.symm, by omega, by omega, by omega, I.ext Xy, x.trans Xy⟩
              case measure => simp [intOf]; omega
          · obtain ⟨⟨ta, tr⟩, xs, hrv⟩ : ∃ y ys, cs.reverse = y :: ys := by
              have := I.tok
              rw [hbs] at this
              cases hc : cs.reverse with
              | nil => rw [hc] at this; exact this.elim
              | cons y ys => exact ⟨y, ys, rfl⟩
            have hpb : ptrV bs = .pointer (some ⟨b0, 0, none⟩) := by rw [hbs]; rfl
            have HPB := Lib.hid hpb
            have hl1 : bs0.length = xs.length := by
              have h1 := I.len
              have h2 : cs.reverse.length = xs.length + 1 := by rw [hrv]; rfl
              rw [hbs, List.length_cons] at h1
              rw [List.length_reverse] at h2
              omega
            have htk := I.tok
            rw [hbs, hrv] at htk
            have HRT := Lib.hid (fun w' (x' : Ext [] w6 w') => derive_any bt bl c b0 bs0 T (ta, tr) xs sa sr w' (HT.out _ (x.trans (X6.trans x'))) (TokAt.ext0 (X6.trans x') htk) (by have h1 := I.len; rw [hbs, List.length_cons] at h1; omega))
            have hE' : derE T (ta, tr) (bs0.length + 1) sa sr = E := by rw [← hE, hrv, hl1]; rfl
            rw [hE'] at HRT
            clear hbs hE' hrv hl1 htk
            unfold Rt.val at HRT
            rw [hpb]
            clear hpb
            go_upto_region 21 with (fail)
            rw [← hw6]
            clear hw6 c0 c1 c2 c3 c4 c5 c6 BS hb1 hb1l hb2l
            generalize wr.heap.size = ns at *
            by_cases hz : E = 0
            · subst hz
              have HNEW := Lib.hid (fun w' (x' : Ext [] w6 w') => (HRT.out w' x').mono (fun e w'' h => h.ok))
              clear HRT
              have zz : Ext [] w6 w6.drew := (Ext.refl _ _).drew
              refine wp_region_held_drew (S := fun w' => Ext [] w6 w') (by kernel_rfl) zz (fun hS => ?_)
              refine wpAnyH_take (i := 0) (oi := ⟨some 128, _, _, _, _, _⟩) (v := ?_) rfl (by kernel_rfl) (by kernel_rfl) (by kernel_rfl) (fun _ _ _ h => h) (Or.inl ⟨by rfl, ?_⟩) (by assumption) ?_
              rotate_left 1
              · (intro w hSw; (try dsimp only at hSw); go_split_ands; (try go_simp); (try with_reducible rfl))
              try simp only [Act.put, List.setIfInBounds_toArray, List.set_cons_zero, List.set_cons_succ]
              refine wpAnyH_take (i := 1) (oi := ⟨some 129, _, _, _, _, _⟩) (v := ?_) rfl (by kernel_rfl) (by kernel_rfl) (by kernel_rfl) (fun _ _ _ h => h) (Or.inl ⟨by rfl, ?_⟩) (by assumption) ?_
              rotate_left 1
              · (intro w hSw; (try dsimp only at hSw); go_split_ands; (try go_simp); (try with_reducible rfl))
              try simp only [Act.put, List.setIfInBounds_toArray, List.set_cons_zero, List.set_cons_succ]
              refine wpAnyH_take (i := 2) (oi := ⟨some 130, _, _, _, _, _⟩) (v := ?_) rfl (by kernel_rfl) (by kernel_rfl) (by kernel_rfl) (fun _ _ _ h => h) (Or.inl ⟨by rfl, ?_⟩) (by assumption) ?_
              rotate_left 1
              · (intro w hSw; (try dsimp only at hSw); go_split_ands; (try go_simp); (try with_reducible rfl))
              try simp only [Act.put, List.setIfInBounds_toArray, List.set_cons_zero, List.set_cons_succ]
              refine wpAnyH_take (i := 3) (oi := ⟨some 131, _, _, _, _, _⟩) (v := ?_) rfl (by kernel_rfl) (by kernel_rfl) (by kernel_rfl) (fun _ _ _ h => h) (Or.inl ⟨by rfl, ?_⟩) (by assumption) ?_
              rotate_left 1
              · (intro w hSw; (try dsimp only at hSw); go_split_ands; obtain ⟨p0, p1, p2, p3, p4, p5, p6, p7⟩ := st_cells (HBS.out _ hSw); (try go_simp); (try with_reducible rfl))
              try simp only [Act.put, List.setIfInBounds_toArray, List.set_cons_zero, List.set_cons_succ]
              refine wpAnyH_take (i := 4) (oi := ⟨some 132, _, _, _, _, _⟩) (v := ?_) rfl (by kernel_rfl) (by kernel_rfl) (by kernel_rfl) (fun _ _ _ h => h) (Or.inl ⟨by rfl, ?_⟩) (by assumption) ?_
              rotate_left 1
              · (intro w hSw; (try dsimp only at hSw); go_split_ands; (try go_simp); (try with_reducible rfl))
              try simp only [Act.put, List.setIfInBounds_toArray, List.set_cons_zero, List.set_cons_succ]
              refine wpAnyH_take (i := 5) (oi := ⟨some 133, _, _, _, _, _⟩) (v := ?_) rfl (by kernel_rfl) (by kernel_rfl) (by kernel_rfl) (fun _ _ _ h => h) (Or.inl ⟨by rfl, ?_⟩) (by assumption) ?_
              rotate_left 1
              · (intro w hSw; (try dsimp only at hSw); go_split_ands; obtain ⟨p0, p1, p2, p3, p4, p5, p6, p7⟩ := st_cells (HBS.out _ hSw); (try go_simp); (try with_reducible rfl))
              try simp only [Act.put, List.setIfInBounds_toArray, List.set_cons_zero, List.set_cons_succ]
              refine wpAnyH_ready (rs := [6]) (by kernel_rfl) (by simp) ?_
              refine AllReadyH.cons (o := ⟨some 134, _, _, _, _, _⟩) rfl (fun K hK => ?_) AllReadyH.nil
              go_simp
              refine (HTO.out sr _).mono ?_
              rintro e W6 ⟨rfl, x6⟩
              go_simp
              have hk := hS.trans x6
              refine hK.out _ _ hk (fun hS => ?_)
              clear hK K
              try simp only [Act.put, List.setIfInBounds_toArray, List.set_cons_zero, List.set_cons_succ]
              have hwd := (X6.trans hS).size
              generalize W6 = wd at *
              refine wpAnyH_ready (rs := [7]) (by kernel_rfl) (by simp) ?_
              refine AllReadyH.cons (o := ⟨some 135, _, _, _, _, _⟩) rfl (fun K hK => ?_) AllReadyH.nil
              go_simp
              refine (HNEW.out _ hS).mono ?_
              rintro e W7 ⟨nb, rfl, BN, hnb, x7⟩
              go_simp
              have hk := hS.trans x7
              refine hK.out _ _ hk (fun hS => ?_)
              clear hK K
              try simp only [Act.put, List.setIfInBounds_toArray, List.set_cons_zero, List.set_cons_succ]
              generalize W7 = wx at *
              refine wpAnyH_take (i := 8) (oi := ⟨some 127, _, _, _, _, _⟩) (v := ?_) rfl (by kernel_rfl) (by kernel_rfl) (by kernel_rfl) (fun _ _ _ h => h) (Or.inl ⟨by rfl, ?_⟩) (by assumption) ?_
              rotate_left 1
              · (intro w hSw; (try dsimp only at hSw); go_split_ands; (try go_simp); (try with_reducible rfl))
              try simp only [Act.put, List.setIfInBounds_toArray, List.set_cons_zero, List.set_cons_succ]
              refine wpAnyH_take (i := 9) (oi := ⟨some 136, _, _, _, _, _⟩) (v := ?_) rfl (by kernel_rfl) (by kernel_rfl) (by kernel_rfl) (fun _ _ _ h => h) (Or.inl ⟨by rfl, ?_⟩) (by assumption) ?_
              rotate_left 1
              · (intro w hSw; (try dsimp only at hSw); go_split_ands; (try go_simp); (try with_reducible rfl))
              try simp only [Act.put, List.setIfInBounds_toArray, List.set_cons_zero, List.set_cons_succ]
              refine wpAnyH_take (i := 11) (oi := ⟨some 18, _, _, _, _, _⟩) (v := ?_) rfl (by kernel_rfl) (by kernel_rfl) (by kernel_rfl) (fun _ _ _ h => h) (Or.inl ⟨by rfl, ?_⟩) (by assumption) ?_
              rotate_left 1
              · (intro w hSw; (try dsimp only at hSw); go_split_ands; (try go_simp); (try with_reducible rfl))
              try simp only [Act.put, List.setIfInBounds_toArray, List.set_cons_zero, List.set_cons_succ]
              refine wpAnyH_take (i := 10) (oi := ⟨some 137, _, _, _, _, _⟩) (v := ?_) rfl (by kernel_rfl) (by kernel_rfl) (by kernel_rfl) (fun _ _ _ h => h) (Or.inl ⟨by rfl, ?_⟩) (by assumption) ?_
              rotate_left 1
              · (intro w hSw; (try dsimp only at hSw); go_split_ands; (try go_simp); (try with_reducible rfl))
              try simp only [Act.put, List.setIfInBounds_toArray, List.set_cons_zero, List.set_cons_succ]
              refine wpAnyH_take (i := 12) (oi := ⟨some 19, _, _, _, _, _⟩) (v := ?_) rfl (by kernel_rfl) (by kernel_rfl) (by kernel_rfl) (fun _ _ _ h => h) (Or.inl ⟨by rfl, ?_⟩) (by assumption) ?_
              rotate_left 1
              · (intro w hSw; (try dsimp only at hSw); go_split_ands; (try go_simp); (try with_reducible rfl))
              try simp only [Act.put, List.setIfInBounds_toArray, List.set_cons_zero, List.set_cons_succ]
              refine wpAnyH_done (by kernel_rfl) ?_ _

              have X : Ext [] w6 wx := hS
              clear hS zz
              obtain ⟨p0, p1, p2, p3, p4, p5, p6, p7⟩ := st_cells (HBS.out _ X)
              go_wp2_with fail
              refine (HMORE.out _ X).mono ?_
              rintro e wy ⟨rfl, xy⟩
              clear p0 p1 p2 p3 p4 p5 p6 p7
              have hBY := BN.ext xy (by simp)
              have HBY := Lib.hid (fun w' (x' : Ext [] wy w') => hBY.ext x' (by simp))
              clear hBY
              have Xy := X.trans xy
              go_upto_region 25 with (fail)
              have zz : Ext [] wy wy.drew := (Ext.refl _ _).drew
              refine wp_region_held_drew (S := fun w' => Ext [] wy w') (by kernel_rfl) zz (fun hS => ?_)
              refine wpAnyH_take (i := 0) (oi := ⟨some 153, _, _, _, _, _⟩) (v := ?_) rfl (by kernel_rfl) (by kernel_rfl) (by kernel_rfl) (fun _ _ _ h => h) (Or.inl ⟨by rfl, ?_⟩) (by assumption) ?_
              rotate_left 1
              · (intro w hSw; (try dsimp only at hSw); go_split_ands; (try go_simp); (try with_reducible rfl))
              try simp only [Act.put, List.setIfInBounds_toArray, List.set_cons_zero, List.set_cons_succ]
              refine wpAnyH_take (i := 1) (oi := ⟨some 154, _, _, _, _, _⟩) (v := ?_) rfl (by kernel_rfl) (by kernel_rfl) (by kernel_rfl) (fun _ _ _ h => h) (Or.inl ⟨by rfl, ?_⟩) (by assumption) ?_
              rotate_left 1
              · (intro w hSw; (try dsimp only at hSw); go_split_ands; (try go_simp); (try with_reducible rfl))
              try simp only [Act.put, List.setIfInBounds_toArray, List.set_cons_zero, List.set_cons_succ]
              refine wpAnyH_take (i := 2) (oi := ⟨some 155, _, _, _, _, _⟩) (v := ?_) rfl (by kernel_rfl) (by kernel_rfl) (by kernel_rfl) (fun _ _ _ h => h) (Or.inl ⟨by rfl, ?_⟩) (by assumption) ?_
              rotate_left 1
              · (intro w hSw; (try dsimp only at hSw); go_split_ands; (try go_simp); (try with_reducible rfl))
              try simp only [Act.put, List.setIfInBounds_toArray, List.set_cons_zero, List.set_cons_succ]
              refine wpAnyH_take (i := 3) (oi := ⟨some 156, _, _, _, _, _⟩) (v := ?_) rfl (by kernel_rfl) (by kernel_rfl) (by kernel_rfl) (fun _ _ _ h => h) (Or.inl ⟨by rfl, ?_⟩) (by assumption) ?_
              rotate_left 1
              · (intro w hSw; (try dsimp only at hSw); go_split_ands; obtain ⟨t0, t1, t2, t3, t4, t5, t6, t7, tlt⟩ := tk_cells (HBY.out _ hSw); (try go_simp); (try with_reducible rfl))
              try simp only [Act.put, List.setIfInBounds_toArray, List.set_cons_zero, List.set_cons_succ]
              refine wpAnyH_take (i := 4) (oi := ⟨some 157, _, _, _, _, _⟩) (v := ?_) rfl (by kernel_rfl) (by kernel_rfl) (by kernel_rfl) (fun _ _ _ h => h) (Or.inl ⟨by rfl, ?_⟩) (by assumption) ?_
              rotate_left 1
              · (intro w hSw; (try dsimp only at hSw); go_split_ands; (try go_simp); (try with_reducible rfl))
              try simp only [Act.put, List.setIfInBounds_toArray, List.set_cons_zero, List.set_cons_succ]
              refine wpAnyH_take (i := 5) (oi := ⟨some 158, _, _, _, _, _⟩) (v := ?_) rfl (by kernel_rfl) (by kernel_rfl) (by kernel_rfl) (fun _ _ _ h => h) (Or.inl ⟨by rfl, ?_⟩) (by assumption) ?_
              rotate_left 1
              · (intro w hSw; (try dsimp only at hSw); go_split_ands; obtain ⟨p0, p1, p2, p3, p4, p5, p6, p7⟩ := st_cells (HBS.out _ (Xy.trans hSw)); (try go_simp); (try with_reducible rfl))
              try simp only [Act.put, List.setIfInBounds_toArray, List.set_cons_zero, List.set_cons_succ]
              refine wpAnyH_take (i := 6) (oi := ⟨some 159, _, _, _, _, _⟩) (v := ?_) rfl (by kernel_rfl) (by kernel_rfl) (by kernel_rfl) (fun _ _ _ h => h) (Or.inl ⟨by rfl, ?_⟩) (by assumption) ?_
              rotate_left 1
              · (intro w hSw; (try dsimp only at hSw); go_split_ands; (try go_simp); (try with_reducible rfl))
              try simp only [Act.put, List.setIfInBounds_toArray, List.set_cons_zero, List.set_cons_succ]
              refine wpAnyH_take (i := 7) (oi := ⟨some 160, _, _, _, _, _⟩) (v := ?_) rfl (by kernel_rfl) (by kernel_rfl) (by kernel_rfl) (fun _ _ _ h => h) (Or.inl ⟨by rfl, ?_⟩) (by assumption) ?_
              rotate_left 1
              · (intro w hSw; (try dsimp only at hSw); go_split_ands; (try go_simp); (try with_reducible rfl))
              try simp only [Act.put, List.setIfInBounds_toArray, List.set_cons_zero, List.set_cons_succ]
              refine wpAnyH_take (i := 8) (oi := ⟨some 161, _, _, _, _, _⟩) (v := ?_) rfl (by kernel_rfl) (by kernel_rfl) (by kernel_rfl) (fun _ _ _ h => h) (Or.inl ⟨by rfl, ?_⟩) (by assumption) ?_
              rotate_left 1
              · (intro w hSw; (try dsimp only at hSw); go_split_ands; (try go_simp); (try with_reducible rfl))
              try simp only [Act.put, List.setIfInBounds_toArray, List.set_cons_zero, List.set_cons_succ]
              refine wpAnyH_take (i := 9) (oi := ⟨some 162, _, _, _, _, _⟩) (v := ?_) rfl (by kernel_rfl) (by kernel_rfl) (by kernel_rfl) (fun _ _ _ h => h) (Or.inl ⟨by rfl, ?_⟩) (by assumption) ?_
              rotate_left 1
              · (intro w hSw; (try dsimp only at hSw); go_split_ands; (try go_simp); (try with_reducible rfl))
              try simp only [Act.put, List.setIfInBounds_toArray, List.set_cons_zero, List.set_cons_succ]
              refine wpAnyH_take (i := 10) (oi := ⟨some 163, _, _, _, _, _⟩) (v := ?_) rfl (by kernel_rfl) (by kernel_rfl) (by kernel_rfl) (fun _ _ _ h => h) (Or.inl ⟨by rfl, ?_⟩) (by assumption) ?_
              rotate_left 1
              · (intro w hSw; (try dsimp only at hSw); go_split_ands; (try go_simp); (try with_reducible rfl))
              try simp only [Act.put, List.setIfInBounds_toArray, List.set_cons_zero, List.set_cons_succ]
              refine wpAnyH_take (i := 11) (oi := ⟨some 164, _, _, _, _, _⟩) (v := ?_) rfl (by kernel_rfl) (by kernel_rfl) (by kernel_rfl) (fun _ _ _ h => h) (Or.inl ⟨by rfl, ?_⟩) (by assumption) ?_
              rotate_left 1
              · (intro w hSw; (try dsimp only at hSw); go_split_ands; obtain ⟨t0, t1, t2, t3, t4, t5, t6, t7, tlt⟩ := tk_cells (HBY.out _ hSw); (try go_simp); (try with_reducible rfl))
              try simp only [Act.put, List.setIfInBounds_toArray, List.set_cons_zero, List.set_cons_succ]
              refine wpAnyH_take (i := 12) (oi := ⟨some 165, _, _, _, _, _⟩) (v := ?_) rfl (by kernel_rfl) (by kernel_rfl) (by kernel_rfl) (fun _ _ _ h => h) (Or.inl ⟨by rfl, ?_⟩) (by assumption) ?_
              rotate_left 1
              · (intro w hSw; (try dsimp only at hSw); go_split_ands; (try go_simp); (try with_reducible rfl))
              try simp only [Act.put, List.setIfInBounds_toArray, List.set_cons_zero, List.set_cons_succ]
              refine wpAnyH_take (i := 13) (oi := ⟨some 166, _, _, _, _, _⟩) (v := ?_) rfl (by kernel_rfl) (by kernel_rfl) (by kernel_rfl) (fun _ _ _ h => h) (Or.inl ⟨by rfl, ?_⟩) (by assumption) ?_
              rotate_left 1
              · (intro w hSw; (try dsimp only at hSw); go_split_ands; obtain ⟨p0, p1, p2, p3, p4, p5, p6, p7⟩ := st_cells (HBS.out _ (Xy.trans hSw)); (try go_simp); (try with_reducible rfl))
              try simp only [Act.put, List.setIfInBounds_toArray, List.set_cons_zero, List.set_cons_succ]
              refine wpAnyH_ready (rs := [14]) (by kernel_rfl) (by simp) ?_
              refine AllReadyH.cons (o := ⟨some 167, _, _, _, _, _⟩) rfl (fun K hK => ?_) AllReadyH.nil
              go_simp
              refine (HTO.out sr _).mono ?_
              rintro e W14 ⟨rfl, x9⟩
              go_simp
              have hk := hS.trans x9
              refine hK.out _ _ hk (fun hS => ?_)
              clear hK K
              try simp only [Act.put, List.setIfInBounds_toArray, List.set_cons_zero, List.set_cons_succ]
              generalize W14 = wz at *
              refine wpAnyH_take (i := 15) (oi := ⟨some 168, _, _, _, _, _⟩) (v := ?_) rfl (by kernel_rfl) (by kernel_rfl) (by kernel_rfl) (fun _ _ _ h => h) (Or.inl ⟨by rfl, ?_⟩) (by assumption) ?_
              rotate_left 1
              · (intro w hSw; (try dsimp only at hSw); go_split_ands; (try go_simp); (try with_reducible rfl))
              try simp only [Act.put, List.setIfInBounds_toArray, List.set_cons_zero, List.set_cons_succ]
              refine wpAnyH_take (i := 16) (oi := ⟨some 169, _, _, _, _, _⟩) (v := ?_) rfl (by kernel_rfl) (by kernel_rfl) (by kernel_rfl) (fun _ _ _ h => h) (Or.inl ⟨by rfl, ?_⟩) (by assumption) ?_
              rotate_left 1
              · (intro w hSw; (try dsimp only at hSw); go_split_ands; (try go_simp); (try with_reducible rfl))
              try simp only [Act.put, List.setIfInBounds_toArray, List.set_cons_zero, List.set_cons_succ]
              refine wpAnyH_take (i := 17) (oi := ⟨some 170, _, _, _, _, _⟩) (v := ?_) rfl (by kernel_rfl) (by kernel_rfl) (by kernel_rfl) (fun _ _ _ h => h) (Or.inl ⟨by rfl, ?_⟩) (by assumption) ?_
              rotate_left 1
              · (intro w hSw; (try dsimp only at hSw); go_split_ands; (try go_simp); (try with_reducible rfl))
              try simp only [Act.put, List.setIfInBounds_toArray, List.set_cons_zero, List.set_cons_succ]
              refine wpAnyH_take (i := 18) (oi := ⟨some 171, _, _, _, _, _⟩) (v := ?_) rfl (by kernel_rfl) (by kernel_rfl) (by kernel_rfl) (fun _ _ _ h => h) (Or.inl ⟨by rfl, ?_⟩) (by assumption) ?_
              rotate_left 1
              · (intro w hSw; (try dsimp only at hSw); go_split_ands; (try go_simp); (try with_reducible rfl))
              try simp only [Act.put, List.setIfInBounds_toArray, List.set_cons_zero, List.set_cons_succ]
              refine wpAnyH_take (i := 19) (oi := ⟨some 172, _, _, _, _, _⟩) (v := ?_) rfl (by kernel_rfl) (by kernel_rfl) (by kernel_rfl) (fun _ _ _ h => h) (Or.inl ⟨by rfl, ?_⟩) (by assumption) ?_
              rotate_left 1
              · (intro w hSw; (try dsimp only at hSw); go_split_ands; (try go_simp); (try with_reducible rfl))
              try simp only [Act.put, List.setIfInBounds_toArray, List.set_cons_zero, List.set_cons_succ]
              refine wpAnyH_take (i := 20) (oi := ⟨some 173, _, _, _, _, _⟩) (v := ?_) rfl (by kernel_rfl) (by kernel_rfl) (by kernel_rfl) (fun _ _ _ h => h) (Or.inl ⟨by rfl, ?_⟩) (by assumption) ?_
              rotate_left 1
              · (intro w hSw; (try dsimp only at hSw); go_split_ands; (try go_simp); (try with_reducible rfl))
              try simp only [Act.put, List.setIfInBounds_toArray, List.set_cons_zero, List.set_cons_succ]
              refine wpAnyH_take (i := 21) (oi := ⟨some 174, _, _, _, _, _⟩) (v := ?_) rfl (by kernel_rfl) (by kernel_rfl) (by kernel_rfl) (fun _ _ _ h => h) (Or.inl ⟨by rfl, ?_⟩) (by assumption) ?_
              rotate_left 1
              · (intro w hSw; (try dsimp only at hSw); go_split_ands; obtain ⟨t0, t1, t2, t3, t4, t5, t6, t7, tlt⟩ := tk_cells (HBY.out _ hSw); (try go_simp); (try with_reducible rfl))
              try simp only [Act.put, List.setIfInBounds_toArray, List.set_cons_zero, List.set_cons_succ]
              refine wpAnyH_take (i := 22) (oi := ⟨some 175, _, _, _, _, _⟩) (v := ?_) rfl (by kernel_rfl) (by kernel_rfl) (by kernel_rfl) (fun _ _ _ h => h) (Or.inl ⟨by rfl, ?_⟩) (by assumption) ?_
              rotate_left 1
              · (intro w hSw; (try dsimp only at hSw); go_split_ands; (try go_simp); (try with_reducible rfl))
              try simp only [Act.put, List.setIfInBounds_toArray, List.set_cons_zero, List.set_cons_succ]
              refine wpAnyH_take (i := 23) (oi := ⟨some 176, _, _, _, _, _⟩) (v := ?_) rfl (by kernel_rfl) (by kernel_rfl) (by kernel_rfl) (fun _ _ _ h => h) (Or.inl ⟨by rfl, ?_⟩) (by assumption) ?_
              rotate_left 1
              · (intro w hSw; (try dsimp only at hSw); go_split_ands; have hpn := tptr_neq b0 w; (try go_simp); (try with_reducible rfl))
              try simp only [Act.put, List.setIfInBounds_toArray, List.set_cons_zero, List.set_cons_succ]
              refine wpAnyH_take (i := 24) (oi := ⟨some 177, _, _, _, _, _⟩) (v := ?_) rfl (by kernel_rfl) (by kernel_rfl) (by kernel_rfl) (fun _ _ _ h => h) (Or.inl ⟨by rfl, ?_⟩) (by assumption) ?_
              rotate_left 1
              · (intro w hSw; (try dsimp only at hSw); go_split_ands; (try go_simp); (try with_reducible rfl))
              try simp only [Act.put, List.setIfInBounds_toArray, List.set_cons_zero, List.set_cons_succ]
              refine wpAnyH_done (by kernel_rfl) ?_ _
              have Xz := Xy.trans hS
              have IZ := I.ext (X6.trans Xz)
              have OWN := Lib.hid (owns_ext IZ.own ((Ext.refl [] wz).alloc (.cells #[.int .i64 sa, .int .u16 (sr.c.toNat : Int), .int .u16 (sr.p.toNat : Int), .int .u16 (sr.m.toNat : Int), .int .u16 (sr.h.toNat : Int), .bool sr.v, .bool sr.s] 52)) (by simp))
              have hEI := Lib.hid hE
              clear hE IZ
              obtain ⟨p0, p1, p2, p3, p4, p5, p6, p7⟩ := st_cells (HBS.out _ Xz)
              obtain ⟨i0, hi, hz0, hz1, hz2⟩ := info_parts info_step
              go_wp2_with (at_builtin; go_must (refine wpList_app _ rfl (.tmp 179) (.tmp 181) 42 rfl 52 i0 _ 7 24 Tryd.underlying42 hi hz0 hz1 hz2 rfl (by decide) u15 cs.length (stV cs) rfl OWN.out _ 1 (stCells (sa, sr)) rfl (blk_reads (Blk.new wz _ _) 1 rfl) (stCells_one _) (by unfold maxLen; omega) (by omega) ?_); intro v3 w3 hown3 hgrow3 hfr3 _)
              clear p0 p1 p2 p3 p4 p5 p6 p7 OWN
              have I2 := Inv2.more I x (X6.trans (Xz.alloc _)) (by rw [HPB.out]; exact HBY.out _ (hS.alloc _)) (by omega) hEI.out hown3 hgrow3 hfr3
              have XF := I.far x (X6.trans (Xz.alloc _)) hgrow3
              clear hown3 hgrow3 hfr3
              go_wp2_with fail
              go_roundw
              case rel => exact ⟨k + 1, nb :: bs, cs ++ [(sa, sr)], by go_num, rfl, by omega, by omega, by simp; omega, I2, XF⟩
              case measure => simp [intOf]; omega
            · have HNEW := Lib.hid (fun w' (x' : Ext [] w6 w') => (HRT.out w' x').mono (fun e w'' h => h.no hz))
              clear HRT
              have hzb : (E == 0) = false := by simp [hz]
              have zz : Ext [] w6 w6.drew := (Ext.refl _ _).drew
              refine wp_region_held_drew (S := fun w' => Ext [] w6 w') (by kernel_rfl) zz (fun hS => ?_)
              refine wpAnyH_take (i := 0) (oi := ⟨some 128, _, _, _, _, _⟩) (v := ?_) rfl (by kernel_rfl) (by kernel_rfl) (by kernel_rfl) (fun _ _ _ h => h) (Or.inl ⟨by rfl, ?_⟩) (by assumption) ?_
              rotate_left 1
              · (intro w hSw; (try dsimp only at hSw); go_split_ands; (try go_simp); (try with_reducible rfl))
              try simp only [Act.put, List.setIfInBounds_toArray, List.set_cons_zero, List.set_cons_succ]
              refine wpAnyH_take (i := 1) (oi := ⟨some 129, _, _, _, _, _⟩) (v := ?_) rfl (by kernel_rfl) (by kernel_rfl) (by kernel_rfl) (fun _ _ _ h => h) (Or.inl ⟨by rfl, ?_⟩) (by assumption) ?_
              rotate_left 1
              · (intro w hSw; (try dsimp only at hSw); go_split_ands; (try go_simp); (try with_reducible rfl))
              try simp only [Act.put, List.setIfInBounds_toArray, List.set_cons_zero, List.set_cons_succ]
              refine wpAnyH_take (i := 2) (oi := ⟨some 130, _, _, _, _, _⟩) (v := ?_) rfl (by kernel_rfl) (by kernel_rfl) (by kernel_rfl) (fun _ _ _ h => h) (Or.inl ⟨by rfl, ?_⟩) (by assumption) ?_
              rotate_left 1
              · (intro w hSw; (try dsimp only at hSw); go_split_ands; (try go_simp); (try with_reducible rfl))
              try simp only [Act.put, List.setIfInBounds_toArray, List.set_cons_zero, List.set_cons_succ]
              refine wpAnyH_take (i := 3) (oi := ⟨some 131, _, _, _, _, _⟩) (v := ?_) rfl (by kernel_rfl) (by kernel_rfl) (by kernel_rfl) (fun _ _ _ h => h) (Or.inl ⟨by rfl, ?_⟩) (by assumption) ?_
              rotate_left 1
              · (intro w hSw; (try dsimp only at hSw); go_split_ands; obtain ⟨p0, p1, p2, p3, p4, p5, p6, p7⟩ := st_cells (HBS.out _ hSw); (try go_simp); (try with_reducible rfl))
              try simp only [Act.put, List.setIfInBounds_toArray, List.set_cons_zero, List.set_cons_succ]
              refine wpAnyH_take (i := 4) (oi := ⟨some 132, _, _, _, _, _⟩) (v := ?_) rfl (by kernel_rfl) (by kernel_rfl) (by kernel_rfl) (fun _ _ _ h => h) (Or.inl ⟨by rfl, ?_⟩) (by assumption) ?_
              rotate_left 1
              · (intro w hSw; (try dsimp only at hSw); go_split_ands; (try go_simp); (try with_reducible rfl))
              try simp only [Act.put, List.setIfInBounds_toArray, List.set_cons_zero, List.set_cons_succ]
              refine wpAnyH_take (i := 5) (oi := ⟨some 133, _, _, _, _, _⟩) (v := ?_) rfl (by kernel_rfl) (by kernel_rfl) (by kernel_rfl) (fun _ _ _ h => h) (Or.inl ⟨by rfl, ?_⟩) (by assumption) ?_
              rotate_left 1
              · (intro w hSw; (try dsimp only at hSw); go_split_ands; obtain ⟨p0, p1, p2, p3, p4, p5, p6, p7⟩ := st_cells (HBS.out _ hSw); (try go_simp); (try with_reducible rfl))
              try simp only [Act.put, List.setIfInBounds_toArray, List.set_cons_zero, List.set_cons_succ]
              refine wpAnyH_ready (rs := [6]) (by kernel_rfl) (by simp) ?_
              refine AllReadyH.cons (o := ⟨some 134, _, _, _, _, _⟩) rfl (fun K hK => ?_) AllReadyH.nil
              go_simp
              refine (HTO.out sr _).mono ?_
              rintro e W6 ⟨rfl, x6⟩
              go_simp
              have hk := hS.trans x6
              refine hK.out _ _ hk (fun hS => ?_)
              clear hK K
              try simp only [Act.put, List.setIfInBounds_toArray, List.set_cons_zero, List.set_cons_succ]
              have hwd := (X6.trans hS).size
              generalize W6 = wd at *
              refine wpAnyH_ready (rs := [7]) (by kernel_rfl) (by simp) ?_
              refine AllReadyH.cons (o := ⟨some 135, _, _, _, _, _⟩) rfl (fun K hK => ?_) AllReadyH.nil
              go_simp
              refine (HNEW.out _ hS).mono ?_
              rintro e W7 ⟨rfl, x7⟩
              go_simp
              have hk := hS.trans x7
              refine hK.out _ _ hk (fun hS => ?_)
              clear hK K
              try simp only [Act.put, List.setIfInBounds_toArray, List.set_cons_zero, List.set_cons_succ]
              generalize W7 = wx at *
              refine wpAnyH_take (i := 8) (oi := ⟨some 127, _, _, _, _, _⟩) (v := ?_) rfl (by kernel_rfl) (by kernel_rfl) (by kernel_rfl) (fun _ _ _ h => h) (Or.inl ⟨by rfl, ?_⟩) (by assumption) ?_
              rotate_left 1
              · (intro w hSw; (try dsimp only at hSw); go_split_ands; (try go_simp); (try with_reducible rfl))
              try simp only [Act.put, List.setIfInBounds_toArray, List.set_cons_zero, List.set_cons_succ]
              refine wpAnyH_take (i := 9) (oi := ⟨some 136, _, _, _, _, _⟩) (v := ?_) rfl (by kernel_rfl) (by kernel_rfl) (by kernel_rfl) (fun _ _ _ h => h) (Or.inl ⟨by rfl, ?_⟩) (by assumption) ?_
              rotate_left 1
              · (intro w hSw; (try dsimp only at hSw); go_split_ands; (try go_simp); (try with_reducible rfl))
              try simp only [Act.put, List.setIfInBounds_toArray, List.set_cons_zero, List.set_cons_succ]
              refine wpAnyH_take (i := 11) (oi := ⟨some 18, _, _, _, _, _⟩) (v := ?_) rfl (by kernel_rfl) (by kernel_rfl) (by kernel_rfl) (fun _ _ _ h => h) (Or.inl ⟨by rfl, ?_⟩) (by assumption) ?_
              rotate_left 1
              · (intro w hSw; (try dsimp only at hSw); go_split_ands; (try go_simp); (try with_reducible rfl))
              try simp only [Act.put, List.setIfInBounds_toArray, List.set_cons_zero, List.set_cons_succ]
              refine wpAnyH_take (i := 10) (oi := ⟨some 137, _, _, _, _, _⟩) (v := ?_) rfl (by kernel_rfl) (by kernel_rfl) (by kernel_rfl) (fun _ _ _ h => h) (Or.inl ⟨by rfl, ?_⟩) (by assumption) ?_
              rotate_left 1
              · (intro w hSw; (try dsimp only at hSw); go_split_ands; (try go_simp); (try with_reducible rfl))
              try simp only [Act.put, List.setIfInBounds_toArray, List.set_cons_zero, List.set_cons_succ]
              refine wpAnyH_take (i := 12) (oi := ⟨some 19, _, _, _, _, _⟩) (v := ?_) rfl (by kernel_rfl) (by kernel_rfl) (by kernel_rfl) (fun _ _ _ h => h) (Or.inl ⟨by rfl, ?_⟩) (by assumption) ?_
              rotate_left 1
              · (intro w hSw; (try dsimp only at hSw); go_split_ands; (try go_simp); (try with_reducible rfl))
              try simp only [Act.put, List.setIfInBounds_toArray, List.set_cons_zero, List.set_cons_succ]
              refine wpAnyH_done (by kernel_rfl) ?_ _

              have X : Ext [] w6 wx := hS
              clear hS zz
              obtain ⟨p0, p1, p2, p3, p4, p5, p6, p7⟩ := st_cells (HBS.out _ X)
              go_wp2_with fail
              refine (HMORE.out _ X).mono ?_
              rintro e wy ⟨rfl, xy⟩
              clear p0 p1 p2 p3 p4 p5 p6 p7
              have Xy := X6.trans (X.trans xy)
              go_wp2_with fail
              go_roundw
              case rel => exact ⟨k + 1, bs, cs, by go_num, HPB.out.symm, by omega, by omega, by omega, I.ext Xy, x.trans Xy⟩
              case measure => simp [intOf]; omega
        · have hge : (k < ch.length ∧ k = 9) ∨ ¬ k < ch.length := by omega
          clear hlt2
          rcases hge with ⟨hlt', rfl⟩ | hlt'
          all_goals
            go_wp2_with fail
            go_meet
            exact ⟨bs, cs, rfl, by omega, I, x⟩
    case rest =>
      obtain ⟨bs, cs, rfl, hc9, I, x⟩ := hcut
      rename_i KK aK
      refine aK _ _ ?_
      exact derives_rest n helper bt bl c T bs cs w w5 wc _ (by kernel_rfl) _ _ _ _ _ _ _ _ _ _ _ _ _ _ _ _ _ _ _ _ _ _ _ _ _ _ _ _ _ _ _ _ _ _ _ _ _ _ _ _ _ _ _ _ _ _ _ _ _ _ _ _ _ _ _ _ _ _ _ _ _ _ _ _ _ _ _ _ _ _ _ _ _ _ _ _ _ _ _ _ _ _ _ _ _ _ _ _ _ _ _ _ _ _ _ _ _ _ _ _ _ _ _ _ _ _ _ _ _ _ _ _ _ _ _ _ _ _ _ _ _ _ _ _ _ _ _ _ _ _ _ _ _ _ _ _ _ _ _ _ _ _ _ _ _ _ _ _ _ _ _ _ _ _ _ _ _ _ _ _ _ _ _ _ _ _ _ _ _ _ _ _ _ _ _ _ _ _ _ _ _ _ _ _ _ _ _ _ _ _ _ _ _ _ _ _ _ _ _ _ _ _ _ _ _ _ _ _ _ _ _ _ _ _ _ _ _ _ _ _ _ _ _ _ _ _ _ _ _ _ _ _ _ _ _ _ _ _ _ _ _ _ _ _ _ _ _ _ _ _ _ _ _ _ _ _ _ _ _ _ _ _ _ _ _ _ _ _ _ _ _ _ _ _ _ _ _ _ _ _ _ _ _ _ _ _ _ _ _ _ _ _ _ _ _ _ _ _ _ _ _ _ _ _ _ _ _ _ _ _ _ _ _ _ _ _ _ _ _ _ hc9 I x HT HGR HXW
end Go.Proofs.YtnjgehfnafdldaaDoor
