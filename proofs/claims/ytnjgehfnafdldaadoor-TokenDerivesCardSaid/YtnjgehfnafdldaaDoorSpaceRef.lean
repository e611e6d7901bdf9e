/- Package tipstaffref10: the document's tree. -/
import Derived.Test.YtnjgehfnafdldaaDoorSpaceMake
namespace Go.Proofs.YtnjgehfnafdldaaDoor
open Go.RowKit
set_option maxRecDepth 100000

def upsTo (T : Tree) (k : Nat) : List Value := (List.range k).map fun j => .int .i64 (T.up j : Nat)

structure RefAt (w : World) (bw bu cap : Nat) (T : Tree) : Prop where
  t : Blk w bw 78 [.slice (some ⟨bu, 0, none⟩) T.len cap]
  a : w.ownsRow 0 3 1 (.slice (some ⟨bu, 0, none⟩) T.len cap) T.len (upsTo T T.len)
  ne : bw ≠ bu
  ok : T.OK

theorem RefAt.ext {S : List Nat} {w w' : World} {bt bl cap : Nat} {T : Tree} (h : RefAt w bt bl cap T) (e : Ext S w w') (h1 : bt ∉ S) (h2 : bl ∉ S) : RefAt w' bt bl cap T :=
  ⟨h.t.ext e h1, owns_ext h.a e (fun k hk => by simp [Value.ownBlock] at hk; subst hk; exact h2), h.ne, h.ok⟩
theorem RefAt.drew {w : World} {bt bl cap : Nat} {T : Tree} (h : RefAt w bt bl cap T) : RefAt w.drew bt bl cap T := ⟨h.t, h.a, h.ne, h.ok⟩
theorem RefAt.lt1 {w : World} {bt bl cap : Nat} {T : Tree} (h : RefAt w bt bl cap T) : bt < w.heap.size := h.t.lt
theorem RefAt.lt2 {w : World} {bt bl cap : Nat} {T : Tree} (h : RefAt w bt bl cap T) : bl < w.heap.size := owns_lt h.a rfl
theorem RefAt.up {w : World} {bt bl cap : Nat} {T : Tree} (h : RefAt w bt bl cap T) (n : Nat) (hn : n < T.len) : w.cell? ⟨bl, n, none⟩ = some (.int .i64 (T.up n : Nat)) := by
  rw [h.a.cellAt n (by omega)]; simp [upsTo, hn]

theorem has_any (bw bu cap : Nat) (n : Int) (T : Tree) (w : World) (H : RefAt w bw bu cap T) :
    Calls Tryd.prog 20 #[.pointer (some ⟨bw, 0, none⟩), .int .i64 n] w fun e w' => e = .returned (.bool (decide (0 ≤ n ∧ n < T.len))) ∧ w = w' := by
  have ht := H.t.cell 0
  have hl := H.ok.le
  simp only [List.getElem?_cons_zero] at ht
  by_cases h0 : 0 ≤ n
  · go_enter Tryd.func20, Tryd.ntmps20
    go_wp2_with fail
    go_ret
    exact ⟨by simp [h0], rfl⟩
  · have hd : decide (0 ≤ n) = false := by simpa using h0
    go_enter Tryd.func20, Tryd.ntmps20
    go_wp2_with fail
    go_ret
    exact ⟨by simp, rfl⟩

set_option maxHeartbeats 1000000 in
theorem rpath_ok (bw bu cap n : Nat) (T : Tree) (w : World) (H : RefAt w bw bu cap T) (hn : n < T.len) :
    Calls Tryd.prog 38 #[.pointer (some ⟨bw, 0, none⟩), .int .i64 n] w (RowPost w (T.ps n)) := by
  obtain ⟨i0, hi, hz0, hz1, hz2⟩ := info_parts info_int'
  have hh := has_any bw bu cap n T w H
  rw [show decide (0 ≤ (n : Int) ∧ (n : Int) < T.len) = true by simp; omega] at hh
  have HF := Lib.hid hh
  clear hh
  have hlen := H.ok.le
  have hd := H.ok.deep n hn
  have l1 := H.lt1
  have l2 := H.lt2
  go_enter Tryd.func38, Tryd.ntmps38
  go_wp2_with fail
  refine HF.out.mono ?_
  rintro e w1 ⟨rfl, rfl⟩
  go_wp2_with fail
  go_loopw [1, 5] (fun m out wr => ∃ (c : Nat) (rest : List Nat) (v : Value), out = v ∧ c < T.len ∧ m = .int .i64 c ∧ T.ps n = T.ps c ++ rest ∧ wr.ownsRow 0 3 1 v (rest.length + 1) ((nats (c :: rest)).map (Value.int .i64)) ∧ Ext [] w wr ∧ ∀ g, v.ownBlock = some g → w.heap.size ≤ g) (fun m _ _ => (intOf m).toNat)
  case atStart =>
    refine ⟨n, [], _, rfl, hn, rfl, by simp, ?_, (Ext.refl _ _).alloc _, ?_⟩
    · exact (Blk.new' _ 3 #[.int .i64 (n : Int)] _ (by simp)).owns (n := 1) (size := 1) rfl (by decide)
    · intro g hg; simp [Value.ownBlock] at hg; subst hg; omega
  case round =>
    obtain ⟨c, rest, v, rfl, hc, rfl, hps, hown, x, hfr⟩ := hrel
    have H2 := H.ext x (by simp) (by simp)
    by_cases hc0 : 0 < c
    · have hst := H.ok.step c hc0 hc
      have ht := H2.t.cell 0
      simp only [List.getElem?_cons_zero] at ht
      have cu := H2.up c hc
      have hc8 : c < 8 := by omega
      have hcb : ((c : Int) != 0) = true := by rw [bne_iff_ne]; omega
      have hup := hst.1
      have hlp := H.ok.len_pos c hc
      have hlr : rest.length ≤ 4 := by
        have h := congrArg List.length hps
        rw [List.length_append] at h; omega
      have HB := Lib.hid (show T.up c < T.len ∧ T.ps n = T.ps (T.up c) ++ (c :: rest) from ⟨by omega, by rw [hps, hst.2]; simp⟩)
      clear hps hst
      generalize T.up c = u at *
      have hown2 := owns_ext hown ((Ext.refl [] wr).alloc (.cells #[.int .i64 (u : Int)] 3)) (by simp)
      have hfresh := (Blk.new wr 3 #[.int .i64 (u : Int)]).owns (n := 1) (size := 1) rfl (by decide)
      go_wp2_with (at_builtin; go_must (refine wpList_app _ rfl _ _ 41 rfl 3 i0 (.int .i64 0) 1 8 Tryd.underlying41 hi hz0 hz1 hz2 rfl (by decide) (.slice (some ⟨wr.heap.size, 0, none⟩) 1 1) _ _ rfl hfresh _ (rest.length + 1) _ rfl (owns_reads hown2) (by intro u hu; obtain ⟨y, _, rfl⟩ := List.mem_map.1 hu; rfl) (by unfold maxLen; omega) (by omega) ?_); intro v' w1 hown' hgrow hfr' _)
      go_roundw
      case rel =>
        have hsz := x.size
        refine ⟨u, c :: rest, v', rfl, HB.out.1, rfl, HB.out.2, ?_, ?_, ?_⟩
        · have e : 1 + (rest.length + 1) = (c :: rest).length + 1 := by simp; omega
          rw [e] at hown'
          simpa [nats] using hown'
        · exact (x.alloc _).grown hgrow fun g hg => .inr (by simp [Value.ownBlock] at hg; omega)
        · intro g hg
          rcases hfr' with h | ⟨g', h, hle'⟩
          · rw [h] at hg; simp [Value.ownBlock] at hg; omega
          · rw [h] at hg; obtain rfl := Option.some.inj hg
            simp at hle'; omega
      case measure => simp [intOf]; omega
    · obtain rfl : c = 0 := by omega
      rw [H.ok.root] at hps
      have e1 : (0 :: rest) = T.ps n := by rw [hps]; rfl
      have e2 : rest.length + 1 = (T.ps n).length := by rw [← e1]; simp
      rw [e1, e2] at hown
      obtain ⟨b, cp, cur, rfl, hblk, -⟩ := owns_some hown (by omega)
      have hg := hfr b rfl
      clear hps e1 e2 hblk hfr H2
      go_wp2_with fail
      go_ret
      exact ⟨b, cp, rfl, hown, x, hg⟩

theorem rpath_no (bw bu cap : Nat) (n : Int) (T : Tree) (w : World) (H : RefAt w bw bu cap T) (hn : n < 0 ∨ (T.len : Int) ≤ n) :
    Calls Tryd.prog 38 #[.pointer (some ⟨bw, 0, none⟩), .int .i64 n] w fun e w' => e = .returned (.slice none 0 0) ∧ w = w' := by
  have hh := has_any bw bu cap n T w H
  rw [show decide (0 ≤ n ∧ n < T.len) = false by simp; omega] at hh
  have HF := Lib.hid hh
  clear hh hn
  go_enter Tryd.func38, Tryd.ntmps38
  go_wp2_with fail
  refine HF.out.mono ?_
  rintro e w1 ⟨rfl, rfl⟩
  go_wp2_with fail
  go_ret
  exact ⟨rfl, rfl⟩

theorem mem_take_succ (l : List Nat) (k : Nat) (o : Int) (hk : k < l.length) : o ∈ nats (l.take (k + 1)) ↔ o ∈ nats (l.take k) ∨ (l[k] : Int) = o := by
  rw [List.take_succ_eq_append_getElem hk]
  simp only [nats, List.map_append, List.mem_append, List.map_cons, List.map_nil, List.mem_singleton]
  constructor <;> (rintro (h | h); exact .inl h; exact .inr h.symm)

set_option maxHeartbeats 1000000 in
theorem rinside_any (bw bu cap : Nat) (n o : Int) (T : Tree) (w : World) (H : RefAt w bw bu cap T) :
    Calls Tryd.prog 21 #[.pointer (some ⟨bw, 0, none⟩), .int .i64 n, .int .i64 o] w fun e w' => e = .returned (.bool (T.inside n o)) ∧ Ext [] w w' := by
  by_cases hn : 0 ≤ n ∧ n < T.len
  · obtain ⟨k, rfl⟩ := Int.eq_ofNat_of_zero_le hn.1
    have hk : k < T.len := by omega
    have HP := Lib.hid (rpath_ok bw bu cap k T w H hk)
    have hd := H.ok.deep k hk
    have hin : T.inside k o = decide (o ∈ nats (T.ps k)) := by
      unfold Tree.inside
      simp [hk]
    rw [hin]
    clear hin hn
    generalize T.ps k = l at *
    go_enter Tryd.func21, Tryd.ntmps21
    go_wp2_with fail
    refine HP.out.mono ?_
    rintro e w1 ⟨b, c, rfl, hown, x1, hb⟩
    have HW := Lib.hid (fun i (hi : i < l.length) => (show w1.cell? ⟨b, i, none⟩ = some (.int .i64 ((l[i] : Nat) : Int)) by
      rw [hown.cellAt i (by omega)]; simp [nats, hi]))
    clear hown
    go_wp2_with fail
    go_loop [8] (fun i => ∃ j : Nat, j ≤ l.length ∧ i = .int .i64 j ∧ o ∉ nats (l.take j)) (fun i => l.length - (intOf i).toNat)
    case atStart => exact ⟨0, Nat.zero_le _, rfl, by simp [nats]⟩
    case round =>
      obtain ⟨j, hj, rfl, hno⟩ := hrel
      by_cases hlt : j < l.length
      · have hc := HW.out j hlt
        have hm := mem_take_succ l j o hlt
        by_cases he : ((l[j] : Nat) : Int) = o
        · have hb' : (((l[j] : Nat) : Int) == o) = true := by simpa using he
          have HR := Lib.hid (show o ∈ nats l by
            simp only [nats, List.mem_map]; exact ⟨l[j], List.getElem_mem _, he⟩)
          clear hm he hno
          go_wp2_with fail
          go_ret
          exact ⟨by simp [HR.out], x1⟩
        · have hb' : (((l[j] : Nat) : Int) == o) = false := by simpa using he
          have HR := Lib.hid (show o ∉ nats (l.take (j + 1)) by rw [hm]; simp [hno, he])
          clear hm he hno
          go_wp2_with fail
          go_round
          case rel => exact ⟨j + 1, by omega, by go_num, HR.out⟩
          case measure => simp [intOf]; omega
      · rw [List.take_of_length_le (by omega)] at hno
        have HR := Lib.hid hno
        clear hno
        go_wp2_with fail
        go_ret
        exact ⟨by simp [HR.out], x1⟩
  · have hn' : n < 0 ∨ (T.len : Int) ≤ n := by omega
    have HP := Lib.hid (rpath_no bw bu cap n T w H hn')
    have hin : T.inside n o = false := by unfold Tree.inside; simp only [hn, decide_false, Bool.false_and]
    rw [hin]
    clear hin hn hn'
    go_enter Tryd.func21, Tryd.ntmps21
    go_wp2_with fail
    refine HP.out.mono ?_
    rintro e w1 ⟨rfl, rfl⟩
    go_wp2_with fail
    refine wp_loop_rounds 1 ?_
    rw [rounds_succ]
    go_wp2_with fail
    go_ret
    exact ⟨rfl, Ext.refl _ _⟩

theorem ref_new (w : World) :
    Calls Tryd.prog 15 #[] w fun e w' => ∃ bw bu cap, e = .returned (.pointer (some ⟨bw, 0, none⟩)) ∧ RefAt w' bw bu cap Tree.one ∧ Ext [] w w' ∧ w.heap.size ≤ bw ∧ w.heap.size ≤ bu := by
  go_enter Tryd.func15, Tryd.ntmps15
  go_wp2_with fail
  go_ret
  refine ⟨w.heap.size + 1, w.heap.size, 1, rfl, ⟨?_, ?_, by omega, Tree.one_ok⟩, ((Ext.refl _ _).alloc _).alloc _, by omega, by omega⟩
  · exact Blk.new' _ 78 #[.slice (some ⟨w.heap.size, 0, none⟩) 1 1] (w.heap.size + 1) (by simp)
  · exact ((Blk.new w 3 #[.int .i64 0]).alloc _).owns (n := 1) (size := 1) rfl (by decide)

def RMakePost (w : World) (bt bl : Nat) (r : Int × Int × Tree) (e : Ending) (w' : World) : Prop :=
  ∃ bl' cap', e = .returned (.tuple #[.int .i64 r.1, .int .i64 r.2.1]) ∧ RefAt w' bt bl' cap' r.2.2 ∧ Ext [bt, bl] w w' ∧ (bl' = bl ∨ w.heap.size ≤ bl')

theorem upsTo_push (T : Tree) (u : Nat) : upsTo (T.push u) (T.len + 1) = upsTo T T.len ++ [.int .i64 (u : Nat)] := by
  unfold upsTo
  rw [List.range_succ, List.map_append]
  congr 1
  · apply List.map_congr_left
    intro j hj
    have : j < T.len := by simpa using hj
    simp only [Tree.push]; rw [if_neg (by omega)]
  · simp [Tree.push]

theorem rpush_close {w1 w2 : World} {bt bl cap n g cap' : Nat} {T : Tree} (H : RefAt w1 bt bl cap T) (hn : n < T.len) (hd : T.depth n < 4) (hl : T.len < 8) (x2 : Ext [bl] w1 w2)
    (hown : w2.ownsRow 0 3 1 (.slice (some ⟨g, 0, none⟩) (T.len + 1) cap') (T.len + 1) (upsTo T T.len ++ [.int .i64 (n : Int)]))
    (hg : g = bl ∨ w1.heap.size ≤ g) :
    RefAt (w2.setCell ⟨bt, 0, none⟩ (.slice (some ⟨g, 0, none⟩) (T.len + 1) cap')) bt g cap' (T.push n) := by
  have hne := H.ne
  have l1 := H.lt1
  have hgt : bt ≠ g := by rcases hg with rfl | h <;> omega
  refine ⟨?_, ?_, hgt, H.ok.push hn hd hl⟩
  · exact (H.t.ext x2 (by simp [hne])).set 0 _
  · show World.ownsRow _ 0 3 1 (.slice (some ⟨g, 0, none⟩) (T.len + 1) cap') (T.len + 1) (upsTo (T.push n) (T.len + 1))
    rw [upsTo_push]
    exact owns_ext hown ((Ext.refl [bt] w2).setCell (.inl (by simp)) _) (by intro k hk; simp [Value.ownBlock] at hk; subst hk; simp; omega)

set_option maxHeartbeats 1000000 in
theorem rmake_push (bt bl cap n : Nat) (T : Tree) (w : World) (H : RefAt w bt bl cap T) (hn : n < T.len) (hd : T.depth n < 4) (hl : T.len < 8) :
    Calls Tryd.prog 17 #[.pointer (some ⟨bt, 0, none⟩), .int .i64 n] w (RMakePost w bt bl (T.len, 0, T.push n)) := by
  obtain ⟨i0, hi, hz0, hz1, hz2⟩ := info_parts info_int'
  have hh := has_any bt bl cap n T w H
  rw [show decide (0 ≤ (n : Int) ∧ (n : Int) < T.len) = true by simp; omega] at hh
  have HF := Lib.hid hh
  clear hh
  have hp := rpath_ok bt bl cap n T w H hn
  unfold RowPost at hp
  rw [H.ok.len_eq n hn] at hp
  have HP := Lib.hid hp
  clear hp
  have l1 := H.lt1
  have l2 := H.lt2
  have hne := H.ne
  go_enter Tryd.func17, Tryd.ntmps17
  go_wp2_with fail
  refine HF.out.mono ?_
  rintro e w0 ⟨rfl, rfl⟩
  go_wp2_with fail
  refine HP.out.mono ?_
  rintro e w1 ⟨b, c, rfl, -, x1, hb⟩
  have H2 := (H.ext x1 (by simp) (by simp))
  have ht := H2.t.cell 0
  have hf := H2.t.frozen 0
  have hsz := x1.size
  have hA := H2.a
  have l3 := H2.lt1
  have l4 := H2.lt2
  simp only [List.getElem?_cons_zero] at ht
  have HT := Lib.hid H2.t
  have HH := Lib.hid H2
  clear H2 HF HP
  generalize hTl : T.len = len at *
  have HTL := Lib.hid hTl
  clear hTl
  have hown0 := owns_ext hA ((Ext.refl [] w1).alloc (.cells #[.int .i64 (n : Int)] 3)) (by simp)
  go_wp2_with (at_builtin; go_must (refine wpList_app _ rfl _ _ 41 rfl 3 i0 (.int .i64 0) 1 8 Tryd.underlying41 hi hz0 hz1 hz2 rfl (by decide) (.slice (some ⟨bl, 0, none⟩) len cap) _ _ rfl hown0 _ 1 [.int .i64 (n : Int)] rfl (blk_reads (Blk.new w1 3 #[.int .i64 (n : Int)]) 1 rfl) (by intro u hu; simp at hu; subst hu; rfl) (by unfold maxLen; omega) (by omega) ?_); intro v' w2 hown' hgrow hfr' _; have x2 : Ext [bl] w1 w2 := (((Ext.refl [bl] w1).alloc _)).grown hgrow (by intro k hk; simp [Value.ownBlock] at hk; simp [hk]); have ht2 := (HT.out.ext x2 (by simp [hne])).cell 0; have hf2 := (HT.out.ext x2 (by simp [hne])).frozen 0; simp only [List.getElem?_cons_zero] at ht2; obtain ⟨g, cap', cur, rfl, hblk, -⟩ := owns_some hown' (by omega))
  go_ret2
  have e1 := HTL.out
  subst e1
  have hg : g = bl ∨ w1.heap.size ≤ g := by
    rcases hfr' with h | ⟨g', h, h2⟩
    · simp [Value.ownBlock] at h; exact .inl h
    · simp [Value.ownBlock] at h h2; subst h; exact .inr (by omega)
  refine ⟨g, cap', rfl, rpush_close HH.out hn hd hl x2 hown' hg, ?_, by omega⟩
  exact ((x1.sub (by simp)).trans' x2 (by simp)).setCell (.inl (by simp)) _

theorem rmake_any (bt bl cap : Nat) (u : Int) (T : Tree) (w : World) (H : RefAt w bt bl cap T) :
    Calls Tryd.prog 17 #[.pointer (some ⟨bt, 0, none⟩), .int .i64 u] w (RMakePost w bt bl (T.make u)) := by
  unfold Tree.make
  by_cases h1 : u < 0 ∨ (T.len : Int) ≤ u
  · rw [if_pos h1]
    have hh := has_any bt bl cap u T w H
    rw [show decide (0 ≤ u ∧ u < T.len) = false by simp; omega] at hh
    have HF := Lib.hid hh
    clear hh h1
    go_enter Tryd.func17, Tryd.ntmps17
    go_wp2_with fail
    refine HF.out.mono ?_
    rintro e w0 ⟨rfl, rfl⟩
    go_wp2_with fail
    go_ret2
    exact ⟨bl, cap, rfl, H, Ext.refl _ _, .inl rfl⟩
  · rw [if_neg h1]
    obtain ⟨n, rfl⟩ := Int.eq_ofNat_of_zero_le (show 0 ≤ u by omega)
    have hn : n < T.len := by omega
    rw [Int.toNat_natCast]
    have hdl := H.ok.depth_le n hn
    have hll := H.ok.le
    have hh := has_any bt bl cap n T w H
    rw [show decide (0 ≤ (n : Int) ∧ (n : Int) < T.len) = true by simp; omega] at hh
    have hp := rpath_ok bt bl cap n T w H hn
    unfold RowPost at hp
    rw [H.ok.len_eq n hn] at hp
    by_cases h2 : T.depth n = 4
    · rw [if_pos h2]
      rw [h2] at hp
      have HF := Lib.hid hh
      have HP := Lib.hid hp
      clear hh hp h1 h2
      go_enter Tryd.func17, Tryd.ntmps17
      go_wp2_with fail
      refine HF.out.mono ?_
      rintro e w0 ⟨rfl, rfl⟩
      go_wp2_with fail
      refine HP.out.mono ?_
      rintro e w1 ⟨b, c, rfl, -, x1, hb⟩
      go_wp2_with fail
      go_ret2
      exact ⟨bl, cap, rfl, H.ext x1 (by simp) (by simp), x1.sub (by simp), .inl rfl⟩
    · rw [if_neg h2]
      by_cases h3 : T.len = 8
      · rw [if_pos h3]
        have HF := Lib.hid hh
        have HP := Lib.hid hp
        have HB := Lib.hid H.t
        rw [h3] at HB
        have hd4 : T.depth n < 4 := by omega
        clear hh hp h1 h3 h2
        go_enter Tryd.func17, Tryd.ntmps17
        go_wp2_with fail
        refine HF.out.mono ?_
        rintro e w0 ⟨rfl, rfl⟩
        go_wp2_with fail
        refine HP.out.mono ?_
        rintro e w1 ⟨b, c, rfl, -, x1, hb⟩
        have ht := (HB.out.ext x1 (by simp)).cell 0
        simp only [List.getElem?_cons_zero] at ht
        go_wp2_with fail
        go_ret2
        exact ⟨bl, cap, rfl, H.ext x1 (by simp) (by simp), x1.sub (by simp), .inl rfl⟩
      · rw [if_neg h3]
        exact rmake_push bt bl cap n T w H hn (by omega) (by omega)

end Go.Proofs.YtnjgehfnafdldaaDoor
