/- Package space: Path, Inside. -/
import Derived.Test.YtbjkfgfiifnjoaaDoorSpT
namespace Go.Proofs.YtbjkfgfiifnjoaaDoor
open Go.RowKit
set_option maxRecDepth 100000

theorem info_int' : (Tryd.prog.info? 3).map (fun i => (i.zero, i.size, i.bytes)) = some (some (.int .i64 0), 1, 8) := by kernel_rfl

def nats (l : List Nat) : List Int := l.map fun n : Nat => (n : Int)

/-- A fresh row of numbers is handed back. -/
def RowPost (w : World) (l : List Nat) (e : Ending) (w' : World) : Prop :=
  ∃ b c, e = .returned (.slice (some ⟨b, 0, none⟩) l.length c) ∧ w'.ownsRow 0 3 1 (.slice (some ⟨b, 0, none⟩) l.length c) l.length ((nats l).map (Value.int .i64)) ∧ Ext [] w w' ∧ w.heap.size ≤ b

set_option maxHeartbeats 1000000 in
theorem path_ok (bt bl cap n : Nat) (T : Tree) (w : World) (H : TreeAt w bt bl cap T) (hn : n < T.len) :
    Calls Tryd.prog 144 #[.pointer (some ⟨bt, 0, none⟩), .int .i64 n] w (RowPost w (T.ps n)) := by
  obtain ⟨i0, hi, hz0, hz1, hz2⟩ := info_parts info_int'
  have HF := Lib.hid (find_ok bt bl cap n T w H hn)
  have hlen := H.ok.le
  have hd := H.ok.depth_le n hn
  have l1 := H.lt1
  have l2 := H.lt2
  go_enter Tryd.func144, Tryd.ntmps144
  go_wp2_with fail
  refine HF.out.mono ?_
  rintro e w1 ⟨rfl, x1⟩
  go_wp2_with fail
  have H2 := H.ext x1 (by simp) (by simp)
  have hsz := x1.size
  go_loopw [1, 7, 20] (fun m out i wr => ∃ (k c : Nat) (rest : List Nat) (v : Value), k ≤ T.depth n ∧ i = .int .i64 k ∧ out = v ∧ c < T.len ∧ m = .int .i64 c ∧ T.depth c = T.depth n - k ∧ T.ps n = T.ps c ++ rest ∧ rest.length = k ∧ wr.ownsRow 0 3 1 v (k + 1) ((nats (c :: rest).reverse).map (Value.int .i64)) ∧ Ext [] w wr ∧ ∀ g, v.ownBlock = some g → w.heap.size ≤ g) (fun _ _ i _ => T.depth n - (intOf i).toNat)
  case atStart =>
    refine ⟨0, n, [], _, Nat.zero_le _, rfl, rfl, hn, rfl, by omega, by simp, rfl, ?_, (x1.alloc _).alloc _, ?_⟩
    · exact (Blk.new' _ 3 #[.int .i64 (n : Int)] _ (by simp)).owns (n := 1) (size := 1) rfl (by decide)
    · intro g hg; simp [Value.ownBlock] at hg; subst hg; omega
  case round =>
    clear H2
    obtain ⟨k, c, rest, v, hk, rfl, rfl, hc, rfl, hdc, hps, hrest, hown, x, hfr⟩ := hrel
    have H2 := H.ext x (by simp) (by simp)
    by_cases hlt : k < T.depth n
    · have hc0 : 0 < c := by
        rcases Nat.eq_zero_or_pos c with h | h
        · subst h; rw [H.ok.depth_root] at hdc; omega
        · exact h
      have hst := H.ok.step c hc0 hc
      have hdu := H.ok.depth_up c hc0 hc
      have ht := H2.t.cell 0
      simp only [List.getElem?_cons_zero] at ht
      have cu := H2.up c hc
      have hup : T.up c < 8 := by omega
      have HB := Lib.hid (show T.up c < T.len ∧ T.depth (T.up c) = T.depth n - (k + 1) ∧ T.ps n = T.ps (T.up c) ++ (c :: rest) from ⟨by omega, by omega, by rw [hps, hst.2]; simp⟩)
      have HR := Lib.hid hrest
      have HW := Lib.hid hown
      clear hdc hps hst hdu hrest
      generalize T.up c = u at *
      generalize T.depth n = dd at *
      have hown2 := owns_ext hown ((Ext.refl [] wr).alloc (.cells #[.int .i64 (u : Int)] 3)) (by simp)
      go_wp2_with (at_builtin; go_must (refine wpList_app _ rfl _ _ 48 rfl 3 i0 (.int .i64 0) 1 8 Tryd.underlying48 hi hz0 hz1 hz2 rfl (by decide) _ _ _ rfl hown2 _ 1 [.int .i64 (u : Int)] rfl (blk_reads (Blk.new _ 3 #[.int .i64 (u : Int)]) 1 rfl) (by intro u hu; simp at hu; subst hu; rfl) (by unfold maxLen; omega) (by omega) ?_); intro v' w1 hown' hgrow hfr' _)
      go_roundw
      case rel =>
        refine ⟨k + 1, u, c :: rest, v', by omega, by go_num, rfl, HB.out.1, rfl, HB.out.2.1, HB.out.2.2, by simp [HR.out], ?_, ?_, ?_⟩
        · simpa [nats] using hown'
        · exact (x.alloc _).grown hgrow fun g hg => .inr (hfr g hg)
        · intro g hg
          rcases hfr' with h | ⟨g', h, hle'⟩
          · exact hfr g (h ▸ hg)
          · rw [h] at hg; obtain rfl := Option.some.inj hg
            have := x.size
            simp at hle'; omega
      case measure => simp [intOf]; omega
    · have hk' : k = T.depth n := by omega
      have hc0 : c = 0 := H.ok.depth_zero c hc (by omega)
      rw [hc0, H.ok.root] at hps
      have hl2 := H.ok.len_eq n hn
      have e1 : (c :: rest) = T.ps n := by rw [hps, hc0]; rfl
      rw [e1] at hown
      have HW := Lib.hid hown
      have HL := Lib.hid hl2
      obtain ⟨b, cp, cur, rfl, hblk, -⟩ := owns_some hown (by omega)
      have hg := hfr b rfl
      have HKK := Lib.hid hk'
      have hk5 : k ≤ 4 := by omega
      clear hps e1 hl2 hblk hown hfr H2 hk' hdc hc0 hrest
      go_wp2_with fail
      refine (reverse_own b cp (k + 1) (nats (T.ps n).reverse) wr (by simp [nats, HL.out, HKK.out]) (by simp [nats, HL.out]; omega) HW.out).mono ?_
      rintro e w2 ⟨rfl, hown2, x2, -⟩
      go_wp2_with fail
      go_ret
      have hl3 := HL.out
      have hk' := HKK.out
      rw [← hk'] at hl3
      refine ⟨b, cp, by rw [hl3]; rfl, ?_, x.trans' x2 (by simp; omega), hg⟩
      rw [hl3]
      simpa [nats] using hown2

theorem path_no (bt bl cap : Nat) (n : Int) (T : Tree) (w : World) (H : TreeAt w bt bl cap T) (hn : n < 0 ∨ (T.len : Int) ≤ n) :
    Calls Tryd.prog 144 #[.pointer (some ⟨bt, 0, none⟩), .int .i64 n] w fun e w' => e = .returned (.slice none 0 0) ∧ Ext [] w w' := by
  have HF := Lib.hid (find_no bt bl cap n T w H hn)
  clear hn
  go_enter Tryd.func144, Tryd.ntmps144
  go_wp2_with fail
  refine HF.out.mono ?_
  rintro e w1 ⟨rfl, x1⟩
  go_wp2_with fail
  go_ret
  exact ⟨rfl, x1.alloc _⟩

theorem path_nil (n : Int) (w : World) :
    Calls Tryd.prog 144 #[.pointer none, .int .i64 n] w fun e w' => e = .returned (.slice none 0 0) ∧ Ext [] w w' := by
  have HF := Lib.hid (find_nil n w)
  go_enter Tryd.func144, Tryd.ntmps144
  go_wp2_with fail
  refine HF.out.mono ?_
  rintro e w1 ⟨rfl, x1⟩
  go_wp2_with fail
  go_ret
  exact ⟨rfl, x1.alloc _⟩

theorem index_nil (x : Int) (w : World) :
    Calls Tryd.prog 70 #[.slice none 0 0, .int .i64 x] w fun e w' => e = .returned (.int .i64 (-1)) ∧ w = w' := by
  go_enter Tryd.func70, Tryd.ntmps70
  go_wp2
  refine wp_loop_rounds 1 ?_
  rw [rounds_succ]
  go_wp2
  go_ret
  exact ⟨rfl, rfl⟩

theorem contains_of (v : Value) (x r : Int) (w : World)
    (hi : Calls Tryd.prog 70 #[v, .int .i64 x] w fun e w' => e = .returned (.int .i64 r) ∧ w = w') :
    Calls Tryd.prog 143 #[v, .int .i64 x] w fun e w' => e = .returned (.bool (decide (0 ≤ r))) ∧ w = w' := by
  have HI := Lib.hid hi
  clear hi
  go_enter Tryd.func143, Tryd.ntmps143
  go_wp2_with fail
  refine HI.out.mono ?_
  rintro e w1 ⟨rfl, rfl⟩
  go_wp2_with fail
  go_ret
  exact ⟨by simp, rfl⟩

/-- Is o in the way to n? -/
def Tree.inside (T : Tree) (n o : Int) : Bool := decide (0 ≤ n ∧ n < T.len) && decide (o ∈ nats (T.ps n.toNat))

theorem inside_any (bt bl cap : Nat) (n o : Int) (T : Tree) (w : World) (H : TreeAt w bt bl cap T) :
    Calls Tryd.prog 116 #[.pointer (some ⟨bt, 0, none⟩), .int .i64 n, .int .i64 o] w fun e w' => e = .returned (.bool (T.inside n o)) ∧ Ext [] w w' := by
  by_cases hn : 0 ≤ n ∧ n < T.len
  · obtain ⟨k, rfl⟩ := Int.eq_ofNat_of_zero_le hn.1
    have hk : k < T.len := by omega
    have HP := Lib.hid (path_ok bt bl cap k T w H hk)
    have hd := H.ok.deep k hk
    have hin : T.inside k o = decide (0 ≤ idxFrom o (nats (T.ps k)) 0) := by
      unfold Tree.inside
      simp [idxFrom_nonneg, hk]
    rw [hin]
    clear hin
    go_enter Tryd.func116, Tryd.ntmps116
    go_wp2_with fail
    refine HP.out.mono ?_
    rintro e w1 ⟨b, c, rfl, hown, x1, hb⟩
    have hidx := index_any b 0 c (nats (T.ps k)) o w1 (by simp [nats]; omega) (by
      intro i hi
      rw [Nat.zero_add, hown.cellAt i (by simpa [nats] using hi)]
      simp [hi])
    have hlen : (nats (T.ps k)).length = (T.ps k).length := by simp [nats]
    rw [hlen] at hidx
    have HC := Lib.hid (contains_of _ o _ w1 hidx)
    clear hidx hlen
    go_wp2_with fail
    refine HC.out.mono ?_
    rintro e w2 ⟨rfl, rfl⟩
    go_wp2_with fail
    go_ret
    exact ⟨rfl, x1⟩
  · have hn' : n < 0 ∨ (T.len : Int) ≤ n := by omega
    have HP := Lib.hid (path_no bt bl cap n T w H hn')
    have hin : T.inside n o = false := by unfold Tree.inside; simp only [hn, decide_false, Bool.false_and]
    rw [hin]
    clear hin hn hn'
    go_enter Tryd.func116, Tryd.ntmps116
    go_wp2_with fail
    refine HP.out.mono ?_
    rintro e w1 ⟨rfl, x1⟩
    have HC := Lib.hid (contains_of _ o _ w1 (index_nil o w1))
    go_wp2_with fail
    refine HC.out.mono ?_
    rintro e w2 ⟨rfl, rfl⟩
    go_wp2_with fail
    go_ret
    exact ⟨rfl, x1⟩

theorem inside_nil (n o : Int) (w : World) :
    Calls Tryd.prog 116 #[.pointer none, .int .i64 n, .int .i64 o] w fun e w' => e = .returned (.bool false) ∧ Ext [] w w' := by
  have HP := Lib.hid (path_nil n w)
  go_enter Tryd.func116, Tryd.ntmps116
  go_wp2_with fail
  refine HP.out.mono ?_
  rintro e w1 ⟨rfl, x1⟩
  have HC := Lib.hid (contains_of _ o _ w1 (index_nil o w1))
  go_wp2_with fail
  refine HC.out.mono ?_
  rintro e w2 ⟨rfl, rfl⟩
  go_wp2_with fail
  go_ret
  exact ⟨rfl, x1⟩

end Go.Proofs.YtbjkfgfiifnjoaaDoor
