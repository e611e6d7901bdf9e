/- slices.Chunk of bytes: its contract as an iterator. -/
import Derived.RangeFuncNested
import Derived.RangeFuncBound
import Derived.RangeFuncCalls
import Derived.RangeFuncLeaves
import Derived.RangeFuncBox
import Derived.Shelf.Abstract
import Derived.Shelf.RegionOpen
import Derived.WalkKit
import Derived.OwnWalkIn
import Derived.TacticsInMore
import Derived.LoopNIn
import Derived.LoopIn
import Derived.Test.YtgcbgeombbohpaaDoorHeld
import Derived.Test.YtgcbgeombbohpaaDoorRow
import Derived.Test.YtgcbgeombbohpaaDoorByt
namespace Go.Proofs.YtgcbgeombbohpaaDoor
open Go.RowKit Go.Shelf
set_option maxRecDepth 100000

attribute [local go_sem] Oper.semAt_some

/-- What a round keeps: the cells of the blocks S. -/
def KeepC (S : Nat → Prop) (W W' : World) : Prop := ∀ k i v, S k → W.cell? ⟨k, i, none⟩ = some v → W'.cell? ⟨k, i, none⟩ = some v
theorem keepC_t {S : Nat → Prop} {A B C : World} (h : KeepC S A B) (k : KeepC S B C) : KeepC S A C := fun b i v hs hc => k b i v hs (h b i v hs hc)
theorem keepC_b {S : Nat → Prop} {w : World} (W : World) (l : Nat) (o o' : Obj) (_ : w.heap.size ≤ l) (h : W.heap[l]? = some o) (ho : o.isCells = false) (_ : o.isWalk = false) : KeepC S W (W.putObj l o') :=
  fun _ _ _ _ hc => cell_kept hc (grownBy_putObj' W l o') (fun r e => by cases e; exact ⟨o, h, ho⟩)
theorem keepC_ext {S : Nat → Prop} {T : List Nat} {W W' : World} (h : Ext T W W') (hd : ∀ k, S k → k ∉ T) : KeepC S W W' := fun k _ _ hs hc => by
  rw [h.cell (World.block_lt_of_cell? W _ hc) (hd k hs)]; exact hc

/-- What has come when k rounds are over. -/
def upTo (m k : Nat) : List (Fin m) := (List.finRange m).take k
theorem upTo_length (m k : Nat) (h : k ≤ m) : (upTo m k).length = k := by simp [upTo]; omega
theorem upTo_succ (m k : Nat) (h : k < m) : upTo m (k + 1) = upTo m k ++ [⟨k, h⟩] := by
  unfold upTo
  rw [List.take_succ_eq_append_getElem (by simpa using h)]
  simp
theorem upTo_all (m : Nat) : upTo m m = List.finRange m := by
  unfold upTo
  rw [List.take_of_length_le (by simp)]

set_option maxRecDepth 100000 in
set_option maxHeartbeats 4000000 in
theorem chunk1_in (F : Fence) (n : Nat) (h19 : F.fn 46) (hro : F.round = none) (hn : 1 ≤ n) (l Bs Bn b off m cap sz : Nat) (hsz : 1 ≤ sz) (hsz2 : sz ≤ 1000) (hm : m ≤ 100000) (hcap : sz * m ≤ cap)
    (J Jx : List (Fin m) → World → Prop)
    (hY : ∀ pre x W, J pre W → pre.length < m → YieldAt F (n - 1) Tryd.prog l #[.slice (some ⟨b, off + sz * x.val, none⟩) sz sz] W fun e W' =>
      (e = .returned (.bool true) ∧ J (pre ++ [x]) W' ∧ KeepC (fun k => k = Bs ∨ k = Bn) W W') ∨ (e = .returned (.bool false) ∧ Jx (pre ++ [x]) W'))
    (W : World) (hBs : W.cell? ⟨Bs, 0, none⟩ = some (.slice (some ⟨b, off, none⟩) (sz * m) cap)) (hBn : W.cell? ⟨Bn, 0, none⟩ = some (.int .i64 sz)) (h0 : J [] W) (hJd : ∀ pre W, J pre W → J pre W.drew) :
    CallsIn F n Tryd.prog 46 #[.func (.yield l) #[] #[], .pointer (some ⟨Bs, 0, none⟩), .pointer (some ⟨Bn, 0, none⟩)] W fun e W' => (∃ v, e = .returned v) ∧
      ((∃ ys, ys = upTo m m ∧ J ys W') ∨ (∃ pre, (∃ k, k ≤ m ∧ pre = upTo m k) ∧ Jx pre W')) := by
  refine callsIn_of_wp Tryd.func46 rfl h19 ?_ hro
  simp only [Tryd.ntmps46, List.size_toArray, List.length_cons, List.length_nil, Nat.reduceAdd, Nat.reduceSub, Array.replicate_succ, Array.replicate_zero, List.push_toArray, List.append_toArray, List.nil_append, List.cons_append]
  gi_wp2
  gi_loopw [4, 5] (fun i _ wr => ∃ k : Nat, k ≤ m ∧ i = .int .i64 ((sz * k : Nat) : Int) ∧ J (upTo m k) wr ∧ KeepC (fun k => k = Bs ∨ k = Bn) W wr)
    (fun i _ _ => sz * m - (intOf i).toNat)
  case atStart => exact ⟨0, Nat.zero_le _, by simp, by simpa [upTo] using h0, fun _ _ _ _ h => h⟩
  case round =>
    obtain ⟨k, hk, rfl, hJs, hkp⟩ := hrel
    have c1 := hkp Bs 0 _ (.inl rfl) hBs
    have c2 := hkp Bn 0 _ (.inr rfl) hBn
    by_cases hlt : k < m
    · have hkm : sz * k + sz ≤ sz * m := by rw [← Nat.mul_succ]; exact Nat.mul_le_mul_left _ hlt
      have hbig : sz * m ≤ 1000 * 100000 := Nat.mul_le_mul hsz2 hm
      obtain ⟨fn, tmps, assign, body, hy, hR⟩ := hY _ ⟨k, hlt⟩ wr.drew (hJd _ _ hJs) (by rw [upTo_length _ _ hk]; exact hlt)
      dsimp only at hy
      have hsu := upTo_succ m k hlt
      have HSM := Lib.hid (show sz * (k + 1) = sz * k + sz from Nat.mul_succ _ _)
      generalize hsk : sz * k = sk at *
      generalize sz * m = sm at *
      have q1 : ¬ (cap = sk) := by omega
      have q2 : (0 : Int) ≤ (sk : Int) := by omega
      have q3 : (sk : Int) ≤ (cap : Int) := by omega
      have q4 : ((sk : Int)).toNat = sk := by omega
      gi_wp2
      gi_region
      all_goals
        rw [show (if sm - sk < sz then ((sm - sk : Nat) : Int) else (sz : Int)) = (sz : Int) from if_neg (by omega)]
        have d1 : wr.drew.cell? ⟨Bs, 0, none⟩ = some (.slice (some ⟨b, off, none⟩) sm cap) := c1
        have d2 : wr.drew.cell? ⟨Bn, 0, none⟩ = some (.int .i64 sz) := c2
        have hkp2 : KeepC (fun k => k = Bs ∨ k = Bn) W wr.drew := hkp
        clear hkp c1 c2 hJs
        generalize wr.drew = w2 at *
        have q5 : (sk : Int) ≤ (sk : Int) + (sz : Int) := by omega
        have q6 : (sk : Int) + (sz : Int) ≤ (cap : Int) := by omega
        have q7 : ((sk : Int) + (sz : Int)).toNat - sk = sz := by omega
        gi_wp2
        refine hR.mono ?_
        rintro e W3 (⟨rfl, hJ3, hk3⟩ | ⟨rfl, hJx3⟩)
        · have d3 := hk3 Bn 0 _ (.inr rfl) d2
          gi_wp2
          go_roundw
          case rel => exact ⟨k + 1, by omega, by rw [HSM.out]; push_cast; rfl, by rw [hsu]; exact hJ3, keepC_t hkp2 hk3⟩
          case measure => simp [intOf]; omega
        · gi_wp2
          refine bodyPost_ret (results_none rfl _ _ _) rfl ?_
          exact ⟨⟨_, rfl⟩, .inr ⟨_, ⟨k + 1, by omega, hsu.symm⟩, hJx3⟩⟩
    · obtain rfl : k = m := by omega
      gi_wp2
      go_end0
      exact ⟨⟨_, rfl⟩, .inl ⟨_, rfl, hJs⟩⟩

set_option maxRecDepth 100000 in
set_option maxHeartbeats 2000000 in
theorem chunk1_nil_in (F : Fence) (n : Nat) (h19 : F.fn 46) (hro : F.round = none) (l Bs Bn : Nat) (a : Option Addr) (cap : Nat) (J : List (Fin 0) → World → Prop)
    (W : World) (hBs : W.cell? ⟨Bs, 0, none⟩ = some (.slice a 0 cap)) (h0 : J [] W) :
    CallsIn F n Tryd.prog 46 #[.func (.yield l) #[] #[], .pointer (some ⟨Bs, 0, none⟩), .pointer (some ⟨Bn, 0, none⟩)] W fun e W' => (∃ v, e = .returned v) ∧ J [] W' := by
  refine callsIn_of_wp Tryd.func46 rfl h19 ?_ hro
  simp only [Tryd.ntmps46, List.size_toArray, List.length_cons, List.length_nil, Nat.reduceAdd, Nat.reduceSub, Array.replicate_succ, Array.replicate_zero, List.push_toArray, List.append_toArray, List.nil_append, List.cons_append]
  gi_wp2
  gi_loopw [4, 5] (fun i _ wr => i = .int .i64 0 ∧ wr.cell? ⟨Bs, 0, none⟩ = some (.slice a 0 cap) ∧ J [] wr) (fun _ _ _ => 0)
  case atStart => exact ⟨rfl, hBs, h0⟩
  case round =>
    obtain ⟨rfl, c1, hJs⟩ := hrel
    gi_wp2
    go_end0
    exact ⟨⟨_, rfl⟩, hJs⟩

set_option maxHeartbeats 1000000 in
/-- slices.Chunk: slice and size are boxed; the function value captures both. -/
theorem chunk_in (F : Fence) (n : Nat) (h14 : F.fn 36) (hro : F.round = none) (a : Option Addr) (len cap sz : Nat) (hsz : 1 ≤ sz) (hsz2 : sz ≤ 1000) (w : World) :
    CallsIn F n Tryd.prog 36 #[.slice a len cap, .int .i64 (sz : Int)] w fun e w' => e = .returned (.func (.func 46) #[] #[.pointer (some ⟨w.heap.size, 0, none⟩), .pointer (some ⟨w.heap.size + 1, 0, none⟩)]) ∧
      w' = (w.alloc (.cells #[.slice a len cap] 30)).alloc (.cells #[.int .i64 (sz : Int)] 3) := by
  refine callsIn_of_wp Tryd.func36 rfl h14 ?_ hro
  simp only [Tryd.ntmps36, List.size_toArray, List.length_cons, List.length_nil, Nat.reduceAdd, Nat.reduceSub, Array.replicate_succ, Array.replicate_zero, List.push_toArray, List.append_toArray, List.nil_append, List.cons_append]
  have hq : ((w.alloc (.cells #[.slice a len cap] 30)).alloc (.cells #[.int .i64 (sz : Int)] 3)).cell? ⟨w.heap.size + 1, 0, none⟩ = some (.int .i64 (sz : Int)) :=
    (Blk.new' (w.alloc (.cells #[.slice a len cap] 30)) 3 #[.int .i64 (sz : Int)] (w.heap.size + 1) (by simp)).cell 0
  gi_wp2
  go_ret
  exact ⟨rfl, rfl⟩

/-- slices.Chunk hands back a value that 'SeqStopsK': all pieces, in order. -/
theorem chunk_stops (F : Fence) (n : Nat) (h19 : F.fn 46) (hro : F.round = none) (hn : 1 ≤ n) (Bs Bn b off m cap sz : Nat) (a : Option Addr) (hsz : 1 ≤ sz) (hsz2 : sz ≤ 1000) (hm : m ≤ 100000) (hcap : sz * m ≤ cap) (ha : 0 < m → a = some ⟨b, off, none⟩)
    (w : World) (hBsl : Bs < w.heap.size) (hBnl : Bn < w.heap.size) (hBs : w.cell? ⟨Bs, 0, none⟩ = some (.slice a (sz * m) cap)) (hBn : w.cell? ⟨Bn, 0, none⟩ = some (.int .i64 sz)) :
    SeqStopsK F n Tryd.prog 46 #[.pointer (some ⟨Bs, 0, none⟩), .pointer (some ⟨Bn, 0, none⟩)] (fun x : Fin m => #[.slice (some ⟨b, off + sz * x.val, none⟩) sz sz]) (KeepC (fun k => k = Bs ∨ k = Bn)) (fun ys => ys = List.finRange m)
      (fun pre => ∃ k, k ≤ m ∧ pre = upTo m k) m w := fun l J Jx W hW hJ _ hY hJ0 => by
  have hBs' := (hW.cell (p := ⟨Bs, 0, none⟩) hBsl).trans hBs
  have hBn' := (hW.cell (p := ⟨Bn, 0, none⟩) hBnl).trans hBn
  by_cases hm0 : m = 0
  · subst hm0
    refine (chunk1_nil_in F n h19 hro l Bs Bn a cap J W (by simpa using hBs') hJ0).mono ?_
    rintro e W' ⟨he, hj⟩
    exact ⟨he, .inl ⟨_, rfl, by simpa using hj⟩⟩
  · obtain rfl := ha (by omega)
    refine (chunk1_in F n h19 hro hn l Bs Bn b off m cap sz hsz hsz2 hm hcap J Jx hY W hBs' hBn' hJ0 ?_).mono ?_
    · intro pre W1 h1
      exact hJ pre W1 W1.drew none h1 ⟨rfl, rfl, rfl, Nat.le_refl _, fun _ _ _ => rfl⟩ (fun r e => by cases e)
    · rintro e W' ⟨he, ⟨ys, rfl, hj⟩ | ⟨pre, hk, hj⟩⟩
      · exact ⟨he, .inl ⟨_, upTo_all m, hj⟩⟩
      · exact ⟨he, .inr ⟨_, hk, hj⟩⟩
end Go.Proofs.YtgcbgeombbohpaaDoor
