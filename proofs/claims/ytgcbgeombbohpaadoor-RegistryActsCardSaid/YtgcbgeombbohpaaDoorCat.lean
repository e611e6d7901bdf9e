/- slices.Grow of nil, slices.Concat of bytes, slices.Reverse of two slices. -/
import Derived.Test.YtgcbgeombbohpaaDoorZeros
import Derived.Test.YtgcbgeombbohpaaDoorJoined
namespace Go.Proofs.YtgcbgeombbohpaaDoor
open Go.RowKit
set_option maxRecDepth 100000

section
variable {P : Program} (w : World)
theorem run_append_zeros_nil (t u ty e : TypeId) (i : TypeInfo) (ht : P.underlying t = some (.slice e)) (hu : P.underlying u = some (.int .i64)) (hi : P.info? e = some i) (hz : i.zero = some (.int .u8 0)) (hsize : i.size = 1) (hby : i.bytes = 1)
    (m : Nat) (h0 : 0 < m) (hm : m ≤ 100000) :
    ∃ c w', (Builtin.append_ #[t, u] ty #[.slice none 0 0, .int .i64 (m : Int)]).run P w = .ok (.slice (some ⟨w.heap.size, 0, none⟩) m c) w' ∧ w'.ownsRow 0 e 1 (.slice (some ⟨w.heap.size, 0, none⟩) 0 c) 0 [] ∧ Ext [] w w' := by
  have hw1 : IntKind.i64.wrap (m : Int) = (m : Int) := by rw [IntKind.wrap_i64]; omega
  have hn0 : ¬ ((m : Int) < 0) := by omega
  have hn1 : ¬ (281474976710656 < (m : Int)) := by omega
  have hzl : (zerosV m).length = m := by simp [zerosV]
  have hm0 : m ≠ 0 := by omega
  have h48' : ¬ (281474976710656 < Builtin.nextslicecap m 0) := by
    have := growslice_fits (need := m) (old := 0) (bytes := 1) (by omega) (by omega)
    omega
  have h63' : ¬ (9223372036854775807 < (m : Int)) := by omega
  have hge := grownCap_ge w m 0 e
  have hcm2 : grownCap w m 0 e ≤ maxLen := grownCap_le_maxLen w m 0 e (by unfold maxLen; omega)
  have hr : (Builtin.append_ #[t, u] ty #[.slice none 0 0, .int .i64 (m : Int)]).run P w = .ok (.slice (some ⟨w.heap.size, 0, none⟩) m (grownCap w m 0 e)) (w.drew.alloc (.cells ((zerosV m).toArray ++ Builtin.zeroCells (Value.int .u8 0).cells (grownCap w m 0 e - m)) e)) := by
    simp [Builtin.append_, run_underlying ht, run_underlying hu, sizeOf, typeInfo, zeroValue, hi, hz, hsize, hby, asInt, asIntOf, hw1, hn0, hn1, hm0, h63', h48', Question.forced, newRow, grownCap, zeroCells_bytes, Builtin.lenOf, Builtin.firstCells]
  refine ⟨_, _, hr, ⟨rfl, .inr ⟨w.heap.size, _, _, rfl, Nat.zero_le _, heap_alloc_new w.drew _, Nat.zero_le _, hcm2, ?_, ?_⟩⟩, (Ext.refl [] w).drew.alloc _⟩
  · simp only [Array.size_append, List.size_toArray, size_zeroCells, hzl, Value.cells]
    simp; omega
  · simp

theorem wpList_zeros_nil {ops : Array Oper} {rest : List Oper} {o : Oper} {a : Act} {Q : Exit → Act → World → Prop} (hgd : o.guard = none) (s x : Operand) (t u : TypeId)
    (ho : o.op = .call { callee := .builtin .append, args := #[s, x], argTypes := #[t, u] }) (e : TypeId) (i : TypeInfo) (ht : P.underlying t = some (.slice e)) (hu : P.underlying u = some (.int .i64)) (hi : P.info? e = some i) (hz : i.zero = some (.int .u8 0)) (hsize : i.size = 1) (hby : i.bytes = 1)
    (hs : a.eval s = .slice none 0 0) (m : Nat) (hx : a.eval x = .int .i64 (m : Int)) (h0 : 0 < m) (hm : m ≤ 100000)
    (h : ∀ c w', w'.ownsRow 0 e 1 (.slice (some ⟨w.heap.size, 0, none⟩) 0 c) 0 [] → Ext [] w w' → wpList P ops Q rest (a.put o.dst (.slice (some ⟨w.heap.size, 0, none⟩) m c)) w') : wpList P ops Q (o :: rest) a w :=
  wpList_plain hgd fun _ hK => by
    obtain ⟨c, w', hrun, h2, h3⟩ := run_append_zeros_nil (P := P) w t u o.type e i ht hu hi hz hsize hby m h0 hm
    unfold Oper.wp execOp
    simp only [ho, resolve, invoke, builtin, Sem.run_bind, Sem.run_pure, Result.andThen_ok, List.map_toArray, List.map_cons, List.map_nil, hs, hx, hrun]
    exact hK _ _ (h c w' h2 h3)
end

theorem grow_zero (w : World) : Calls Tryd.prog 47 #[.slice none 0 0, .int .i64 0] w fun e w' => e = .returned (.slice none 0 0) ∧ w = w' := by
  go_enter Tryd.func47, Tryd.ntmps47
  go_wp2
  go_ret
  exact ⟨rfl, rfl⟩

set_option maxHeartbeats 2000000 in
/-- Grow of nil: a row of the call's own, none in it yet. -/
theorem grow_any (n : Nat) (hn : n ≤ 100000) (w : World) : Calls Tryd.prog 47 #[.slice none 0 0, .int .i64 (n : Int)] w fun e w' => ∃ v, e = .returned v ∧ w'.ownsRow 0 5 1 v 0 [] ∧ Ext [] w w' ∧ ∀ g, v.ownBlock = some g → w.heap.size ≤ g := by
  obtain ⟨i0, hi, hz0, hz1, hz2⟩ := info_parts info_byte
  by_cases h0 : n = 0
  · subst h0
    refine (grow_zero w).mono ?_
    rintro e w' ⟨rfl, rfl⟩
    exact ⟨_, rfl, World.ownsRow_nil _ _ _ _, Ext.refl _ _, fun g h => by cases h⟩
  · have h1 : 0 < n := by omega
    have h2 : 0 < (n : Int) := by omega
    clear h0
    go_enter Tryd.func47, Tryd.ntmps47
    go_wp2_with (at_builtin; go_must (refine wpList_zeros_nil _ rfl (.tmp 20) (.tmp 21) 30 3 rfl 5 i0 Tryd.underlying30 Tryd.underlying3 hi hz0 hz1 hz2 rfl n rfl h1 hn ?_); intro c w1 hown hx)
    go_ret
    exact ⟨_, rfl, hown, hx, fun g h => by cases h; exact Nat.le_refl _⟩

/-- Concat of some rows of bytes. -/
def catB (bs : List (List UInt8)) (k : Nat) : List UInt8 := (bs.take k).flatten
theorem catB_all (bs : List (List UInt8)) : catB bs bs.length = bs.flatten := by unfold catB; rw [List.take_length]
theorem catB_le (bs : List (List UInt8)) (k : Nat) : (catB bs k).length ≤ (catB bs bs.length).length := by
  have h : bs.flatten = (bs.take k).flatten ++ (bs.drop k).flatten := by rw [← List.flatten_append, List.take_append_drop]
  rw [catB_all, h]; simp [catB]
theorem catB_succ (bs : List (List UInt8)) (k : Nat) (hk : k < bs.length) : catB bs (k + 1) = catB bs k ++ bs.getD k [] := by
  unfold catB
  rw [List.take_succ_eq_append_getElem hk, List.flatten_append, List.getD_eq_getElem?_getD, List.getElem?_eq_getElem hk]
  simp only [List.flatten_cons, List.flatten_nil, List.append_nil, Option.getD_some]

set_option maxHeartbeats 4000000 in
theorem concat_any (v : Value) (vs : List Value) (bs : List (List UInt8)) (w : World) (hp : PartsIn w v vs bs) (hl : bs.flatten.length ≤ 10000) (hn : bs.length ≤ 1000) :
    Calls Tryd.prog 38 #[v] w fun e w' => ∃ u, e = .returned u ∧ w'.ownsRow 0 5 1 u bs.flatten.length (bytesV bs.flatten) ∧ Ext [] w w' ∧ ∀ g, u.ownBlock = some g → w.heap.size ≤ g := by
  obtain ⟨i0, hi, hz0, hz1, hz2⟩ := info_parts info_byte
  have HP := Lib.hid (fun w' (x : Ext [] w w') => hp.ext x)
  obtain ⟨hrd, hsame, -⟩ := hp
  obtain ⟨ao, c, rfl, -, hnone, -⟩ := hrd
  have HN := Lib.hid hnone
  clear hnone
  rw [hsame] at HN ⊢
  have HS := Lib.hid hsame
  clear hsame
  have HAT := Lib.hid (fun w' (x : Ext [] w w') k (hlt : k < bs.length) => (show ∃ ad u uc, ao = some ad ∧ w'.cell? (ad.add k) = some (.slice u (bs.getD k []).length uc) ∧ Reads w' (.slice u (bs.getD k []).length uc) 1 (bs.getD k []).length (bytesV (bs.getD k [])) by
    obtain ⟨ad, rfl⟩ : ∃ ad, ao = some ad := by
      cases ao with
      | none => have := (HN.out rfl).1; omega
      | some ad => exact ⟨ad, rfl⟩
    have hkv : k < vs.length := by rw [HS.out]; exact hlt
    obtain ⟨u, hu⟩ : ∃ u, vs[k]? = some u := ⟨_, List.getElem?_eq_getElem hkv⟩
    have hru := (HP.out w' x).each k u hu
    obtain ⟨ao', c', he, -, -, hc⟩ := (HP.out w' x).reads
    cases he
    have hcu := hc ad rfl k u hu
    obtain ⟨ua, uc, rfl, -, -, -⟩ := id hru
    exact ⟨ad, ua, uc, rfl, hcu, hru⟩))
  have HLE := Lib.hid (catB_le bs)
  have HSU := Lib.hid (catB_succ bs)
  clear HP HN HS
  have h0 : catB bs 0 = [] := rfl
  have H0 := Lib.hid h0
  clear h0
  rw [← catB_all] at hl ⊢
  generalize hnn : bs.length = N at *
  have HNN := Lib.hid hnn
  clear hnn
  go_enter Tryd.func38, Tryd.ntmps38
  go_wp2_with fail
  go_loop [3, 11] (fun s i => ∃ k : Nat, k ≤ N ∧ i = .int .i64 (k : Int) ∧ s = .int .i64 ((catB bs k).length : Int)) (fun _ i => N - (intOf i).toNat)
  case atStart => exact ⟨0, Nat.zero_le _, rfl, by rw [H0.out]; rfl⟩
  case round =>
    obtain ⟨k, hk, rfl, rfl⟩ := hrel
    have hle := HLE.out k
    by_cases hlt : k < N
    · obtain ⟨ad, u, uc, rfl, hcu, -⟩ := HAT.out w (Ext.refl _ _) k hlt
      have hle2 := HLE.out (k + 1)
      have hst : (catB bs (k + 1)).length = (catB bs k).length + (bs.getD k []).length := by rw [HSU.out k hlt, List.length_append]
      have HST := Lib.hid hst
      rw [hst] at hle2
      clear hst
      generalize bs.getD k [] = bk at *
      go_wp2_with fail
      go_round
      case rel => exact ⟨k + 1, by omega, by go_num, by rw [HST.out]; go_num⟩
      case measure => simp [intOf]; omega
    · obtain rfl : k = N := by omega
      clear hle
      go_wp2_with fail
      refine (grow_any (catB bs k).length (by omega) w).mono ?_
      rintro e w1 ⟨v1, rfl, hown1, x1, fr1⟩
      obtain ⟨a1, c1, rfl⟩ := owns_slice hown1
      go_wp2_with fail
      go_loopw [6, 27] (fun v i wr => ∃ j : Nat, j ≤ k ∧ i = .int .i64 (j : Int) ∧ wr.ownsRow 0 5 1 v (catB bs j).length (bytesV (catB bs j)) ∧ Ext [] w wr ∧ ∀ g, v.ownBlock = some g → w.heap.size ≤ g) (fun _ i _ => k - (intOf i).toNat)
      case atStart => exact ⟨0, Nat.zero_le _, rfl, by rw [H0.out]; exact hown1, x1, fr1⟩
      case round =>
        clear hown1 x1 fr1
        obtain ⟨j, hj, rfl, hown, x, fr⟩ := hrel
        obtain ⟨va, vc, rfl⟩ := owns_slice hown
        by_cases hlt2 : j < k
        · obtain ⟨ad, u, uc, rfl, hcu, hru⟩ := HAT.out wr x j hlt2
          have hle2 := HLE.out (j + 1)
          have hst := HSU.out j hlt2
          have HST := Lib.hid hst
          rw [hst, List.length_append] at hle2
          clear hst
          generalize bs.getD j [] = bk at *
          go_wp2_with (at_builtin; go_must (refine wpList_app _ rfl (.tmp 31) (.tmp 32) 30 rfl 5 i0 (.int .u8 0) 1 1 Tryd.underlying30 hi hz0 hz1 hz2 rfl (by decide) (.slice va _ vc) _ _ rfl hown (.slice u _ uc) _ _ rfl hru (bytesV_one _) (by unfold maxLen; omega) (by omega) ?_); intro v7 w7 hown7 hgrow7 hfr7 _)
          go_roundw
          case rel =>
            refine ⟨j + 1, by omega, by go_num, ?_, x.grown hgrow7 (by intro g hg; exact .inr (fr g hg)), own_fresh x fr hgrow7 hfr7⟩
            rw [HST.out, List.length_append, bytesV_append]
            exact hown7
          case measure => simp [intOf]; omega
        · obtain rfl : j = k := by omega
          go_wp2_with fail
          go_ret
          exact ⟨_, rfl, hown, x, fr⟩

set_option maxHeartbeats 2000000 in
/-- Reverse of two slices. -/
theorem reverse2_any (b c : Nat) (a0 a1 : Option Addr) (n0 c0 n1 c1 : Nat) (w : World) (h : Blk w b 30 [.slice a0 n0 c0, .slice a1 n1 c1]) :
    Calls Tryd.prog 37 #[.slice (some ⟨b, 0, none⟩) 2 c] w fun e w' => e = .returned (.tuple #[]) ∧ Blk w' b 30 [.slice a1 n1 c1, .slice a0 n0 c0] ∧ Ext [b] w w' ∧ w'.heap.size = w.heap.size := by
  go_enter Tryd.func37, Tryd.ntmps37
  go_wp2
  go_loopw [2, 3] (fun x y wr => (x = .int .i64 0 ∧ y = .int .i64 1 ∧ wr = w) ∨ (x = .int .i64 1 ∧ y = .int .i64 0 ∧ Blk wr b 30 [.slice a1 n1 c1, .slice a0 n0 c0] ∧ Ext [b] w wr ∧ wr.heap.size = w.heap.size)) (fun x _ _ => 2 - (intOf x).toNat)
  case atStart => exact .inl ⟨rfl, rfl, rfl⟩
  case round =>
    rcases hrel with ⟨rfl, rfl, rfl⟩ | ⟨rfl, rfl, H, x, hz⟩
    · have g1 := h.cell 0
      have g2 := h.cell 1
      have f1 := h.frozen 0
      have f2 := h.frozen 1
      simp only [List.getElem?_cons_zero, List.getElem?_cons_succ] at g1 g2
      go_wp2
      go_region
      go_wp2
      go_roundw
      case rel =>
        refine .inr ⟨rfl, rfl, ?_, ((Ext.refl _ _).drew.setCell (.inl (by simp)) _).setCell (.inl (by simp)) _, by simp⟩
        exact (h.drew.set 0 (.slice a1 n1 c1)).set 1 (.slice a0 n0 c0)
      case measure => simp [intOf]
    · have HZ := Lib.hid hz
      clear hz
      go_wp2
      go_end0
      exact ⟨rfl, H, x, HZ.out⟩
end Go.Proofs.YtgcbgeombbohpaaDoor
