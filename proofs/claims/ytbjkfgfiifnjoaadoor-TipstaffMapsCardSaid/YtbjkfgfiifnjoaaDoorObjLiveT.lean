/- Package objtab: Live: the numbers of all, rising. -/
import Derived.Test.YtbjkfgfiifnjoaaDoorMap
import Derived.Test.YtbjkfgfiifnjoaaDoorObjLayT
import Derived.Lib.SlKeysI
namespace Go.Proofs.YtbjkfgfiifnjoaaDoor
open Go.RowKit Go.Maps Go.Sort Go.Shelf Go.MapKept Go.WideElems
set_option maxRecDepth 100000

abbrev noElem {H : Type} : Value → Option (DataW H × List MemPlace) := fun _ => some (.nil, [])

theorem insert_perm {H : Type} (x : Lit × DataW H) : ∀ r : List (Lit × DataW H), (DataW.insert x r).Perm (x :: r)
  | [] => List.Perm.refl _
  | y :: r => by
    unfold DataW.insert
    split
    · exact List.Perm.refl _
    · exact ((insert_perm x r).cons y).trans (List.Perm.swap x y r)
theorem foldr_perm {H : Type} : ∀ l : List (Lit × DataW H), (l.foldr DataW.insert []).Perm l
  | [] => List.Perm.refl _
  | x :: l => (insert_perm x _).trans ((foldr_perm l).cons x)

theorem ownsMap_of_mapB {w : World} {b : Nat} {l : List (Int × Value)} (h : MapB w b l) (hs : l.length ≤ maxLen) (hw : ∀ p ∈ l, (Lit.int .i64 p.1).wf = true) :
    ∃ D0 : DataW Unit, w.ownsMap Tryd.prog 3 noElem b l.length D0 ∧ (intKeys D0).Perm (l.map (·.1)) ∧ Maps.size D0 = l.length := by
  obtain ⟨es, clock, hb, hl, hst⟩ := h
  have hlen : es.size = l.length := by have := congrArg List.length hl; simpa using this
  have hrd : ∀ x ∈ es.toList, ∃ z, x.key = .int .i64 z ∧ rd Tryd.prog 3 (noElem (H := Unit)) x = some (.int .i64 z, .nil) := by
    intro x hx
    have hm : (x.key, x.val) ∈ es.toList.map (fun e => (e.key, e.val)) := List.mem_map.2 ⟨x, hx, rfl⟩
    rw [hl] at hm
    obtain ⟨p, hp, he⟩ := List.mem_map.1 hm
    have hk : x.key = .int .i64 p.1 := (congrArg Prod.fst he).symm
    refine ⟨p.1, hk, ?_⟩
    obtain ⟨key, val, born⟩ := x
    dsimp only at hk
    subst hk
    exact rd_mk (R := noElem (H := Unit)) (yv := (.nil, [])) (keyOf_int_mk Tryd.underlying3 (hw p hp)) rfl
  have hkeys : es.toList.map (·.key) = l.map (fun p => Value.int .i64 p.1) := by
    have := congrArg (List.map Prod.fst) hl
    simpa [List.map_map, Function.comp_def] using this
  have hmap : es.toList.map (rg Tryd.prog 3 (noElem (H := Unit))) = l.map (fun p => (Lit.int .i64 p.1, DataW.nil)) := by
    have e : es.toList.map (rg Tryd.prog 3 (noElem (H := Unit))) = (es.toList.map (·.key)).map (fun v => (Lit.int .i64 (Go.RowKit.intOf v), DataW.nil)) := by
      rw [List.map_map]
      refine List.map_congr_left fun x hx => ?_
      obtain ⟨z, hk, hr⟩ := hrd x hx
      rw [rg_of hr, Function.comp_apply, hk]
      rfl
    rw [e, hkeys, List.map_map]
    rfl
  refine ⟨_, ⟨es, clock, hb, ⟨by omega, hst, fun x hx => let ⟨z, _, h⟩ := hrd x hx; ⟨_, h⟩⟩, by omega, rfl⟩, ?_, ?_⟩
  · rw [hmap]
    have hp := (foldr_perm (l.map (fun p => (Lit.int .i64 p.1, (DataW.nil : DataW Unit))))).map (fun p => Go.intOf p.1)
    refine List.Perm.trans (show (intKeys _).Perm _ from hp) ?_
    rw [List.map_map]
    exact List.Perm.refl _
  · rw [hmap, size_eq]
    rw [(foldr_perm _).length_eq, List.length_map]
theorem eq_of_perm_le : ∀ {l1 l2 : List Int}, l1.Perm l2 → l1.Pairwise (· ≤ ·) → l2.Pairwise (· ≤ ·) → l1 = l2
  | [], l2, h, _, _ => h.nil_eq
  | a :: l1, [], h, _, _ => absurd h.length_eq (by simp)
  | a :: l1, b :: l2, h, h1, h2 => by
    rw [List.pairwise_cons] at h1 h2
    have hab : a = b := by
      have ha : a ∈ b :: l2 := h.subset (by simp)
      have hb : b ∈ a :: l1 := h.symm.subset (by simp)
      rcases List.mem_cons.1 ha with e | ha
      · exact e
      · rcases List.mem_cons.1 hb with e | hb
        · exact e.symm
        · have := h1.1 b hb
          have := h2.1 a ha
          omega
    subst hab
    rw [eq_of_perm_le (h.cons_inv) h1.2 h2.2]
theorem sort_up (ss ids : List Int) (h : ss.Perm ids) (ha : ids.Pairwise (· < ·)) : ss.mergeSort (fun x y => decide (x ≤ y)) = ids := by
  refine eq_of_perm_le ((List.mergeSort_perm ss _).trans h) ?_ (ha.imp (fun h => Int.le_of_lt h))
  have := List.pairwise_mergeSort (le := fun x y : Int => decide (x ≤ y)) (fun a b c h1 h2 => by simp at *; omega) (fun a b => by simp; omega) ss
  exact this.imp (fun h => by simpa using h)

/-- slices.Sort's two contracts at this program, at the fence that asks nothing. -/
theorem sortsI (m : Nat) : AnyZI.SortsIn Tryd.prog Tryd.sortedI_ren Fence.wide m :=
  ⟨fun blk off cap ss W hH hblk hsz => callsIn_wide.2 (AnyM.slices_Sort_int Tryd.sortI blk off cap ss W hH hblk hsz),
   fun p cap W => callsIn_wide.2 (AnyM.slices_Sort_int_none Tryd.sortI p cap W)⟩

theorem ext_of_below {w w' : World} (h : Below w.heap.size w w') : Ext [] w w' := ⟨h.os, h.tape, h.output, h.size, fun k hk _ => h.block k hk⟩
theorem owns_base {w : World} {base : Nat} {e : TypeId} {size : Nat} {v : Value} {n : Nat} {xs : List Value} (h : w.ownsRow base e size v n xs) : w.ownsRow 0 e size v n xs := by
  obtain ⟨h1, h2⟩ := h
  refine ⟨h1, ?_⟩
  rcases h2 with h2 | ⟨g, cap, cur, a, b, c⟩
  · exact .inl h2
  · exact .inr ⟨g, cap, cur, a, Nat.zero_le _, c⟩

set_option maxHeartbeats 1000000 in
theorem live_str (bt bm : Nat) (l : List (Int × Value)) (w : World) (ht : w.cell? ⟨bt, 2, none⟩ = some (.map (some bm))) (hm : MapB w bm l) (hs : l.length ≤ 100) (hw : ∀ p ∈ l, (Lit.int .i64 p.1).wf = true) (ha : (l.map (·.1)).Pairwise (· < ·)) :
    Calls Tryd.prog 30 #[.pointer (some ⟨bt, 0, none⟩)] w fun e w' => ∃ v, e = .returned v ∧ w'.ownsRow 0 3 1 v l.length (l.map fun p => Value.int .i64 p.1) ∧ Ext [] w w' := by
  obtain ⟨D0, hown, hperm, hsize⟩ := ownsMap_of_mapB hm (by unfold maxLen; omega) hw
  have hmax : Maps.size D0 ≤ maxLen := by rw [hsize]; unfold maxLen; omega
  have hbytes : Maps.size D0 * 8 ≤ 140737488355328 := by rw [hsize]; omega
  refine (callsIn_wide (n := 6)).1 ?_
  have hbl := hown.lt
  have hbt := World.block_lt_of_cell? w _ ht
  have hseq : SeqGives Fence.wide 2 Tryd.prog 108 #[.pointer (some ⟨w.heap.size, 0, none⟩)] encZ (fun ss => ss.Perm (intKeys D0)) (Maps.size D0) (w.alloc (.cells #[.map (some bm)] 136)) :=
    AnyZI.keys_gives (ρ := Tryd.keysS_ren) { Tryd.keysS with } Fence.wide _ trivial rfl (by omega) w.heap.size bm l.length D0 _ (by simp) (by simp) (by
      obtain ⟨es, clock, hb, Ft, hs, hD⟩ := hown
      exact ⟨es, clock, (Below.heap_alloc _ _ bm hbl).trans hb, Ft, hs, hD⟩)
  have cK : ∀ mb W, CallsIn Fence.wide 5 Tryd.prog 72 #[.map mb] W fun e w' => e = .returned (.func (.func 108) #[] #[.pointer (some ⟨W.heap.size, 0, none⟩)]) ∧ w' = W.alloc (.cells #[.map mb] 136) := fun mb W => AnyZI.keys_in Tryd.keysS Fence.wide 5 trivial rfl mb W
  have cS := AnyZI.sorted_in Tryd.sortedI Fence.wide 5 trivial trivial trivial trivial rfl (by omega) (sortsI _) (enters_of Tryd.func107 (by kernel_rfl) rfl) 108 #[.pointer (some ⟨w.heap.size, 0, none⟩)] trivial (enters_of Tryd.func108 (by kernel_rfl) rfl) _ _ hmax hbytes _ hseq
  change CallsIn _ _ Tryd.prog 71 _ _ _ at cS
  have hfK : Fence.wide.fn 72 := trivial
  have hfS : Fence.wide.fn 71 := trivial
  refine callsIn_of_wp Tryd.func30 rfl trivial ?_ rfl
  simp only [Tryd.ntmps30, List.size_toArray, List.length_cons, List.length_nil, Nat.reduceAdd, Nat.reduceSub, Array.replicate_succ, Array.replicate_zero, List.push_toArray, List.append_toArray, List.nil_append, List.cons_append]
  gi_wp2_with (first
    | (gi_at_call 72; refine (cK _ _).mono ?_; rintro e w' ⟨rfl, rfl⟩)
    | (gi_at_call 71; refine cS.mono ?_; rintro e w' ⟨v, ss, rfl, hS, hrow, hnil, hb⟩))
  go_ret
  have he : ss.mergeSort (fun x y => decide (x ≤ y)) = l.map (·.1) := sort_up _ _ (hS.trans hperm) ha
  have hl : ss.length = l.length := by rw [(hS.trans hperm).length_eq, List.length_map]
  rw [he, hl, List.map_map] at hrow
  exact ⟨v, rfl, owns_base hrow, ((Ext.refl _ _).alloc _).trans (ext_of_below hb)⟩

end Go.Proofs.YtbjkfgfiifnjoaaDoor
