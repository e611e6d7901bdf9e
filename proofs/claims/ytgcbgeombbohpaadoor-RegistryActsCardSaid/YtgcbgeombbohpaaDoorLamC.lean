/- Package lamport: Verify. -/
import Derived.Sort.CutIn
import Derived.Maps.AppendAt
import Derived.Outline
import Derived.Test.YtgcbgeombbohpaaDoorLamB
import Derived.Test.YtgcbgeombbohpaaDoorCat
import Derived.Test.YtgcbgeombbohpaaDoorChunk
import Derived.Test.YtgcbgeombbohpaaDoorRng
import Derived.Test.YtgcbgeombbohpaaDoorEqB
namespace Go.Proofs.YtgcbgeombbohpaaDoor
open Go.RowKit Go.Shelf
set_option maxRecDepth 100000

attribute [local go_sem] Oper.semAt_some

/-- What a place hands on: the leaf of what is told, and the other one, in the bit's order. -/
def fitQ (sum s : List UInt8) (i j : Nat) : List UInt8 :=
  if bitM sum i = 1 then (s.drop (64 * j + 32)).take 32 ++ sumOf ((s.drop (64 * j)).take 32) else sumOf ((s.drop (64 * j)).take 32) ++ (s.drop (64 * j + 32)).take 32
def fitX (sum s : List UInt8) (js : List Nat) : List UInt8 := ((List.range js.length).map fun i => fitQ sum s i (js.getD i 0)).flatten
def fitL (sum s : List UInt8) (k : Nat) : List UInt8 := ((List.range k).map fun i => fitQ sum s i i).flatten

/-- What Verify answers to a signature of the right length. -/
def verR (key sum s : List UInt8) : Int := if sumOf (fitL sum s 32) = key then 0 else 129

theorem fitX_snoc (sum s : List UInt8) (js : List Nat) (j : Nat) : fitX sum s (js ++ [j]) = fitX sum s js ++ fitQ sum s js.length j := by
  unfold fitX
  rw [List.length_append, List.length_cons, List.length_nil, List.range_succ, List.map_append, List.flatten_append]
  congr 1
  · congr 1
    apply List.map_congr_left
    intro i hi
    rw [List.mem_range] at hi
    congr 1
    simp [List.getD, List.getElem?_append_left hi]
  · simp [List.getD]
theorem fitL_succ (sum s : List UInt8) (k : Nat) : fitL sum s (k + 1) = fitL sum s k ++ fitQ sum s k k := by simp [fitL, List.range_succ]
theorem fitX_range (sum s : List UInt8) (n : Nat) : fitX sum s (List.range n) = fitL sum s n := by
  unfold fitX fitL
  rw [List.length_range]
  congr 1
  apply List.map_congr_left
  intro i hi
  rw [List.mem_range] at hi
  congr 1
  simp [List.getD, hi]
theorem fitQ_length (sum s : List UInt8) (i j : Nat) (hs : 64 * j + 64 ≤ s.length) : (fitQ sum s i j).length = 64 := by
  unfold fitQ
  split <;> simp [sumOf_length] <;> omega
theorem fitL_length (sum s : List UInt8) : ∀ k, 64 * k ≤ s.length → (fitL sum s k).length = 64 * k
  | 0, _ => rfl
  | k + 1, h => by rw [fitL_succ, List.length_append, fitL_length sum s k (by omega), fitQ_length _ _ _ _ (by omega)]; omega
theorem fitK_length (sum s : List UInt8) (js : List Nat) (h : ∀ j ∈ js, 64 * j + 64 ≤ s.length) : ∀ k, k ≤ js.length → (((List.range k).map fun i => fitQ sum s i (js.getD i 0)).flatten).length = 64 * k
  | 0, _ => rfl
  | k + 1, hk => by
    rw [List.range_succ, List.map_append, List.flatten_append, List.length_append, fitK_length sum s js h k (by omega)]
    have hm : js.getD k 0 ∈ js := by simp [List.getD, show k < js.length by omega]
    have := fitQ_length sum s k _ (h _ hm)
    simp only [List.map_cons, List.map_nil, List.flatten_cons, List.flatten_nil, List.append_nil, this]; omega
theorem fitX_length (sum s : List UInt8) (js : List Nat) (h : ∀ j ∈ js, 64 * j + 64 ≤ s.length) : (fitX sum s js).length = 64 * js.length := fitK_length sum s js h _ (Nat.le_refl _)

theorem wpListIn_ldpart {F : Fence} {n : Nat} {P : Program} {ops : Array Oper} {rest : List Oper} {o : Oper} {a : Act} {w : World} {Q : Exit → Act → World → Prop} (hgd : o.guard = none) (ty : TypeId) (x : Operand) (ho : o.op = .load ty x)
    (b off : Nat) (hx : a.eval x = .pointer (some ⟨b, off, none⟩)) (vs : List Value) (d : TypeDesc) (hg : PartAt w b off vs)
    (hu : P.underlying ty = some d) (hd : (match d with | .struct _ | .array _ _ => true | _ => false) = true) (hi : (P.info? ty).map (·.size) = some vs.length)
    (h : wpListIn F n P ops Q rest (a.put o.dst (.agg vs.toArray)) w) : wpListIn F n P ops Q (o :: rest) a w := by
  refine wpListIn_plain hgd fun K hK' => ?_
  unfold Oper.wpIn
  refine ⟨?_, ?_⟩
  · simp [Oper.about, ho]
  · rw [Oper.semAt_plain F _ _ (by rw [ho]; intro c hc'; cases hc')]
    unfold execOp
    simp only [ho, hx, Instr.loadAt, Instr.sureAddr, Sem.run_bind, Sem.run_pure, Result.andThen_ok, run_loadVar_part w b off ty vs d hg hu hd hi]
    exact hK' _ _ h

theorem stepIn_ldpart {F : Fence} {n : Nat} {P : Program} {ops : Array Oper} {o : Oper} {a : Act} {w : World} {K : Act → World → Prop} {Q : Exit → Act → World → Prop} {E : Prop} (hgd : o.guard = none) (ty : TypeId) (x : Operand) (ho : o.op = .load ty x)
    (b off : Nat) (hx : a.eval x = .pointer (some ⟨b, off, none⟩)) (vs : List Value) (d : TypeDesc) (hg : PartAt w b off vs)
    (hu : P.underlying ty = some d) (hd : (match d with | .struct _ | .array _ _ => true | _ => false) = true) (hi : (P.info? ty).map (·.size) = some vs.length)
    (h : K (a.put o.dst (.agg vs.toArray)) w) : if Region.wanted o (yielded ops a.tmps) = true then Oper.wpIn F n P o a w K Q else E := by
  rw [if_pos (by simp [Region.wanted, hgd])]
  unfold Oper.wpIn
  refine ⟨?_, ?_⟩
  · simp [Oper.about, ho]
  · rw [Oper.semAt_plain F _ _ (by rw [ho]; intro c hc'; cases hc')]
    unfold execOp
    simp only [ho, hx, Instr.loadAt, Instr.sureAddr, Sem.run_bind, Sem.run_pure, Result.andThen_ok, run_loadVar_part w b off ty vs d hg hu hd hi]
    exact h

theorem blk_own {β : Type} (b : Nat) (T : TypeId) (cs : List Value) : Own (fun (_ : β) W => Blk W b T cs) := fun _ X _ _ hs hg hrow =>
  (hg.block b hs.lt (fun e' => by obtain ⟨o, ho, hc⟩ := hrow b e'.symm; rw [show X.heap[b]? = _ from hs] at ho; cases ho; cases hc)).trans hs
theorem blk_not_row {W : World} {b : Nat} {T e : TypeId} {cs : List Value} (h : Blk W b T cs) (hte : T ≠ e) {base size k : Nat} {v : Value} {xs : List Value} (hr : W.ownsRow base e size v k xs) : some b ≠ v.ownBlock := by
  rcases hr.2 with ⟨rfl, _⟩ | ⟨g, cap, cur, rfl, _, hgb, _⟩
  · simp [Value.ownBlock]
  · intro e'
    obtain rfl : b = g := by simpa [Value.ownBlock] using e'
    have := (show W.heap[b]? = _ from h).symm.trans hgb
    simp at this
    exact hte this.2
theorem blk_set {W : World} {b B : Nat} {T : TypeId} {cs : List Value} (h : Blk W b T cs) (hne : b ≠ B) (u : Value) : Blk (W.setCell ⟨B, 0, none⟩ u) b T cs := h.setOther hne u
theorem ownsB_slice {w : World} {base : Nat} {T : TypeId} {size n : Nat} {v : Value} {xs : List Value} (h : w.ownsRow base T size v n xs) : ∃ a c, v = .slice a n c := by
  rcases h.2 with ⟨rfl, rfl⟩ | ⟨g, cap, cur, rfl, h0, hg, hr⟩
  · exact ⟨_, _, rfl⟩
  · exact ⟨_, _, rfl⟩
theorem ownsB_some {w : World} {base : Nat} {T : TypeId} {size n : Nat} {v : Value} {xs : List Value} (h : w.ownsRow base T size v n xs) (hn : 0 < n) : ∃ g c, v = .slice (some ⟨g, 0, none⟩) n c := by
  rcases h.2 with ⟨rfl, rfl⟩ | ⟨g, cap, cur, rfl, h0, hg, hr⟩
  · omega
  · exact ⟨_, _, rfl⟩
theorem ownsB_zero {w : World} {base : Nat} {T : TypeId} {size n : Nat} {v : Value} {xs : List Value} (h : w.ownsRow base T size v n xs) : w.ownsRow 0 T size v n xs := by
  obtain ⟨h1, h2⟩ := h
  refine ⟨h1, ?_⟩
  rcases h2 with h2 | ⟨g, cap, cur, h3, h4, h5, h6⟩
  · exact .inl h2
  · exact .inr ⟨g, cap, cur, h3, Nat.zero_le _, h5, h6⟩
theorem part_of_blk {w : World} {b : Nat} {T : TypeId} {cs : List Value} (h : Blk w b T cs) : PartAt w b 0 cs := h.part
/-- 'out = append(out, xs...)' of a slice that lies: behind the append and the store. -/
theorem boxed_app0 {W w1 : World} {n₀ B : Nat} {t e : TypeId} {size : Nat} {v v' : Value} {k m : Nat} {xs ys : List Value}
    (hv : Boxed W B t v) (hte : t ≠ e) (hrow : W.ownsRow n₀ e size v k xs) (hn₀ : n₀ ≤ W.heap.size) (hB : n₀ ≤ B)
    (hown' : w1.ownsRow n₀ e size v' m ys) (hgrow : W.grownBy w1 v.ownBlock) :
    Boxed w1 B t v ∧ Boxed (w1.setCell ⟨B, 0, none⟩ v') B t v' ∧ (w1.setCell ⟨B, 0, none⟩ v').ownsRow n₀ e size v' m ys ∧ KeepsOthers W (w1.setCell ⟨B, 0, none⟩ v') ∧ Below n₀ W (w1.setCell ⟨B, 0, none⟩ v') := by
  have hv1 : Boxed w1 B t v := hv.kept hgrow (hv.not_row hte hrow)
  refine ⟨hv1, hv1.set v', hown'.kept (grownBy_setCell' w1 B v') (.inr (hv1.not_row hte hown').symm), ?_, ?_⟩
  · refine (KeepsOthers.of_grownBy hgrow fun j o ej hj => ?_).trans (KeepsOthers.setCell _ _ _)
    rcases hrow.2 with ⟨rfl, _⟩ | ⟨g, cap, cur, rfl, _, hgb, _⟩
    · simp [Value.ownBlock] at ej
    · obtain rfl : g = j := by simpa [Value.ownBlock] using ej
      rw [hgb] at hj; cases hj; rfl
  · refine ((Below.refl n₀ W).grown hgrow hn₀ fun j ej => ?_).setCell (p := ⟨B, 0, none⟩) hB v'
    rcases hrow.2 with ⟨rfl, _⟩ | ⟨g, cap, cur, rfl, hb, _, _⟩
    · simp [Value.ownBlock] at ej
    · obtain rfl : g = j := by simpa [Value.ownBlock] using ej
      exact hb

theorem parts2 {w : World} {g : Nat} {p0 p1 : Value} {b0 b1 : List UInt8} (h : Blk w g 30 [p0, p1]) (h0 : Reads w p0 1 b0.length (bytesV b0)) (h1 : Reads w p1 1 b1.length (bytesV b1)) :
    PartsIn w (.slice (some ⟨g, 0, none⟩) 2 2) [p0, p1] [b0, b1] := by
  refine ⟨blk_reads h 2 rfl, rfl, ?_⟩
  intro t u hu
  match t, hu with
  | 0, hu => obtain rfl := Option.some.inj hu; exact h0
  | 1, hu => obtain rfl := Option.some.inj hu; exact h1
  | t + 2, hu => simp at hu

theorem verify_no (key sum : List UInt8) (a : Option Addr) (n cap : Nat) (w : World) (hn : n ≠ 2048) :
    Calls Tryd.prog 26 #[.agg (bytesV key).toArray, .agg (bytesV sum).toArray, .slice a n cap] w fun e w' => e = .returned (.int .i64 22) ∧ Ext [] w w' := by
  have h1 : ((n : Int) == 2048) = false := by rw [beq_eq_false_iff_ne]; omega
  generalize (bytesV key).toArray = kv
  generalize (bytesV sum).toArray = sv
  go_enter Tryd.func26, Tryd.ntmps26
  go_wp2_with fail
  go_ret
  exact ⟨rfl, ((Ext.refl _ _).alloc _).alloc _⟩

theorem part_reads (bb o cap k : Nat) (s : List UInt8) (W : World) (hs : s.length = 2048) (hc : ∀ j, j < 2048 → W.cell? ⟨bb, o + j, none⟩ = some (.int .u8 ((s.getD j 0).toNat : Int))) (hk : k + 32 ≤ 2048) :
    Reads W (.slice (some ⟨bb, o + k, none⟩) 32 cap) 1 32 (bytesV ((s.drop k).take 32)) := by
  have hl : ((s.drop k).take 32).length = 32 := by rw [List.length_take, List.length_drop]; omega
  refine ⟨_, _, rfl, by rw [bytesV_length, hl], (fun e => by cases e), fun ad e j u hu => ?_⟩
  cases e
  have hj : j < 32 := by have := (List.getElem?_eq_some_iff.1 hu).1; rw [bytesV_length, hl] at this; exact this
  rw [bytesV_at _ j (by omega)] at hu
  obtain rfl := Option.some.inj hu
  rw [Addr.add_lit, Nat.add_assoc, hc (k + j) (by omega)]
  congr 4
  simp [List.getD, hj, List.getElem?_drop]
/-- The boxes of Verify, and of its Chunk. -/
theorem boxes6 (w : World) (kv sv : List Value) (sg : Value) : ∃ w1, w1 = (((((w.alloc (.cells kv.toArray 22)).alloc (.cells sv.toArray 22)).alloc (.cells #[.slice none 0 0] 30)).alloc (.cells #[.int .i64 0] 3)).alloc (.cells #[sg] 30)).alloc (.cells #[.int .i64 64] 3) ∧
    Blk w1 w.heap.size 22 kv ∧ Blk w1 (w.heap.size + 1) 22 sv ∧ Boxed w1 (w.heap.size + 1 + 1) 30 (.slice none 0 0) ∧ Boxed w1 (w.heap.size + 1 + 1 + 1) 3 (.int .i64 0) ∧
    Boxed w1 (w.heap.size + 1 + 1 + 1 + 1) 30 sg ∧ Boxed w1 (w.heap.size + 1 + 1 + 1 + 1 + 1) 3 (.int .i64 64) ∧ Below w.heap.size w w1 ∧ w1.heap.size = w.heap.size + 6 := by
  refine ⟨_, rfl, ?_, ?_, ?_, ?_, ?_, ?_, ?_, by simp⟩
  · exact (((((Blk.new w _ kv.toArray).alloc _).alloc _).alloc _).alloc _).alloc _
  · exact ((((Blk.new' (w.alloc _) _ sv.toArray _ (by simp)).alloc _).alloc _).alloc _).alloc _
  · have := (((Boxed.new ((w.alloc (.cells kv.toArray 22)).alloc (.cells sv.toArray 22)) 30 (.slice none 0 0)).alloc (.cells #[.int .i64 0] 3)).alloc (.cells #[sg] 30)).alloc (.cells #[.int .i64 64] 3)
    simpa only [World.size_alloc] using this
  · have := ((Boxed.new (((w.alloc (.cells kv.toArray 22)).alloc (.cells sv.toArray 22)).alloc (.cells #[.slice none 0 0] 30)) 3 (.int .i64 0)).alloc (.cells #[sg] 30)).alloc (.cells #[.int .i64 64] 3)
    simpa only [World.size_alloc] using this
  · have := (Boxed.new ((((w.alloc (.cells kv.toArray 22)).alloc (.cells sv.toArray 22)).alloc (.cells #[.slice none 0 0] 30)).alloc (.cells #[.int .i64 0] 3)) 30 sg).alloc (.cells #[.int .i64 64] 3)
    simpa only [World.size_alloc] using this
  · have := Boxed.new (((((w.alloc (.cells kv.toArray 22)).alloc (.cells sv.toArray 22)).alloc (.cells #[.slice none 0 0] 30)).alloc (.cells #[.int .i64 0] 3)).alloc (.cells #[sg] 30)) 3 (.int .i64 64)
    simpa only [World.size_alloc] using this
  · exact ((((((Below.refl _ w).alloc (Nat.le_refl _) _).alloc (by simp) _).alloc (by simp; omega) _).alloc (by simp; omega) _).alloc (by simp; omega) _).alloc (by simp; omega) _

set_option maxRecDepth 100000 in
set_option maxHeartbeats 8000000 in
theorem verify_any (key sum s : List UInt8) (bb o cap : Nat) (w : World) (G : DigG w) (hkl : key.length = 32) (hsl : sum.length = 32) (hs : s.length = 2048) (hcap : 2048 ≤ cap) (hbb : bb < w.heap.size)
    (hc : ∀ j, j < 2048 → w.cell? ⟨bb, o + j, none⟩ = some (.int .u8 ((s.getD j 0).toNat : Int))) :
    Calls Tryd.prog 26 #[.agg (bytesV key).toArray, .agg (bytesV sum).toArray, .slice (some ⟨bb, o, none⟩) 2048 cap] w fun e w' => e = .returned (.int .i64 (verR key sum s)) ∧ Ext [] w w' := by
  obtain ⟨i0, hi, hz0, hz1, hz2⟩ := info_parts info_byte
  refine (callsIn_wide (n := 6)).1 ?_
  refine callsIn_of_wp_marks Tryd.func26 rfl trivial ?_ rfl
  simp only [Tryd.ntmps26, List.size_toArray, List.length_cons, List.length_nil, Nat.reduceAdd, Nat.reduceSub, Array.replicate_succ, Array.replicate_zero, List.push_toArray, List.append_toArray, List.nil_append, List.cons_append]
  have hkv : (bytesV key).length = 32 := by rw [bytesV_length, hkl]
  have hsv : (bytesV sum).length = 32 := by rw [bytesV_length, hsl]
  obtain ⟨kv, hkvq⟩ : ∃ kv, kv = bytesV key := ⟨_, rfl⟩
  obtain ⟨sv, hsvq⟩ : ∃ sv, sv = bytesV sum := ⟨_, rfl⟩
  rw [← hkvq] at hkv ⊢
  rw [← hsvq] at hsv ⊢
  have HKV := Lib.hid hkvq
  have HSV := Lib.hid hsvq
  have HH := Lib.hid (And.intro hbb (And.intro hc hs))
  have HG := Lib.hid G
  clear hbb hc hs hkvq hsvq hkl hsl G
  gi_wp2
  refine ⟨trivial, ?_⟩
  refine (chunk_in Fence.wide 5 trivial rfl (some ⟨bb, o, none⟩) 2048 cap 64 (by omega) (by omega) _).mono ?_
  rintro e w' ⟨rfl, rfl⟩
  rw [World.size_alloc, World.size_alloc, World.size_alloc, World.size_alloc]
  obtain ⟨w1, hw1, bK, bM, bO, bI, bS, bN, hB1, hsz⟩ := boxes6 w kv sv (.slice (some ⟨bb, o, none⟩) 2048 cap)
  rw [show ((64 : Nat) : Int) = 64 from rfl, ← hw1]
  clear hw1
  have hsz1 : w.heap.size + 5 < w1.heap.size := by omega
  gi_wp2
  refine wpIn_rangeFunc_ownG rfl (by omega) (gf := 46) (lb := #[.pointer (some ⟨w.heap.size + 1 + 1 + 1 + 1, 0, none⟩), .pointer (some ⟨w.heap.size + 1 + 1 + 1 + 1 + 1, 0, none⟩)]) rfl trivial (enters_of Tryd.func46 (by kernel_rfl) rfl)
    (chunk_stops Fence.wide 5 trivial rfl (by omega) (w.heap.size + 1 + 1 + 1 + 1) (w.heap.size + 1 + 1 + 1 + 1 + 1) bb o 32 cap 64 (some ⟨bb, o, none⟩) (by omega) (by omega) (by omega) (by omega) (fun _ => rfl) w1 (by omega) (by omega) bS.cell bN.cell)
    keepC_t (fun W l o o' h1 h2 h3 h4 => keepC_b W l o o' h1 h2 h3 h4) (Below.refl _ _) (fun _ => rfl)
    (fun (pre : List (Fin 32)) W => (∃ v, Boxed W (w.heap.size + 1 + 1) 30 v ∧ W.ownsRow w.heap.size 5 1 v (64 * pre.length) (bytesV (fitX sum s (pre.map fun x : Fin 32 => x.val))) ∧ True) ∧ Boxed W (w.heap.size + 1 + 1 + 1) 3 (.int .i64 (pre.length : Int)) ∧
      Below w.heap.size w W ∧ (Boxed W (w.heap.size + 1 + 1 + 1 + 1) 30 (.slice (some ⟨bb, o, none⟩) 2048 cap) ∧ Boxed W (w.heap.size + 1 + 1 + 1 + 1 + 1) 3 (.int .i64 64)) ∧ (Blk W w.heap.size 22 kv ∧ Blk W (w.heap.size + 1) 22 sv))
    (fun _ (_ : List (Fin 32)) _ => False)
    (OwnFrom.and (Own.from (holdsRow_own w.heap.size (w.heap.size + 1 + 1) 30 5 1 (fun pre : List (Fin 32) => 64 * pre.length) (fun pre : List (Fin 32) => bytesV (fitX sum s (pre.map fun x : Fin 32 => x.val))) (fun _ _ => True)) _)
      (OwnFrom.and (Own.from (boxed_own (w.heap.size + 1 + 1 + 1) 3 (fun pre : List (Fin 32) => .int .i64 (pre.length : Int))) _)
      (OwnFrom.and (ownFrom_below (Nat.le_refl _) (by omega)) (OwnFrom.and (OwnFrom.and (Own.from (boxed_own (w.heap.size + 1 + 1 + 1 + 1) 30 (fun _ => .slice (some ⟨bb, o, none⟩) 2048 cap)) _) (Own.from (boxed_own (w.heap.size + 1 + 1 + 1 + 1 + 1) 3 (fun _ => .int .i64 64)) _))
        (OwnFrom.and (Own.from (blk_own w.heap.size 22 kv) _) (Own.from (blk_own (w.heap.size + 1) 22 sv) _))))))
    (fun _ _ _ _ _ hs _ _ => hs)
    ⟨⟨_, bO, by simpa [bytesV, fitX] using World.ownsRow_nil _ _ _ _, trivial⟩, bI, hB1, ⟨bS, bN⟩, bK, bM⟩
    (fun x : Fin 32 => { tmps := #[.agg kv.toArray, .agg sv.toArray, .slice (some ⟨bb, o, none⟩) 2048 cap, .pointer (some ⟨w.heap.size, 0, none⟩), .pointer (some ⟨w.heap.size + 1, 0, none⟩), undef, .int .i64 0, .pointer (some ⟨w.heap.size + 1 + 1, 0, none⟩), .pointer (some ⟨w.heap.size + 1 + 1 + 1, 0, none⟩),
        .slice (some ⟨bb, o + 64 * x.val, none⟩) 64 64, undef, .slice (some ⟨bb, o, none⟩) 2048 cap, .int .i64 2048, .bool false, .slice (some ⟨bb, o, none⟩) 2048 cap,
        .func (.func 46) #[] #[.pointer (some ⟨w.heap.size + 1 + 1 + 1 + 1, 0, none⟩), .pointer (some ⟨w.heap.size + 1 + 1 + 1 + 1 + 1, 0, none⟩)], .slice (some ⟨bb, o + 64 * x.val, none⟩) 64 64,
        undef, undef, undef, undef, undef, undef, undef, undef, undef, undef, undef, undef, undef, undef, undef, undef, undef, undef, undef, undef, undef, undef], defers := [] }) ?assign ?body ?done ?stop
  case assign =>
    intro l x W K hK
    gi_wp2
    exact hK
  case body =>
    rintro l pre x W ⟨⟨v, hv, hrow, -⟩, hbI, hB, ⟨hbS, hbN⟩, rK, rM⟩ hlen
    have hxl := x.isLt
    have hGW : DigG W := HG.out.ext (ext_of_below hB) (by simp) (by simp)
    have hr0 : Reads W (.slice (some ⟨bb, o + 64 * x.val, none⟩) 32 64) 1 32 (bytesV ((s.drop (64 * x.val)).take 32)) := part_reads bb o 64 (64 * x.val) s W HH.out.2.2 (fun j hj => (hB.cell (p := ⟨bb, o + j, none⟩) HH.out.1).trans (HH.out.2.1 j hj)) (by omega)
    have hr1 : Reads W (.slice (some ⟨bb, o + 64 * x.val + 32, none⟩) 32 32) 1 32 (bytesV ((s.drop (64 * x.val + 32)).take 32)) := part_reads bb o 32 (64 * x.val + 32) s W HH.out.2.2 (fun j hj => (hB.cell (p := ⟨bb, o + j, none⟩) HH.out.1).trans (HH.out.2.1 j hj)) (by omega)
    have hl0 : ((s.drop (64 * x.val)).take 32).length = 32 := by rw [List.length_take, List.length_drop, HH.out.2.2]; omega
    have hl1 : ((s.drop (64 * x.val + 32)).take 32).length = 32 := by rw [List.length_take, List.length_drop, HH.out.2.2]; omega
    have HQ := Lib.hid (show fitQ sum s pre.length x.val = if bitM sum pre.length = 1 then (s.drop (64 * x.val + 32)).take 32 ++ sumOf ((s.drop (64 * x.val)).take 32) else sumOf ((s.drop (64 * x.val)).take 32) ++ (s.drop (64 * x.val + 32)).take 32 from rfl)
    have HX := Lib.hid (show fitX sum s ((pre ++ [x]).map fun x : Fin 32 => x.val) = fitX sum s (pre.map fun x : Fin 32 => x.val) ++ fitQ sum s pre.length x.val by rw [List.map_append, List.map_cons, List.map_nil, fitX_snoc, List.length_map])
    generalize (s.drop (64 * x.val)).take 32 = L0 at *
    generalize (s.drop (64 * x.val + 32)).take 32 = L1 at *
    generalize fitX sum s (pre.map fun x : Fin 32 => x.val) = FX at *
    have HLF := Lib.hid (fun w' (x' : Ext [] W w') => leaf_any (.slice (some ⟨bb, o + 64 * x.val, none⟩) 32 64) L0 w' (hGW.ext x' (by simp) (by simp)) (by rw [hl0]; exact hr0.ext x') (by omega))
    have HBIT := Lib.hid (fun w' => lbit_any sum pre.length w' (by have := bytesV_length sum; rw [← HSV.out] at this; omega) hlen)
    rw [← HSV.out] at HBIT
    have HRW := Lib.hid hrow
    have HR1 := Lib.hid (fun w' (x' : Ext [] W w') => hr1.ext x')
    clear hr0 hr1 hrow hGW
    dsimp only
    gi_upto_region 7 with (fail)
    gi_cut [10] from 17 (fun s10 wc => ∃ gT gL, s10 = .slice (some ⟨gT, 0, none⟩) 2 2 ∧ Blk wc gT 30 [.slice (some ⟨gL, 0, none⟩) 32 32, .slice (some ⟨bb, o + 64 * x.val + 32, none⟩) 32 32] ∧ Blk wc gL 22 (bytesV (sumOf L0)) ∧ Ext [] W wc ∧ W.heap.size ≤ gT ∧ gL < gT)
    case first =>
      rename_i J K' hJ hK'
      refine wpIn_region_any (by kernel_rfl) ?_
      change wpAnyIn _ _ _ _ _ _ _ _ _ (World.drew W)
      have x0 : Ext [] W W.drew := (Ext.refl _ _).drew
      generalize W.drew = w0 at *
      have HL := Lib.hid (HLF.out w0 x0)
      clear HLF
      refine wpAnyIn_ready (rs := [0, 3]) (by kernel_rfl) (by simp) ?_
      refine AllReadyIn.cons rfl (fun K hK => ?_) (AllReadyIn.cons rfl (fun K hK => ?_) AllReadyIn.nil)
      · skip
        go_simp
        refine hK _ _ ?_
        clear hK K
        try simp only [Act.put, List.setIfInBounds_toArray, List.set_cons_zero, List.set_cons_succ]
        refine wpAnyIn_ready (rs := [1, 3]) (by kernel_rfl) (by simp) ?_
        refine AllReadyIn.cons rfl (fun K hK => ?_) (AllReadyIn.cons rfl (fun K hK => ?_) AllReadyIn.nil)
        · skip
          go_simp
          refine hK _ _ ?_
          clear hK K
          try simp only [Act.put, List.setIfInBounds_toArray, List.set_cons_zero, List.set_cons_succ]
          refine wpAnyIn_ready (rs := [2, 3]) (by kernel_rfl) (by simp) ?_
          refine AllReadyIn.cons rfl (fun K hK => ?_) (AllReadyIn.cons rfl (fun K hK => ?_) AllReadyIn.nil)
          · skip
            go_simp
            refine ⟨trivial, ?_⟩
            refine (CallsIn.inRound l (callsIn_wide.2 HL.out)).mono ?_
            rintro e w2 ⟨u2, rfl, hS2, x2⟩
            obtain ⟨gL, rfl, bL, hgL, -⟩ := hS2
            go_simp
            refine hK _ _ ?_
            clear hK K
            try simp only [Act.put, List.setIfInBounds_toArray, List.set_cons_zero, List.set_cons_succ]
            refine wpAnyIn_ready (rs := [3]) (by kernel_rfl) (by simp) ?_
            refine AllReadyIn.cons rfl (fun K hK => ?_) AllReadyIn.nil
            go_simp
            refine hK _ _ ?_
            clear hK K
            try simp only [Act.put, List.setIfInBounds_toArray, List.set_cons_zero, List.set_cons_succ]
            refine wpAnyIn_ready (rs := [4]) (by kernel_rfl) (by simp) ?_
            refine AllReadyIn.cons rfl (fun K hK => ?_) AllReadyIn.nil
            go_simp
            refine hK _ _ ?_
            clear hK K
            try simp only [Act.put, List.setIfInBounds_toArray, List.set_cons_zero, List.set_cons_succ]
            refine wpAnyIn_ready (rs := [5]) (by kernel_rfl) (by simp) ?_
            refine AllReadyIn.cons rfl (fun K hK => ?_) AllReadyIn.nil
            go_simp
            refine hK _ _ ?_
            clear hK K
            try simp only [Act.put, List.setIfInBounds_toArray, List.set_cons_zero, List.set_cons_succ]
            refine wpAnyIn_ready (rs := [6]) (by kernel_rfl) (by simp) ?_
            refine AllReadyIn.cons rfl (fun K hK => ?_) AllReadyIn.nil
            go_simp
            refine hK _ _ ?_
            clear hK K
            try simp only [Act.put, List.setIfInBounds_toArray, List.set_cons_zero, List.set_cons_succ]
            refine wpAnyIn_done (by kernel_rfl) ?_ _
            refine hK' _ _ (Met.intro (hJ _ _ ?_))
            (repeat apply Exists.intro)
            refine ⟨?_, rfl⟩
            exact ⟨w2.heap.size, gL, rfl, Blk.new w2 _ #[_, _], bL.alloc _, (x0.trans x2).alloc _, (x0.trans x2).size, bL.lt⟩
          · skip
            go_simp
            refine hK _ _ ?_
            clear hK K
            try simp only [Act.put, List.setIfInBounds_toArray, List.set_cons_zero, List.set_cons_succ]
            refine wpAnyIn_ready (rs := [2, 4]) (by kernel_rfl) (by simp) ?_
            refine AllReadyIn.cons rfl (fun K hK => ?_) (AllReadyIn.cons rfl (fun K hK => ?_) AllReadyIn.nil)
            · skip
              go_simp
              refine ⟨trivial, ?_⟩
              refine (CallsIn.inRound l (callsIn_wide.2 HL.out)).mono ?_
              rintro e w2 ⟨u2, rfl, hS2, x2⟩
              obtain ⟨gL, rfl, bL, hgL, -⟩ := hS2
              go_simp
              refine hK _ _ ?_
              clear hK K
              try simp only [Act.put, List.setIfInBounds_toArray, List.set_cons_zero, List.set_cons_succ]
              refine wpAnyIn_ready (rs := [4]) (by kernel_rfl) (by simp) ?_
              refine AllReadyIn.cons rfl (fun K hK => ?_) AllReadyIn.nil
              go_simp
              refine hK _ _ ?_
              clear hK K
              try simp only [Act.put, List.setIfInBounds_toArray, List.set_cons_zero, List.set_cons_succ]
              refine wpAnyIn_ready (rs := [5]) (by kernel_rfl) (by simp) ?_
              refine AllReadyIn.cons rfl (fun K hK => ?_) AllReadyIn.nil
              go_simp
              refine hK _ _ ?_
              clear hK K
              try simp only [Act.put, List.setIfInBounds_toArray, List.set_cons_zero, List.set_cons_succ]
              refine wpAnyIn_ready (rs := [6]) (by kernel_rfl) (by simp) ?_
              refine AllReadyIn.cons rfl (fun K hK => ?_) AllReadyIn.nil
              go_simp
              refine hK _ _ ?_
              clear hK K
              try simp only [Act.put, List.setIfInBounds_toArray, List.set_cons_zero, List.set_cons_succ]
              refine wpAnyIn_done (by kernel_rfl) ?_ _
              refine hK' _ _ (Met.intro (hJ _ _ ?_))
              (repeat apply Exists.intro)
              refine ⟨?_, rfl⟩
              exact ⟨w2.heap.size, gL, rfl, Blk.new w2 _ #[_, _], bL.alloc _, (x0.trans x2).alloc _, (x0.trans x2).size, bL.lt⟩
            · skip
              go_simp
              refine hK _ _ ?_
              clear hK K
              try simp only [Act.put, List.setIfInBounds_toArray, List.set_cons_zero, List.set_cons_succ]
              refine wpAnyIn_ready (rs := [2]) (by kernel_rfl) (by simp) ?_
              refine AllReadyIn.cons rfl (fun K hK => ?_) AllReadyIn.nil
              go_simp
              refine ⟨trivial, ?_⟩
              refine (CallsIn.inRound l (callsIn_wide.2 HL.out)).mono ?_
              rintro e w2 ⟨u2, rfl, hS2, x2⟩
              obtain ⟨gL, rfl, bL, hgL, -⟩ := hS2
              go_simp
              refine hK _ _ ?_
              clear hK K
              try simp only [Act.put, List.setIfInBounds_toArray, List.set_cons_zero, List.set_cons_succ]
              refine wpAnyIn_ready (rs := [5]) (by kernel_rfl) (by simp) ?_
              refine AllReadyIn.cons rfl (fun K hK => ?_) AllReadyIn.nil
              go_simp
              refine hK _ _ ?_
              clear hK K
              try simp only [Act.put, List.setIfInBounds_toArray, List.set_cons_zero, List.set_cons_succ]
              refine wpAnyIn_ready (rs := [6]) (by kernel_rfl) (by simp) ?_
              refine AllReadyIn.cons rfl (fun K hK => ?_) AllReadyIn.nil
              go_simp
              refine hK _ _ ?_
              clear hK K
              try simp only [Act.put, List.setIfInBounds_toArray, List.set_cons_zero, List.set_cons_succ]
              refine wpAnyIn_done (by kernel_rfl) ?_ _
              refine hK' _ _ (Met.intro (hJ _ _ ?_))
              (repeat apply Exists.intro)
              refine ⟨?_, rfl⟩
              exact ⟨w2.heap.size, gL, rfl, Blk.new w2 _ #[_, _], bL.alloc _, (x0.trans x2).alloc _, (x0.trans x2).size, bL.lt⟩
        · skip
          go_simp
          refine hK _ _ ?_
          clear hK K
          try simp only [Act.put, List.setIfInBounds_toArray, List.set_cons_zero, List.set_cons_succ]
          refine wpAnyIn_ready (rs := [1, 4]) (by kernel_rfl) (by simp) ?_
          refine AllReadyIn.cons rfl (fun K hK => ?_) (AllReadyIn.cons rfl (fun K hK => ?_) AllReadyIn.nil)
          · skip
            go_simp
            refine hK _ _ ?_
            clear hK K
            try simp only [Act.put, List.setIfInBounds_toArray, List.set_cons_zero, List.set_cons_succ]
            refine wpAnyIn_ready (rs := [2, 4]) (by kernel_rfl) (by simp) ?_
            refine AllReadyIn.cons rfl (fun K hK => ?_) (AllReadyIn.cons rfl (fun K hK => ?_) AllReadyIn.nil)
            · skip
              go_simp
              refine ⟨trivial, ?_⟩
              refine (CallsIn.inRound l (callsIn_wide.2 HL.out)).mono ?_
              rintro e w2 ⟨u2, rfl, hS2, x2⟩
              obtain ⟨gL, rfl, bL, hgL, -⟩ := hS2
              go_simp
              refine hK _ _ ?_
              clear hK K
              try simp only [Act.put, List.setIfInBounds_toArray, List.set_cons_zero, List.set_cons_succ]
              refine wpAnyIn_ready (rs := [4]) (by kernel_rfl) (by simp) ?_
              refine AllReadyIn.cons rfl (fun K hK => ?_) AllReadyIn.nil
              go_simp
              refine hK _ _ ?_
              clear hK K
              try simp only [Act.put, List.setIfInBounds_toArray, List.set_cons_zero, List.set_cons_succ]
              refine wpAnyIn_ready (rs := [5]) (by kernel_rfl) (by simp) ?_
              refine AllReadyIn.cons rfl (fun K hK => ?_) AllReadyIn.nil
              go_simp
              refine hK _ _ ?_
              clear hK K
              try simp only [Act.put, List.setIfInBounds_toArray, List.set_cons_zero, List.set_cons_succ]
              refine wpAnyIn_ready (rs := [6]) (by kernel_rfl) (by simp) ?_
              refine AllReadyIn.cons rfl (fun K hK => ?_) AllReadyIn.nil
              go_simp
              refine hK _ _ ?_
              clear hK K
              try simp only [Act.put, List.setIfInBounds_toArray, List.set_cons_zero, List.set_cons_succ]
              refine wpAnyIn_done (by kernel_rfl) ?_ _
              refine hK' _ _ (Met.intro (hJ _ _ ?_))
              (repeat apply Exists.intro)
              refine ⟨?_, rfl⟩
              exact ⟨w2.heap.size, gL, rfl, Blk.new w2 _ #[_, _], bL.alloc _, (x0.trans x2).alloc _, (x0.trans x2).size, bL.lt⟩
            · skip
              go_simp
              refine hK _ _ ?_
              clear hK K
              try simp only [Act.put, List.setIfInBounds_toArray, List.set_cons_zero, List.set_cons_succ]
              refine wpAnyIn_ready (rs := [2]) (by kernel_rfl) (by simp) ?_
              refine AllReadyIn.cons rfl (fun K hK => ?_) AllReadyIn.nil
              go_simp
              refine ⟨trivial, ?_⟩
              refine (CallsIn.inRound l (callsIn_wide.2 HL.out)).mono ?_
              rintro e w2 ⟨u2, rfl, hS2, x2⟩
              obtain ⟨gL, rfl, bL, hgL, -⟩ := hS2
              go_simp
              refine hK _ _ ?_
              clear hK K
              try simp only [Act.put, List.setIfInBounds_toArray, List.set_cons_zero, List.set_cons_succ]
              refine wpAnyIn_ready (rs := [5]) (by kernel_rfl) (by simp) ?_
              refine AllReadyIn.cons rfl (fun K hK => ?_) AllReadyIn.nil
              go_simp
              refine hK _ _ ?_
              clear hK K
              try simp only [Act.put, List.setIfInBounds_toArray, List.set_cons_zero, List.set_cons_succ]
              refine wpAnyIn_ready (rs := [6]) (by kernel_rfl) (by simp) ?_
              refine AllReadyIn.cons rfl (fun K hK => ?_) AllReadyIn.nil
              go_simp
              refine hK _ _ ?_
              clear hK K
              try simp only [Act.put, List.setIfInBounds_toArray, List.set_cons_zero, List.set_cons_succ]
              refine wpAnyIn_done (by kernel_rfl) ?_ _
              refine hK' _ _ (Met.intro (hJ _ _ ?_))
              (repeat apply Exists.intro)
              refine ⟨?_, rfl⟩
              exact ⟨w2.heap.size, gL, rfl, Blk.new w2 _ #[_, _], bL.alloc _, (x0.trans x2).alloc _, (x0.trans x2).size, bL.lt⟩
          · skip
            go_simp
            refine hK _ _ ?_
            clear hK K
            try simp only [Act.put, List.setIfInBounds_toArray, List.set_cons_zero, List.set_cons_succ]
            refine wpAnyIn_ready (rs := [1]) (by kernel_rfl) (by simp) ?_
            refine AllReadyIn.cons rfl (fun K hK => ?_) AllReadyIn.nil
            go_simp
            refine hK _ _ ?_
            clear hK K
            try simp only [Act.put, List.setIfInBounds_toArray, List.set_cons_zero, List.set_cons_succ]
            refine wpAnyIn_ready (rs := [2]) (by kernel_rfl) (by simp) ?_
            refine AllReadyIn.cons rfl (fun K hK => ?_) AllReadyIn.nil
            go_simp
            refine ⟨trivial, ?_⟩
            refine (CallsIn.inRound l (callsIn_wide.2 HL.out)).mono ?_
            rintro e w2 ⟨u2, rfl, hS2, x2⟩
            obtain ⟨gL, rfl, bL, hgL, -⟩ := hS2
            go_simp
            refine hK _ _ ?_
            clear hK K
            try simp only [Act.put, List.setIfInBounds_toArray, List.set_cons_zero, List.set_cons_succ]
            refine wpAnyIn_ready (rs := [5]) (by kernel_rfl) (by simp) ?_
            refine AllReadyIn.cons rfl (fun K hK => ?_) AllReadyIn.nil
            go_simp
            refine hK _ _ ?_
            clear hK K
            try simp only [Act.put, List.setIfInBounds_toArray, List.set_cons_zero, List.set_cons_succ]
            refine wpAnyIn_ready (rs := [6]) (by kernel_rfl) (by simp) ?_
            refine AllReadyIn.cons rfl (fun K hK => ?_) AllReadyIn.nil
            go_simp
            refine hK _ _ ?_
            clear hK K
            try simp only [Act.put, List.setIfInBounds_toArray, List.set_cons_zero, List.set_cons_succ]
            refine wpAnyIn_done (by kernel_rfl) ?_ _
            refine hK' _ _ (Met.intro (hJ _ _ ?_))
            (repeat apply Exists.intro)
            refine ⟨?_, rfl⟩
            exact ⟨w2.heap.size, gL, rfl, Blk.new w2 _ #[_, _], bL.alloc _, (x0.trans x2).alloc _, (x0.trans x2).size, bL.lt⟩
      · skip
        go_simp
        refine hK _ _ ?_
        clear hK K
        try simp only [Act.put, List.setIfInBounds_toArray, List.set_cons_zero, List.set_cons_succ]
        refine wpAnyIn_ready (rs := [0, 4]) (by kernel_rfl) (by simp) ?_
        refine AllReadyIn.cons rfl (fun K hK => ?_) (AllReadyIn.cons rfl (fun K hK => ?_) AllReadyIn.nil)
        · skip
          go_simp
          refine hK _ _ ?_
          clear hK K
          try simp only [Act.put, List.setIfInBounds_toArray, List.set_cons_zero, List.set_cons_succ]
          refine wpAnyIn_ready (rs := [1, 4]) (by kernel_rfl) (by simp) ?_
          refine AllReadyIn.cons rfl (fun K hK => ?_) (AllReadyIn.cons rfl (fun K hK => ?_) AllReadyIn.nil)
          · skip
            go_simp
            refine hK _ _ ?_
            clear hK K
            try simp only [Act.put, List.setIfInBounds_toArray, List.set_cons_zero, List.set_cons_succ]
            refine wpAnyIn_ready (rs := [2, 4]) (by kernel_rfl) (by simp) ?_
            refine AllReadyIn.cons rfl (fun K hK => ?_) (AllReadyIn.cons rfl (fun K hK => ?_) AllReadyIn.nil)
            · skip
              go_simp
              refine ⟨trivial, ?_⟩
              refine (CallsIn.inRound l (callsIn_wide.2 HL.out)).mono ?_
              rintro e w2 ⟨u2, rfl, hS2, x2⟩
              obtain ⟨gL, rfl, bL, hgL, -⟩ := hS2
              go_simp
              refine hK _ _ ?_
              clear hK K
              try simp only [Act.put, List.setIfInBounds_toArray, List.set_cons_zero, List.set_cons_succ]
              refine wpAnyIn_ready (rs := [4]) (by kernel_rfl) (by simp) ?_
              refine AllReadyIn.cons rfl (fun K hK => ?_) AllReadyIn.nil
              go_simp
              refine hK _ _ ?_
              clear hK K
              try simp only [Act.put, List.setIfInBounds_toArray, List.set_cons_zero, List.set_cons_succ]
              refine wpAnyIn_ready (rs := [5]) (by kernel_rfl) (by simp) ?_
              refine AllReadyIn.cons rfl (fun K hK => ?_) AllReadyIn.nil
              go_simp
              refine hK _ _ ?_
              clear hK K
              try simp only [Act.put, List.setIfInBounds_toArray, List.set_cons_zero, List.set_cons_succ]
              refine wpAnyIn_ready (rs := [6]) (by kernel_rfl) (by simp) ?_
              refine AllReadyIn.cons rfl (fun K hK => ?_) AllReadyIn.nil
              go_simp
              refine hK _ _ ?_
              clear hK K
              try simp only [Act.put, List.setIfInBounds_toArray, List.set_cons_zero, List.set_cons_succ]
              refine wpAnyIn_done (by kernel_rfl) ?_ _
              refine hK' _ _ (Met.intro (hJ _ _ ?_))
              (repeat apply Exists.intro)
              refine ⟨?_, rfl⟩
              exact ⟨w2.heap.size, gL, rfl, Blk.new w2 _ #[_, _], bL.alloc _, (x0.trans x2).alloc _, (x0.trans x2).size, bL.lt⟩
            · skip
              go_simp
              refine hK _ _ ?_
              clear hK K
              try simp only [Act.put, List.setIfInBounds_toArray, List.set_cons_zero, List.set_cons_succ]
              refine wpAnyIn_ready (rs := [2]) (by kernel_rfl) (by simp) ?_
              refine AllReadyIn.cons rfl (fun K hK => ?_) AllReadyIn.nil
              go_simp
              refine ⟨trivial, ?_⟩
              refine (CallsIn.inRound l (callsIn_wide.2 HL.out)).mono ?_
              rintro e w2 ⟨u2, rfl, hS2, x2⟩
              obtain ⟨gL, rfl, bL, hgL, -⟩ := hS2
              go_simp
              refine hK _ _ ?_
              clear hK K
              try simp only [Act.put, List.setIfInBounds_toArray, List.set_cons_zero, List.set_cons_succ]
              refine wpAnyIn_ready (rs := [5]) (by kernel_rfl) (by simp) ?_
              refine AllReadyIn.cons rfl (fun K hK => ?_) AllReadyIn.nil
              go_simp
              refine hK _ _ ?_
              clear hK K
              try simp only [Act.put, List.setIfInBounds_toArray, List.set_cons_zero, List.set_cons_succ]
              refine wpAnyIn_ready (rs := [6]) (by kernel_rfl) (by simp) ?_
              refine AllReadyIn.cons rfl (fun K hK => ?_) AllReadyIn.nil
              go_simp
              refine hK _ _ ?_
              clear hK K
              try simp only [Act.put, List.setIfInBounds_toArray, List.set_cons_zero, List.set_cons_succ]
              refine wpAnyIn_done (by kernel_rfl) ?_ _
              refine hK' _ _ (Met.intro (hJ _ _ ?_))
              (repeat apply Exists.intro)
              refine ⟨?_, rfl⟩
              exact ⟨w2.heap.size, gL, rfl, Blk.new w2 _ #[_, _], bL.alloc _, (x0.trans x2).alloc _, (x0.trans x2).size, bL.lt⟩
          · skip
            go_simp
            refine hK _ _ ?_
            clear hK K
            try simp only [Act.put, List.setIfInBounds_toArray, List.set_cons_zero, List.set_cons_succ]
            refine wpAnyIn_ready (rs := [1]) (by kernel_rfl) (by simp) ?_
            refine AllReadyIn.cons rfl (fun K hK => ?_) AllReadyIn.nil
            go_simp
            refine hK _ _ ?_
            clear hK K
            try simp only [Act.put, List.setIfInBounds_toArray, List.set_cons_zero, List.set_cons_succ]
            refine wpAnyIn_ready (rs := [2]) (by kernel_rfl) (by simp) ?_
            refine AllReadyIn.cons rfl (fun K hK => ?_) AllReadyIn.nil
            go_simp
            refine ⟨trivial, ?_⟩
            refine (CallsIn.inRound l (callsIn_wide.2 HL.out)).mono ?_
            rintro e w2 ⟨u2, rfl, hS2, x2⟩
            obtain ⟨gL, rfl, bL, hgL, -⟩ := hS2
            go_simp
            refine hK _ _ ?_
            clear hK K
            try simp only [Act.put, List.setIfInBounds_toArray, List.set_cons_zero, List.set_cons_succ]
            refine wpAnyIn_ready (rs := [5]) (by kernel_rfl) (by simp) ?_
            refine AllReadyIn.cons rfl (fun K hK => ?_) AllReadyIn.nil
            go_simp
            refine hK _ _ ?_
            clear hK K
            try simp only [Act.put, List.setIfInBounds_toArray, List.set_cons_zero, List.set_cons_succ]
            refine wpAnyIn_ready (rs := [6]) (by kernel_rfl) (by simp) ?_
            refine AllReadyIn.cons rfl (fun K hK => ?_) AllReadyIn.nil
            go_simp
            refine hK _ _ ?_
            clear hK K
            try simp only [Act.put, List.setIfInBounds_toArray, List.set_cons_zero, List.set_cons_succ]
            refine wpAnyIn_done (by kernel_rfl) ?_ _
            refine hK' _ _ (Met.intro (hJ _ _ ?_))
            (repeat apply Exists.intro)
            refine ⟨?_, rfl⟩
            exact ⟨w2.heap.size, gL, rfl, Blk.new w2 _ #[_, _], bL.alloc _, (x0.trans x2).alloc _, (x0.trans x2).size, bL.lt⟩
        · skip
          go_simp
          refine hK _ _ ?_
          clear hK K
          try simp only [Act.put, List.setIfInBounds_toArray, List.set_cons_zero, List.set_cons_succ]
          refine wpAnyIn_ready (rs := [0]) (by kernel_rfl) (by simp) ?_
          refine AllReadyIn.cons rfl (fun K hK => ?_) AllReadyIn.nil
          go_simp
          refine hK _ _ ?_
          clear hK K
          try simp only [Act.put, List.setIfInBounds_toArray, List.set_cons_zero, List.set_cons_succ]
          refine wpAnyIn_ready (rs := [1]) (by kernel_rfl) (by simp) ?_
          refine AllReadyIn.cons rfl (fun K hK => ?_) AllReadyIn.nil
          go_simp
          refine hK _ _ ?_
          clear hK K
          try simp only [Act.put, List.setIfInBounds_toArray, List.set_cons_zero, List.set_cons_succ]
          refine wpAnyIn_ready (rs := [2]) (by kernel_rfl) (by simp) ?_
          refine AllReadyIn.cons rfl (fun K hK => ?_) AllReadyIn.nil
          go_simp
          refine ⟨trivial, ?_⟩
          refine (CallsIn.inRound l (callsIn_wide.2 HL.out)).mono ?_
          rintro e w2 ⟨u2, rfl, hS2, x2⟩
          obtain ⟨gL, rfl, bL, hgL, -⟩ := hS2
          go_simp
          refine hK _ _ ?_
          clear hK K
          try simp only [Act.put, List.setIfInBounds_toArray, List.set_cons_zero, List.set_cons_succ]
          refine wpAnyIn_ready (rs := [5]) (by kernel_rfl) (by simp) ?_
          refine AllReadyIn.cons rfl (fun K hK => ?_) AllReadyIn.nil
          go_simp
          refine hK _ _ ?_
          clear hK K
          try simp only [Act.put, List.setIfInBounds_toArray, List.set_cons_zero, List.set_cons_succ]
          refine wpAnyIn_ready (rs := [6]) (by kernel_rfl) (by simp) ?_
          refine AllReadyIn.cons rfl (fun K hK => ?_) AllReadyIn.nil
          go_simp
          refine hK _ _ ?_
          clear hK K
          try simp only [Act.put, List.setIfInBounds_toArray, List.set_cons_zero, List.set_cons_succ]
          refine wpAnyIn_done (by kernel_rfl) ?_ _
          refine hK' _ _ (Met.intro (hJ _ _ ?_))
          (repeat apply Exists.intro)
          refine ⟨?_, rfl⟩
          exact ⟨w2.heap.size, gL, rfl, Blk.new w2 _ #[_, _], bL.alloc _, (x0.trans x2).alloc _, (x0.trans x2).size, bL.lt⟩
    case rest =>
      obtain ⟨gT, gL, rfl, bT, bL, xc, hgT, hgLT⟩ := hcut
      have rMc := rM.ext xc (by simp)
      have cI := (boxed_ext hbI xc).cell
      have hR2 := bitM_lt sum pre.length
      generalize bitM sum pre.length = R at *
      gi_upto_if 26 with (with_reducible refine wpListIn_ldpart rfl 22 (.tmp 4) rfl (w.heap.size + 1) 0 rfl sv _ rMc.part Tryd.underlying22 rfl (by rw [hsv]; kernel_rfl) ?_)
      refine ⟨trivial, ?_⟩
      refine (CallsIn.inRound l (callsIn_wide.2 (HBIT.out wc))).mono ?_
      rintro e w3 ⟨rfl, x3⟩
      have bT3 := bT.ext x3 (by simp)
      have bL3 := bL.ext x3 (by simp)
      have xW3 := xc.trans x3
      have hlS : (sumOf L0).length = 32 := sumOf_length _
      generalize sumOf L0 = SL at *
      clear bT bL xc x3 rMc cI HBIT HLF
      gi_upto_if 26 with fail
      gi_cut [] from 27 (fun wx => ∃ p0 p1 b0 b1, PartsIn wx (.slice (some ⟨gT, 0, none⟩) 2 2) [p0, p1] [b0, b1] ∧ b0 ++ b1 = fitQ sum s pre.length x.val ∧ b0.length = 32 ∧ b1.length = 32 ∧ Ext [] W wx)
      case first =>
        by_cases hR : R = 1
        · rw [if_pos hR] at HQ
          subst hR
          gi_wp2
          refine ⟨trivial, ?_⟩
          refine (CallsIn.inRound l (callsIn_wide.2 (reverse2_any gT 2 _ _ _ _ _ _ w3 bT3))).mono ?_
          rintro e w4 ⟨rfl, bT4, x4, -⟩
          have xW4 := xW3.trans' x4 (by intro i hi; simp at hi; subst hi; exact .inr hgT)
          have bL4 := bL3.ext x4 (by simp; omega)
          gi_wp2
          gi_meet
          case rel => exact ⟨_, _, L1, SL, parts2 bT4 (by rw [hl1]; exact HR1.out w4 xW4) (by rw [hlS]; exact blk_reads bL4 32 (by rw [bytesV_length, hlS])), HQ.out.symm, hl1, hlS, xW4⟩
        · rw [if_neg hR] at HQ
          have hR1 : ((R : Int) == 1) = false := by rw [beq_eq_false_iff_ne]; omega
          gi_wp2
          gi_meet
          case rel => exact ⟨_, _, SL, L1, parts2 bT3 (by rw [hlS]; exact blk_reads bL3 32 (by rw [bytesV_length, hlS])) (by rw [hl1]; exact HR1.out w3 xW3), HQ.out.symm, hlS, hl1, xW3⟩
      case rest =>
        obtain ⟨p0, p1, b0, b1, hp, hbq, hb0, hb1, xx⟩ := hcut
        have hQl : (fitQ sum s pre.length x.val).length = 64 := by rw [← hbq, List.length_append]; omega
        have hfl : [b0, b1].flatten = fitQ sum s pre.length x.val := by simp [hbq]
        have hCON : Calls Tryd.prog 38 #[.slice (some ⟨gT, 0, none⟩) 2 2] wc.drew fun e w' => ∃ g c, e = .returned (.slice (some ⟨g, 0, none⟩) 64 c) ∧ (∀ j u, (bytesV (fitQ sum s pre.length x.val))[j]? = some u → w'.cell? ((⟨g, 0, none⟩ : Addr).add j) = some u) ∧ Ext [] wc.drew w' := by
          refine (concat_any (.slice (some ⟨gT, 0, none⟩) 2 2) [p0, p1] [b0, b1] wc.drew (hp.ext (Ext.refl _ _).drew) (by rw [hfl, hQl]; omega) (by simp)).mono ?_
          rintro e w' ⟨u, rfl, ho, xo, -⟩
          rw [hfl, hQl] at ho
          obtain ⟨g, c, rfl⟩ := ownsB_some ho (by omega)
          exact ⟨g, c, rfl, fun j u hu => ho.cells (g := g) rfl j u hu, xo⟩
        have hQ1 := bytesV_one (fitQ sum s pre.length x.val)
        have hQb : (bytesV (fitQ sum s pre.length x.val)).length = 64 := by rw [bytesV_length, hQl]
        generalize fitQ sum s pre.length x.val = Q at *
        have HQV := Lib.hid (bytesV_append FX Q)
        generalize bytesV Q = QV at *
        clear hp hbq hb0 hb1 hfl bT3 bL3 xW3 HQ
        obtain ⟨va, vc, rfl⟩ := ownsB_slice HRW.out
        have HW := Lib.hid (fun w2 (x2 : Ext [] W w2) => (show Boxed w2 (w.heap.size + 1 + 1) 30 (.slice va (64 * pre.length) vc) ∧ w2.ownsRow w.heap.size 5 1 (.slice va (64 * pre.length) vc) (64 * pre.length) (bytesV FX) ∧ Boxed w2 (w.heap.size + 1 + 1 + 1) 3 (.int .i64 (pre.length : Int)) ∧
          Boxed w2 (w.heap.size + 1 + 1 + 1 + 1) 30 (.slice (some ⟨bb, o, none⟩) 2048 cap) ∧ Boxed w2 (w.heap.size + 1 + 1 + 1 + 1 + 1) 3 (.int .i64 64) ∧ Blk w2 w.heap.size 22 kv ∧ Blk w2 (w.heap.size + 1) 22 sv ∧ w.heap.size ≤ w2.heap.size from
          ⟨boxed_ext hv x2, ownsB_ext HRW.out x2, boxed_ext hbI x2, boxed_ext hbS x2, boxed_ext hbN x2, rK.ext x2 (by simp), rM.ext x2 (by simp), Nat.le_trans hB.size x2.size⟩))
        have HKO := Lib.hid (fun w2 (x2 : Ext [] W w2) => keeps_ext x2)
        have HBW := Lib.hid (fun w2 (x2 : Ext [] W w2) => (show Below w.heap.size W w2 from x2.below hB.size (by simp)))
        have hbk1 : w.heap.size ≤ w.heap.size + 1 + 1 := by omega
        have c0 := (boxed_ext hv xx).cell
        gi_upto_region 10 with (fail)
        gi_cut [] from 29 (fun wx => ∃ g4 c4, Boxed wx (w.heap.size + 1 + 1) 30 (.slice (some ⟨g4, 0, none⟩) (64 * pre.length + 64) c4) ∧ wx.ownsRow w.heap.size 5 1 (.slice (some ⟨g4, 0, none⟩) (64 * pre.length + 64) c4) (64 * pre.length + 64) (bytesV FX ++ QV) ∧ Boxed wx (w.heap.size + 1 + 1 + 1) 3 (.int .i64 (pre.length : Int)) ∧
          Boxed wx (w.heap.size + 1 + 1 + 1 + 1) 30 (.slice (some ⟨bb, o, none⟩) 2048 cap) ∧ Boxed wx (w.heap.size + 1 + 1 + 1 + 1 + 1) 3 (.int .i64 64) ∧ Blk wx w.heap.size 22 kv ∧ Blk wx (w.heap.size + 1) 22 sv ∧ KeepsOthers W wx ∧ Below w.heap.size W wx)
        case first =>
          rename_i J K' hJ hK'
          refine wpIn_region_any (by kernel_rfl) ?_
          change wpAnyIn _ _ _ _ _ _ _ _ _ (World.drew wc)
          have x0 : Ext [] W wc.drew := xx.drew
          have c0' : wc.drew.cell? ⟨w.heap.size + 1 + 1, 0, none⟩ = some (.slice va (64 * pre.length) vc) := c0
          have HCN := Lib.hid hCON
          clear hCON c0 xx hv hbI hbS hbN rK rM hB
          generalize wc.drew = w0 at *
          refine wpAnyIn_ready (rs := [0, 1]) (by kernel_rfl) (by simp) ?_
          refine AllReadyIn.cons rfl (fun K hK => ?_) (AllReadyIn.cons rfl (fun K hK => ?_) AllReadyIn.nil)
          · skip
            go_simp
            refine hK _ _ ?_
            clear hK K
            try simp only [Act.put, List.setIfInBounds_toArray, List.set_cons_zero, List.set_cons_succ]
            refine wpAnyIn_ready (rs := [1]) (by kernel_rfl) (by simp) ?_
            refine AllReadyIn.cons rfl (fun K hK => ?_) AllReadyIn.nil
            go_simp
            refine hK _ _ ?_
            clear hK K
            try simp only [Act.put, List.setIfInBounds_toArray, List.set_cons_zero, List.set_cons_succ]
            refine wpAnyIn_ready (rs := [2]) (by kernel_rfl) (by simp) ?_
            refine AllReadyIn.cons rfl (fun K hK => ?_) AllReadyIn.nil
            go_simp
            refine ⟨trivial, ?_⟩
            refine (CallsIn.inRound l (callsIn_wide.2 HCN.out)).mono ?_
            rintro e w2 ⟨g2, cc2, rfl, hc2, xo⟩
            have x2 := x0.trans xo
            obtain ⟨hv2, hr2, hi2, hs2, hn2, hk2, hm2, hz2'⟩ := HW.out w2 x2
            have c2 := hv2.cell
            have HC2 := Lib.hid hc2
            clear hc2
            go_simp
            refine hK _ _ ?_
            clear hK K
            try simp only [Act.put, List.setIfInBounds_toArray, List.set_cons_zero, List.set_cons_succ]
            refine wpAnyIn_ready (rs := [3]) (by kernel_rfl) (by simp) ?_
            refine AllReadyIn.cons rfl (fun K hK => ?_) AllReadyIn.nil
            refine stepIn_app _ rfl (.tmp 29) (.tmp 31) 30 rfl w.heap.size 5 i0 _ 1 1 Tryd.underlying30 hi hz0 hz1 hz2 rfl (by decide) (.slice va (64 * pre.length) vc) (64 * pre.length) (bytesV FX) rfl hr2 ⟨g2, 0, none⟩ 64 cc2 QV rfl (by rw [hQb]) HC2.out hQ1 (by unfold maxLen; omega) (by omega) hz2' ?_
            intro v4 w4 hown4 hgrow4 _
            obtain ⟨g4, cap4, rfl⟩ := ownsB_some hown4 (by omega)
            obtain ⟨a1, a2, a3, a4, a5⟩ := boxed_app0 hv2 (by decide) hr2 hz2' hbk1 hown4 hgrow4
            have i4 := (hi2.kept hgrow4 (hi2.not_row (by decide) hr2)).other (B' := w.heap.size + 1 + 1) (by omega) (.slice (some ⟨g4, 0, none⟩) (64 * pre.length + 64) cap4)
            have s4 := (hs2.kept hgrow4 (hs2.not_row (by decide) hr2)).other (B' := w.heap.size + 1 + 1) (by omega) (.slice (some ⟨g4, 0, none⟩) (64 * pre.length + 64) cap4)
            have n4 := (hn2.kept hgrow4 (hn2.not_row (by decide) hr2)).other (B' := w.heap.size + 1 + 1) (by omega) (.slice (some ⟨g4, 0, none⟩) (64 * pre.length + 64) cap4)
            have k4 := blk_set (hk2.grown hgrow4 (blk_not_row hk2 (by decide) hr2).symm) (B := w.heap.size + 1 + 1) (by omega) (.slice (some ⟨g4, 0, none⟩) (64 * pre.length + 64) cap4)
            have m4 := blk_set (hm2.grown hgrow4 (blk_not_row hm2 (by decide) hr2).symm) (B := w.heap.size + 1 + 1) (by omega) (.slice (some ⟨g4, 0, none⟩) (64 * pre.length + 64) cap4)
            have hfin := Lib.hid (And.intro a2 (And.intro a3 (And.intro i4 (And.intro s4 (And.intro n4 (And.intro k4 (And.intro m4 (And.intro ((HKO.out w2 x2).trans a4) ((HBW.out w2 x2).trans a5)))))))))
            have c4 := a1.cell
            have f4 := a1.frozen
            clear a1 a2 a3 a4 a5 i4 s4 n4 k4 m4 hown4 hgrow4
            refine hK _ _ ?_
            clear hK K
            try simp only [Act.put, List.setIfInBounds_toArray]
            refine wpAnyIn_ready (rs := [4]) (by kernel_rfl) (by simp) ?_
            refine AllReadyIn.cons rfl (fun K hK => ?_) AllReadyIn.nil
            go_simp
            refine hK _ _ ?_
            clear hK K
            try simp only [Act.put, List.setIfInBounds_toArray]
            refine wpAnyIn_done (by kernel_rfl) ?_ _
            refine hK' _ _ (Met.intro (hJ _ _ ?_))
            (repeat apply Exists.intro)
            refine ⟨?_, rfl⟩
            exact ⟨g4, cap4, hfin.out⟩
          · skip
            go_simp
            refine hK _ _ ?_
            clear hK K
            try simp only [Act.put, List.setIfInBounds_toArray, List.set_cons_zero, List.set_cons_succ]
            refine wpAnyIn_ready (rs := [0, 2]) (by kernel_rfl) (by simp) ?_
            refine AllReadyIn.cons rfl (fun K hK => ?_) (AllReadyIn.cons rfl (fun K hK => ?_) AllReadyIn.nil)
            · skip
              go_simp
              refine hK _ _ ?_
              clear hK K
              try simp only [Act.put, List.setIfInBounds_toArray, List.set_cons_zero, List.set_cons_succ]
              refine wpAnyIn_ready (rs := [2]) (by kernel_rfl) (by simp) ?_
              refine AllReadyIn.cons rfl (fun K hK => ?_) AllReadyIn.nil
              go_simp
              refine ⟨trivial, ?_⟩
              refine (CallsIn.inRound l (callsIn_wide.2 HCN.out)).mono ?_
              rintro e w2 ⟨g2, cc2, rfl, hc2, xo⟩
              have x2 := x0.trans xo
              obtain ⟨hv2, hr2, hi2, hs2, hn2, hk2, hm2, hz2'⟩ := HW.out w2 x2
              have c2 := hv2.cell
              have HC2 := Lib.hid hc2
              clear hc2
              go_simp
              refine hK _ _ ?_
              clear hK K
              try simp only [Act.put, List.setIfInBounds_toArray, List.set_cons_zero, List.set_cons_succ]
              refine wpAnyIn_ready (rs := [3]) (by kernel_rfl) (by simp) ?_
              refine AllReadyIn.cons rfl (fun K hK => ?_) AllReadyIn.nil
              refine stepIn_app _ rfl (.tmp 29) (.tmp 31) 30 rfl w.heap.size 5 i0 _ 1 1 Tryd.underlying30 hi hz0 hz1 hz2 rfl (by decide) (.slice va (64 * pre.length) vc) (64 * pre.length) (bytesV FX) rfl hr2 ⟨g2, 0, none⟩ 64 cc2 QV rfl (by rw [hQb]) HC2.out hQ1 (by unfold maxLen; omega) (by omega) hz2' ?_
              intro v4 w4 hown4 hgrow4 _
              obtain ⟨g4, cap4, rfl⟩ := ownsB_some hown4 (by omega)
              obtain ⟨a1, a2, a3, a4, a5⟩ := boxed_app0 hv2 (by decide) hr2 hz2' hbk1 hown4 hgrow4
              have i4 := (hi2.kept hgrow4 (hi2.not_row (by decide) hr2)).other (B' := w.heap.size + 1 + 1) (by omega) (.slice (some ⟨g4, 0, none⟩) (64 * pre.length + 64) cap4)
              have s4 := (hs2.kept hgrow4 (hs2.not_row (by decide) hr2)).other (B' := w.heap.size + 1 + 1) (by omega) (.slice (some ⟨g4, 0, none⟩) (64 * pre.length + 64) cap4)
              have n4 := (hn2.kept hgrow4 (hn2.not_row (by decide) hr2)).other (B' := w.heap.size + 1 + 1) (by omega) (.slice (some ⟨g4, 0, none⟩) (64 * pre.length + 64) cap4)
              have k4 := blk_set (hk2.grown hgrow4 (blk_not_row hk2 (by decide) hr2).symm) (B := w.heap.size + 1 + 1) (by omega) (.slice (some ⟨g4, 0, none⟩) (64 * pre.length + 64) cap4)
              have m4 := blk_set (hm2.grown hgrow4 (blk_not_row hm2 (by decide) hr2).symm) (B := w.heap.size + 1 + 1) (by omega) (.slice (some ⟨g4, 0, none⟩) (64 * pre.length + 64) cap4)
              have hfin := Lib.hid (And.intro a2 (And.intro a3 (And.intro i4 (And.intro s4 (And.intro n4 (And.intro k4 (And.intro m4 (And.intro ((HKO.out w2 x2).trans a4) ((HBW.out w2 x2).trans a5)))))))))
              have c4 := a1.cell
              have f4 := a1.frozen
              clear a1 a2 a3 a4 a5 i4 s4 n4 k4 m4 hown4 hgrow4
              refine hK _ _ ?_
              clear hK K
              try simp only [Act.put, List.setIfInBounds_toArray]
              refine wpAnyIn_ready (rs := [4]) (by kernel_rfl) (by simp) ?_
              refine AllReadyIn.cons rfl (fun K hK => ?_) AllReadyIn.nil
              go_simp
              refine hK _ _ ?_
              clear hK K
              try simp only [Act.put, List.setIfInBounds_toArray]
              refine wpAnyIn_done (by kernel_rfl) ?_ _
              refine hK' _ _ (Met.intro (hJ _ _ ?_))
              (repeat apply Exists.intro)
              refine ⟨?_, rfl⟩
              exact ⟨g4, cap4, hfin.out⟩
            · skip
              go_simp
              refine ⟨trivial, ?_⟩
              refine (CallsIn.inRound l (callsIn_wide.2 HCN.out)).mono ?_
              rintro e w2 ⟨g2, cc2, rfl, hc2, xo⟩
              have x2 := x0.trans xo
              obtain ⟨hv2, hr2, hi2, hs2, hn2, hk2, hm2, hz2'⟩ := HW.out w2 x2
              have c2 := hv2.cell
              have HC2 := Lib.hid hc2
              clear hc2
              go_simp
              refine hK _ _ ?_
              clear hK K
              try simp only [Act.put, List.setIfInBounds_toArray, List.set_cons_zero, List.set_cons_succ]
              refine wpAnyIn_ready (rs := [0]) (by kernel_rfl) (by simp) ?_
              refine AllReadyIn.cons rfl (fun K hK => ?_) AllReadyIn.nil
              go_simp
              refine hK _ _ ?_
              clear hK K
              try simp only [Act.put, List.setIfInBounds_toArray, List.set_cons_zero, List.set_cons_succ]
              refine wpAnyIn_ready (rs := [3]) (by kernel_rfl) (by simp) ?_
              refine AllReadyIn.cons rfl (fun K hK => ?_) AllReadyIn.nil
              refine stepIn_app _ rfl (.tmp 29) (.tmp 31) 30 rfl w.heap.size 5 i0 _ 1 1 Tryd.underlying30 hi hz0 hz1 hz2 rfl (by decide) (.slice va (64 * pre.length) vc) (64 * pre.length) (bytesV FX) rfl hr2 ⟨g2, 0, none⟩ 64 cc2 QV rfl (by rw [hQb]) HC2.out hQ1 (by unfold maxLen; omega) (by omega) hz2' ?_
              intro v4 w4 hown4 hgrow4 _
              obtain ⟨g4, cap4, rfl⟩ := ownsB_some hown4 (by omega)
              obtain ⟨a1, a2, a3, a4, a5⟩ := boxed_app0 hv2 (by decide) hr2 hz2' hbk1 hown4 hgrow4
              have i4 := (hi2.kept hgrow4 (hi2.not_row (by decide) hr2)).other (B' := w.heap.size + 1 + 1) (by omega) (.slice (some ⟨g4, 0, none⟩) (64 * pre.length + 64) cap4)
              have s4 := (hs2.kept hgrow4 (hs2.not_row (by decide) hr2)).other (B' := w.heap.size + 1 + 1) (by omega) (.slice (some ⟨g4, 0, none⟩) (64 * pre.length + 64) cap4)
              have n4 := (hn2.kept hgrow4 (hn2.not_row (by decide) hr2)).other (B' := w.heap.size + 1 + 1) (by omega) (.slice (some ⟨g4, 0, none⟩) (64 * pre.length + 64) cap4)
              have k4 := blk_set (hk2.grown hgrow4 (blk_not_row hk2 (by decide) hr2).symm) (B := w.heap.size + 1 + 1) (by omega) (.slice (some ⟨g4, 0, none⟩) (64 * pre.length + 64) cap4)
              have m4 := blk_set (hm2.grown hgrow4 (blk_not_row hm2 (by decide) hr2).symm) (B := w.heap.size + 1 + 1) (by omega) (.slice (some ⟨g4, 0, none⟩) (64 * pre.length + 64) cap4)
              have hfin := Lib.hid (And.intro a2 (And.intro a3 (And.intro i4 (And.intro s4 (And.intro n4 (And.intro k4 (And.intro m4 (And.intro ((HKO.out w2 x2).trans a4) ((HBW.out w2 x2).trans a5)))))))))
              have c4 := a1.cell
              have f4 := a1.frozen
              clear a1 a2 a3 a4 a5 i4 s4 n4 k4 m4 hown4 hgrow4
              refine hK _ _ ?_
              clear hK K
              try simp only [Act.put, List.setIfInBounds_toArray]
              refine wpAnyIn_ready (rs := [4]) (by kernel_rfl) (by simp) ?_
              refine AllReadyIn.cons rfl (fun K hK => ?_) AllReadyIn.nil
              go_simp
              refine hK _ _ ?_
              clear hK K
              try simp only [Act.put, List.setIfInBounds_toArray]
              refine wpAnyIn_done (by kernel_rfl) ?_ _
              refine hK' _ _ (Met.intro (hJ _ _ ?_))
              (repeat apply Exists.intro)
              refine ⟨?_, rfl⟩
              exact ⟨g4, cap4, hfin.out⟩
        case rest =>
          obtain ⟨g4, c4, hv4, hr4, hi4, hs4, hn4, hk4, hm4, hko, hbw⟩ := hcut
          have HSN := Lib.hid (And.intro hbS hbN)
          clear hCON c0 hv hbI hbS hbN rK rM xx hQ1 HW HKO HBW
          have ci := hi4.cell
          have fi := hi4.frozen
          have hfin := Lib.hid (And.intro hv4 (And.intro hr4 (And.intro hi4 (And.intro hs4 (And.intro hn4 (And.intro hk4 (And.intro hm4 (And.intro hko hbw))))))))
          clear hv4 hr4 hi4 hs4 hn4 hk4 hm4 hko hbw
          gi_wp2
          obtain ⟨hv4, hr4, hi4, hs4, hn4, hk4, hm4, hko, hbw⟩ := hfin.out
          have s6 := hs4.other (B' := w.heap.size + 1 + 1 + 1) (by omega) (.int .i64 ((pre.length : Int) + 1))
          have n6 := hn4.other (B' := w.heap.size + 1 + 1 + 1) (by omega) (.int .i64 ((pre.length : Int) + 1))
          refine (show KeepsFrom w1.heap.size W _ ∧ KeepC _ W _ ∧ _ from ⟨(hko.trans (KeepsOthers.setCell _ _ _)).from _, ?_, ⟨⟨_, hv4.other (by omega) _, ?_, trivial⟩, ?_, hB.trans (hbw.setCell (p := ⟨w.heap.size + 1 + 1 + 1, 0, none⟩) (by simp; omega) _), ⟨s6, n6⟩, blk_set hk4 (by omega) _, blk_set hm4 (by omega) _⟩⟩)
          · rintro k i u (rfl | rfl) hc
            · exact boxed_cells HSN.out.1 s6 hc
            · exact boxed_cells HSN.out.2 n6 hc
          · rw [HX.out, HQV.out, List.length_append, List.length_cons, List.length_nil, Nat.mul_add]
            exact hr4.kept (grownBy_setCell' wc _ _) (.inr (hi4.not_row (by decide) hr4).symm)
          · have h := hi4.set (.int .i64 ((pre.length : Int) + 1))
            rw [List.length_append, List.length_cons, List.length_nil]
            exact h
  case done =>
    rintro D ys W hD rfl ⟨⟨v, hv, hrow, -⟩, -, hB, -, rK, -⟩ hK
    have hmap : ((List.finRange 32).map fun x : Fin 32 => x.val) = List.range 32 := by decide
    have hl32 : (List.finRange 32).length = 32 := by simp
    rw [hmap, fitX_range, hl32, show 64 * 32 = 2048 from rfl] at hrow
    have hFl : (fitL sum s 32).length = 2048 := by rw [fitL_length sum s 32 (by rw [HH.out.2.2]; omega)]
    have hGW : DigG W := HG.out.ext (ext_of_below hB) (by simp) (by simp)
    obtain ⟨va, vc, rfl⟩ := ownsB_slice hrow
    have hrd : Reads W (.slice va 2048 vc) 1 2048 (bytesV (fitL sum s 32)) := owns_reads (ownsB_zero hrow)
    have HSUM := Lib.hid (fun w' (x' : Ext [] W w') => sum_any (.slice va 2048 vc) (fitL sum s 32) w' (hGW.ext x' (by simp) (by simp)) (by rw [hFl]; exact hrd.ext x') (by omega))
    have hkl : key.length = 32 := by have := bytesV_length key; rw [← HKV.out] at this; omega
    have HEQ := Lib.hid (fun w' => run_equal_bytes (P := Tryd.prog) 9998 Tryd.underlying22 Tryd.underlying5 (by kernel_rfl) (by kernel_rfl) (sumOf (fitL sum s 32)) key (sumOf_length _) hkl w')
    rw [← HKV.out] at HEQ
    have HREV := Lib.hid (fun W2 (x' : Ext [] W W2) => (show W2.heap[D]? = some (.deferred (some [])) ∧ ∀ o', Ext [] w (W2.putObj D o') from by
      have hK2 : W2.heap[D]? = some (.deferred (some [])) := (keeps_ext x').same D _ hK rfl
      refine ⟨hK2, fun o' => ?_⟩
      have hb2 : Below w.heap.size w W2 := Below.ext hB x' (Nat.le_refl _) (by simp)
      exact ext_of_below (hb2.trans (belowK_b (w := w) (Nat.le_refl _) W2 D _ _ (by omega) hK2 rfl rfl))))
    have HV := Lib.hid (show verR key sum s = if sumOf (fitL sum s 32) = key then 0 else 129 from rfl)
    generalize sumOf (fitL sum s 32) = SS at *
    have cv := hv.cell
    have hx0 : Ext [] W W.drew := (Ext.refl _ _).drew
    by_cases hq : SS = key
    · rw [if_pos hq] at HV
      rw [decide_eq_true hq] at HEQ
      obtain ⟨sa, hsa⟩ : ∃ sa, sa = bytesV SS := ⟨_, rfl⟩
      rw [← hsa] at HEQ HSUM
      clear hsa hq
      gi_upto_region 12 with (fail)
      refine wpIn_region_any (by kernel_rfl) ?_
      change wpAnyIn _ _ _ _ _ _ _ _ _ (World.drew W)
      have cv' : W.drew.cell? ⟨w.heap.size + 1 + 1, 0, none⟩ = some (.slice va 2048 vc) := cv
      have rK0 := rK.ext hx0 (by simp)
      have HS0 := Lib.hid (HSUM.out _ hx0)
      clear cv HSUM hrd hrow hv rK
      generalize W.drew = w0 at *
      refine wpAnyIn_ready (rs := [0, 2]) (by kernel_rfl) (by simp) ?_
      refine AllReadyIn.cons rfl (fun K hK => ?_) (AllReadyIn.cons rfl (fun K hK => ?_) AllReadyIn.nil)
      · skip
        go_simp
        refine hK _ _ ?_
        clear hK K
        try simp only [Act.put, List.setIfInBounds_toArray, List.set_cons_zero, List.set_cons_succ]
        refine wpAnyIn_ready (rs := [1, 2]) (by kernel_rfl) (by simp) ?_
        refine AllReadyIn.cons rfl (fun K hK => ?_) (AllReadyIn.cons rfl (fun K hK => ?_) AllReadyIn.nil)
        · skip
          go_simp
          refine ⟨trivial, ?_⟩
          refine (callsIn_wide.2 HS0.out).mono ?_
          rintro e w2 ⟨rfl, xo⟩
          have x2 := hx0.trans xo
          have rK2 := rK0.ext xo (by simp)
          go_simp
          refine hK _ _ ?_
          clear hK K
          try simp only [Act.put, List.setIfInBounds_toArray, List.set_cons_zero, List.set_cons_succ]
          refine wpAnyIn_ready (rs := [2]) (by kernel_rfl) (by simp) ?_
          refine AllReadyIn.cons rfl (fun K hK => ?_) AllReadyIn.nil
          refine stepIn_ldpart rfl 22 (.tmp 3) rfl w.heap.size 0 rfl kv _ (by first | exact rK2.part | exact rK0.part) Tryd.underlying22 rfl (by rw [hkv]; kernel_rfl) ?_
          refine hK _ _ ?_
          clear hK K
          try simp only [Act.put, List.setIfInBounds_toArray]
          refine wpAnyIn_ready (rs := [3]) (by kernel_rfl) (by simp) ?_
          refine AllReadyIn.cons rfl (fun K hK => ?_) AllReadyIn.nil
          have heq := HEQ.out
          go_simp
          refine hK _ _ ?_
          clear hK K
          try simp only [Act.put, List.setIfInBounds_toArray, List.set_cons_zero, List.set_cons_succ]
          refine wpAnyIn_done (by kernel_rfl) ?_ _
          gi_wp2
          refine ⟨by simp, .inl ⟨_, _, rfl, run_takeDeferred (HREV.out w2 x2).1, ?_⟩⟩
          exact ⟨_, results_tmp rfl _ _ _, by (rw [HV.out]; rfl), (HREV.out w2 x2).2 _⟩
        · skip
          refine stepIn_ldpart rfl 22 (.tmp 3) rfl w.heap.size 0 rfl kv _ (by first | exact rK2.part | exact rK0.part) Tryd.underlying22 rfl (by rw [hkv]; kernel_rfl) ?_
          refine hK _ _ ?_
          clear hK K
          try simp only [Act.put, List.setIfInBounds_toArray]
          refine wpAnyIn_ready (rs := [1]) (by kernel_rfl) (by simp) ?_
          refine AllReadyIn.cons rfl (fun K hK => ?_) AllReadyIn.nil
          go_simp
          refine ⟨trivial, ?_⟩
          refine (callsIn_wide.2 HS0.out).mono ?_
          rintro e w2 ⟨rfl, xo⟩
          have x2 := hx0.trans xo
          have rK2 := rK0.ext xo (by simp)
          go_simp
          refine hK _ _ ?_
          clear hK K
          try simp only [Act.put, List.setIfInBounds_toArray, List.set_cons_zero, List.set_cons_succ]
          refine wpAnyIn_ready (rs := [3]) (by kernel_rfl) (by simp) ?_
          refine AllReadyIn.cons rfl (fun K hK => ?_) AllReadyIn.nil
          have heq := HEQ.out
          go_simp
          refine hK _ _ ?_
          clear hK K
          try simp only [Act.put, List.setIfInBounds_toArray, List.set_cons_zero, List.set_cons_succ]
          refine wpAnyIn_done (by kernel_rfl) ?_ _
          gi_wp2
          refine ⟨by simp, .inl ⟨_, _, rfl, run_takeDeferred (HREV.out w2 x2).1, ?_⟩⟩
          exact ⟨_, results_tmp rfl _ _ _, by (rw [HV.out]; rfl), (HREV.out w2 x2).2 _⟩
      · skip
        refine stepIn_ldpart rfl 22 (.tmp 3) rfl w.heap.size 0 rfl kv _ (by first | exact rK2.part | exact rK0.part) Tryd.underlying22 rfl (by rw [hkv]; kernel_rfl) ?_
        refine hK _ _ ?_
        clear hK K
        try simp only [Act.put, List.setIfInBounds_toArray]
        refine wpAnyIn_ready (rs := [0]) (by kernel_rfl) (by simp) ?_
        refine AllReadyIn.cons rfl (fun K hK => ?_) AllReadyIn.nil
        go_simp
        refine hK _ _ ?_
        clear hK K
        try simp only [Act.put, List.setIfInBounds_toArray, List.set_cons_zero, List.set_cons_succ]
        refine wpAnyIn_ready (rs := [1]) (by kernel_rfl) (by simp) ?_
        refine AllReadyIn.cons rfl (fun K hK => ?_) AllReadyIn.nil
        go_simp
        refine ⟨trivial, ?_⟩
        refine (callsIn_wide.2 HS0.out).mono ?_
        rintro e w2 ⟨rfl, xo⟩
        have x2 := hx0.trans xo
        have rK2 := rK0.ext xo (by simp)
        go_simp
        refine hK _ _ ?_
        clear hK K
        try simp only [Act.put, List.setIfInBounds_toArray, List.set_cons_zero, List.set_cons_succ]
        refine wpAnyIn_ready (rs := [3]) (by kernel_rfl) (by simp) ?_
        refine AllReadyIn.cons rfl (fun K hK => ?_) AllReadyIn.nil
        have heq := HEQ.out
        go_simp
        refine hK _ _ ?_
        clear hK K
        try simp only [Act.put, List.setIfInBounds_toArray, List.set_cons_zero, List.set_cons_succ]
        refine wpAnyIn_done (by kernel_rfl) ?_ _
        gi_wp2
        refine ⟨by simp, .inl ⟨_, _, rfl, run_takeDeferred (HREV.out w2 x2).1, ?_⟩⟩
        exact ⟨_, results_tmp rfl _ _ _, by (rw [HV.out]; rfl), (HREV.out w2 x2).2 _⟩
    · rw [if_neg hq] at HV
      rw [decide_eq_false hq] at HEQ
      obtain ⟨sa, hsa⟩ : ∃ sa, sa = bytesV SS := ⟨_, rfl⟩
      rw [← hsa] at HEQ HSUM
      clear hsa hq
      gi_upto_region 12 with (fail)
      refine wpIn_region_any (by kernel_rfl) ?_
      change wpAnyIn _ _ _ _ _ _ _ _ _ (World.drew W)
      have cv' : W.drew.cell? ⟨w.heap.size + 1 + 1, 0, none⟩ = some (.slice va 2048 vc) := cv
      have rK0 := rK.ext hx0 (by simp)
      have HS0 := Lib.hid (HSUM.out _ hx0)
      clear cv HSUM hrd hrow hv rK
      generalize W.drew = w0 at *
      refine wpAnyIn_ready (rs := [0, 2]) (by kernel_rfl) (by simp) ?_
      refine AllReadyIn.cons rfl (fun K hK => ?_) (AllReadyIn.cons rfl (fun K hK => ?_) AllReadyIn.nil)
      · skip
        go_simp
        refine hK _ _ ?_
        clear hK K
        try simp only [Act.put, List.setIfInBounds_toArray, List.set_cons_zero, List.set_cons_succ]
        refine wpAnyIn_ready (rs := [1, 2]) (by kernel_rfl) (by simp) ?_
        refine AllReadyIn.cons rfl (fun K hK => ?_) (AllReadyIn.cons rfl (fun K hK => ?_) AllReadyIn.nil)
        · skip
          go_simp
          refine ⟨trivial, ?_⟩
          refine (callsIn_wide.2 HS0.out).mono ?_
          rintro e w2 ⟨rfl, xo⟩
          have x2 := hx0.trans xo
          have rK2 := rK0.ext xo (by simp)
          go_simp
          refine hK _ _ ?_
          clear hK K
          try simp only [Act.put, List.setIfInBounds_toArray, List.set_cons_zero, List.set_cons_succ]
          refine wpAnyIn_ready (rs := [2]) (by kernel_rfl) (by simp) ?_
          refine AllReadyIn.cons rfl (fun K hK => ?_) AllReadyIn.nil
          refine stepIn_ldpart rfl 22 (.tmp 3) rfl w.heap.size 0 rfl kv _ (by first | exact rK2.part | exact rK0.part) Tryd.underlying22 rfl (by rw [hkv]; kernel_rfl) ?_
          refine hK _ _ ?_
          clear hK K
          try simp only [Act.put, List.setIfInBounds_toArray]
          refine wpAnyIn_ready (rs := [3]) (by kernel_rfl) (by simp) ?_
          refine AllReadyIn.cons rfl (fun K hK => ?_) AllReadyIn.nil
          have heq := HEQ.out
          go_simp
          refine hK _ _ ?_
          clear hK K
          try simp only [Act.put, List.setIfInBounds_toArray, List.set_cons_zero, List.set_cons_succ]
          refine wpAnyIn_done (by kernel_rfl) ?_ _
          gi_wp2
          refine ⟨by simp, .inl ⟨_, _, rfl, run_takeDeferred (HREV.out w2 x2).1, ?_⟩⟩
          exact ⟨_, results_tmp rfl _ _ _, by (rw [HV.out]; rfl), (HREV.out w2 x2).2 _⟩
        · skip
          refine stepIn_ldpart rfl 22 (.tmp 3) rfl w.heap.size 0 rfl kv _ (by first | exact rK2.part | exact rK0.part) Tryd.underlying22 rfl (by rw [hkv]; kernel_rfl) ?_
          refine hK _ _ ?_
          clear hK K
          try simp only [Act.put, List.setIfInBounds_toArray]
          refine wpAnyIn_ready (rs := [1]) (by kernel_rfl) (by simp) ?_
          refine AllReadyIn.cons rfl (fun K hK => ?_) AllReadyIn.nil
          go_simp
          refine ⟨trivial, ?_⟩
          refine (callsIn_wide.2 HS0.out).mono ?_
          rintro e w2 ⟨rfl, xo⟩
          have x2 := hx0.trans xo
          have rK2 := rK0.ext xo (by simp)
          go_simp
          refine hK _ _ ?_
          clear hK K
          try simp only [Act.put, List.setIfInBounds_toArray, List.set_cons_zero, List.set_cons_succ]
          refine wpAnyIn_ready (rs := [3]) (by kernel_rfl) (by simp) ?_
          refine AllReadyIn.cons rfl (fun K hK => ?_) AllReadyIn.nil
          have heq := HEQ.out
          go_simp
          refine hK _ _ ?_
          clear hK K
          try simp only [Act.put, List.setIfInBounds_toArray, List.set_cons_zero, List.set_cons_succ]
          refine wpAnyIn_done (by kernel_rfl) ?_ _
          gi_wp2
          refine ⟨by simp, .inl ⟨_, _, rfl, run_takeDeferred (HREV.out w2 x2).1, ?_⟩⟩
          exact ⟨_, results_tmp rfl _ _ _, by (rw [HV.out]; rfl), (HREV.out w2 x2).2 _⟩
      · skip
        refine stepIn_ldpart rfl 22 (.tmp 3) rfl w.heap.size 0 rfl kv _ (by first | exact rK2.part | exact rK0.part) Tryd.underlying22 rfl (by rw [hkv]; kernel_rfl) ?_
        refine hK _ _ ?_
        clear hK K
        try simp only [Act.put, List.setIfInBounds_toArray]
        refine wpAnyIn_ready (rs := [0]) (by kernel_rfl) (by simp) ?_
        refine AllReadyIn.cons rfl (fun K hK => ?_) AllReadyIn.nil
        go_simp
        refine hK _ _ ?_
        clear hK K
        try simp only [Act.put, List.setIfInBounds_toArray, List.set_cons_zero, List.set_cons_succ]
        refine wpAnyIn_ready (rs := [1]) (by kernel_rfl) (by simp) ?_
        refine AllReadyIn.cons rfl (fun K hK => ?_) AllReadyIn.nil
        go_simp
        refine ⟨trivial, ?_⟩
        refine (callsIn_wide.2 HS0.out).mono ?_
        rintro e w2 ⟨rfl, xo⟩
        have x2 := hx0.trans xo
        have rK2 := rK0.ext xo (by simp)
        go_simp
        refine hK _ _ ?_
        clear hK K
        try simp only [Act.put, List.setIfInBounds_toArray, List.set_cons_zero, List.set_cons_succ]
        refine wpAnyIn_ready (rs := [3]) (by kernel_rfl) (by simp) ?_
        refine AllReadyIn.cons rfl (fun K hK => ?_) AllReadyIn.nil
        have heq := HEQ.out
        go_simp
        refine hK _ _ ?_
        clear hK K
        try simp only [Act.put, List.setIfInBounds_toArray, List.set_cons_zero, List.set_cons_succ]
        refine wpAnyIn_done (by kernel_rfl) ?_ _
        gi_wp2
        refine ⟨by simp, .inl ⟨_, _, rfl, run_takeDeferred (HREV.out w2 x2).1, ?_⟩⟩
        exact ⟨_, results_tmp rfl _ _ _, by (rw [HV.out]; rfl), (HREV.out w2 x2).2 _⟩
  case stop =>
    rintro D c pre W _ _ h _
    exact h.elim
end Go.Proofs.YtgcbgeombbohpaaDoor
