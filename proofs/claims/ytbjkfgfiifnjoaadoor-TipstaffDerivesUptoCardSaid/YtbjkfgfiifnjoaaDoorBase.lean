/- Plain laws on memory, used by every text of this seat: blocks of cells, what a call may have changed, append and make with what is fresh. No program in sight. -/
import Derived.WalkKit
import Derived.ProofKit
import Derived.Handy
import Derived.Lib.Hide
import Derived.Deep.DeepMust
import Derived.Deep.LoopGhost
import Derived.Deep.Light
import Derived.Deep.DeepFit
import Derived.Deep.QuietTactic
import Derived.BigQuiet
import Derived.Deep.RegionLaw
import Derived.Deep.RegionWith
import Derived.Deep.DeepCutAuto
import Derived.IntWalk
namespace Go.Proofs.YtbjkfgfiifnjoaaDoor
open Go.RowKit
set_option maxRecDepth 100000

/-- Block b of w is a row of the cells cs, of elements of type T, none frozen. -/
def Blk (w : World) (b : Nat) (T : TypeId) (cs : List Value) : Prop := w.heap[b]? = some (.cells cs.toArray T (0, 0))

/-- w' is w, with new blocks, and with other contents in the blocks S alone. -/
structure Ext (S : List Nat) (w w' : World) : Prop where
  os : w'.os = w.os
  tape : w'.tape = w.tape
  output : w'.output = w.output
  size : w.heap.size ≤ w'.heap.size
  block : ∀ k, k < w.heap.size → k ∉ S → w'.heap[k]? = w.heap[k]?

theorem Ext.refl (S : List Nat) (w : World) : Ext S w w := ⟨rfl, rfl, rfl, Nat.le_refl _, fun _ _ _ => rfl⟩

theorem Ext.trans {S : List Nat} {a b c : World} (h : Ext S a b) (k : Ext S b c) : Ext S a c :=
  ⟨k.os.trans h.os, k.tape.trans h.tape, k.output.trans h.output, Nat.le_trans h.size k.size,
    fun i hi hn => (k.block i (Nat.lt_of_lt_of_le hi h.size) hn).trans (h.block i hi hn)⟩

/-- Two steps, the second one's blocks among the first one's or new. -/
theorem Ext.trans' {S T : List Nat} {a b c : World} (h : Ext S a b) (k : Ext T b c) (hT : ∀ i, i ∈ T → i ∈ S ∨ a.heap.size ≤ i) : Ext S a c :=
  ⟨k.os.trans h.os, k.tape.trans h.tape, k.output.trans h.output, Nat.le_trans h.size k.size,
    fun i hi hn => (k.block i (Nat.lt_of_lt_of_le hi h.size) (fun hm => (hT i hm).elim hn (by omega))).trans (h.block i hi hn)⟩

theorem Ext.sub {S T : List Nat} {a b : World} (h : Ext T a b) (hT : ∀ i, i ∈ T → i ∈ S ∨ a.heap.size ≤ i) : Ext S a b :=
  (Ext.refl S a).trans' h hT

theorem Ext.alloc {S : List Nat} {a w : World} (h : Ext S a w) (o : Obj) : Ext S a (w.alloc o) :=
  ⟨h.os, h.tape, h.output, by have := h.size; simp; omega, fun k hk hn => (Below.heap_alloc w o k (Nat.lt_of_lt_of_le hk h.size)).trans (h.block k hk hn)⟩

theorem Ext.drew {S : List Nat} {a w : World} (h : Ext S a w) : Ext S a w.drew := ⟨h.os, h.tape, h.output, h.size, h.block⟩

theorem Ext.drewN {S : List Nat} {a w : World} (h : Ext S a w) (n : Nat) : Ext S a (w.drewN n) := ⟨h.os, h.tape, h.output, h.size, h.block⟩

theorem Ext.setCell {S : List Nat} {a w : World} (h : Ext S a w) {p : Addr} (hp : p.block ∈ S ∨ a.heap.size ≤ p.block) (u : Value) : Ext S a (w.setCell p u) :=
  ⟨h.os, h.tape, h.output, by have := h.size; simpa [World.setCell] using this, fun k hk hn =>
    (Below.heap_setCell w p u k (by rintro rfl; exact hp.elim hn (by omega))).trans (h.block k hk hn)⟩

theorem Ext.grown {S : List Nat} {a w w' : World} {row : Option Nat} (h : Ext S a w) (hg : w.grownBy w' row) (hr : ∀ k, row = some k → k ∈ S ∨ a.heap.size ≤ k) : Ext S a w' :=
  ⟨hg.os.trans h.os, hg.tape.trans h.tape, hg.output.trans h.output, Nat.le_trans h.size hg.size,
    fun k hk hn => (hg.block k (Nat.lt_of_lt_of_le hk h.size) (fun e => (hr k e.symm).elim hn (by omega))).trans (h.block k hk hn)⟩

theorem Ext.below {S : List Nat} {B : Nat} {a b : World} (h : Ext S a b) (hB : B ≤ a.heap.size) (hS : ∀ i, i ∈ S → B ≤ i) : Below B a b :=
  ⟨h.os, h.tape, h.output, h.size, fun k hk => h.block k (by omega) (fun hm => by have := hS k hm; omega)⟩

theorem Below.ext {S : List Nat} {B : Nat} {a b c : World} (h : Below B a b) (k : Ext S b c) (hB : B ≤ a.heap.size) (hS : ∀ i, i ∈ S → B ≤ i) : Below B a c :=
  h.trans (k.below (Nat.le_trans hB h.size) hS)

theorem Ext.cell {S : List Nat} {w w' : World} (h : Ext S w w') {p : Addr} (hp : p.block < w.heap.size) (hn : p.block ∉ S) : w'.cell? p = w.cell? p := World.cell?_of_block (w := w) (h.block p.block hp hn)
theorem Ext.frozen {S : List Nat} {w w' : World} (h : Ext S w w') {p : Addr} (hp : p.block < w.heap.size) (hn : p.block ∉ S) : w'.frozen? p = w.frozen? p := World.frozen?_of_block (w := w) (h.block p.block hp hn)

/-! ### Blocks -/
theorem Blk.lt {w : World} {b : Nat} {T : TypeId} {cs : List Value} (h : Blk w b T cs) : b < w.heap.size := (Array.getElem?_eq_some_iff.1 h).1

theorem Blk.cell {w : World} {b : Nat} {T : TypeId} {cs : List Value} (h : Blk w b T cs) (i : Nat) : w.cell? ⟨b, i, none⟩ = cs[i]? := by
  unfold World.cell?
  rw [show w.heap[(⟨b, i, none⟩ : Addr).block]? = _ from h]
  simp

theorem Blk.cellAt {w : World} {b : Nat} {T : TypeId} {cs : List Value} (h : Blk w b T cs) {i : Nat} (hi : i < cs.length) : w.cell? ⟨b, i, none⟩ = some cs[i] := by
  rw [h.cell, List.getElem?_eq_getElem hi]

theorem Blk.frozen {w : World} {b : Nat} {T : TypeId} {cs : List Value} (h : Blk w b T cs) (i : Nat) : w.frozen? ⟨b, i, none⟩ = false := by
  unfold World.frozen?
  rw [show w.heap[(⟨b, i, none⟩ : Addr).block]? = _ from h]
  simp

theorem Blk.ext {S : List Nat} {w w' : World} {b : Nat} {T : TypeId} {cs : List Value} (h : Blk w b T cs) (e : Ext S w w') (hb : b ∉ S) : Blk w' b T cs :=
  (e.block b h.lt hb).trans h

theorem Blk.below {B : Nat} {w w' : World} {b : Nat} {T : TypeId} {cs : List Value} (h : Blk w b T cs) (e : Below B w w') (hb : b < B) : Blk w' b T cs :=
  (e.block b hb).trans h

theorem Blk.alloc {w : World} {b : Nat} {T : TypeId} {cs : List Value} (h : Blk w b T cs) (o : Obj) : Blk (w.alloc o) b T cs :=
  (Below.heap_alloc w o b h.lt).trans h

theorem Blk.new (w : World) (T : TypeId) (cs : Array Value) : Blk (w.alloc (.cells cs T)) w.heap.size T cs.toList := by
  have h := heap_alloc_new w (.cells cs T)
  unfold Blk; simpa using h

theorem Blk.new' (w : World) (T : TypeId) (cs : Array Value) (n : Nat) (h : n = w.heap.size) : Blk (w.alloc (.cells cs T)) n T cs.toList := by
  subst h; exact Blk.new w T cs

theorem Blk.set {w : World} {b : Nat} {T : TypeId} {cs : List Value} (h : Blk w b T cs) (i : Nat) (u : Value) : Blk (w.setCell ⟨b, i, none⟩ u) b T (cs.set i u) := by
  unfold Blk at *
  simp only [World.setCell, Array.getElem?_modify, if_true, h, Option.map_some]
  simp

theorem Blk.setOther {w : World} {b : Nat} {T : TypeId} {cs : List Value} (h : Blk w b T cs) {p : Addr} (hp : b ≠ p.block) (u : Value) : Blk (w.setCell p u) b T cs :=
  (Below.heap_setCell w p u b hp).trans h

theorem Blk.drew {w : World} {b : Nat} {T : TypeId} {cs : List Value} (h : Blk w b T cs) : Blk w.drew b T cs := h
theorem Blk.drewN {w : World} {b : Nat} {T : TypeId} {cs : List Value} (h : Blk w b T cs) (n : Nat) : Blk (w.drewN n) b T cs := h

theorem Blk.owns {w : World} {b : Nat} {T : TypeId} {cs : List Value} {n size : Nat} (h : Blk w b T cs) (hn : cs.length = n * size) (hm : n ≤ maxLen) :
    w.ownsRow 0 T size (.slice (some ⟨b, 0, none⟩) n n) n cs :=
  ⟨hn, .inr ⟨b, n, cs.toArray, rfl, Nat.zero_le _, h, Nat.le_refl _, hm, by simpa using hn, by simp [← hn]⟩⟩

/-! ### Owned rows (base 0: whose they are, the footprint 'ownBlock' tells) -/
theorem owns_ext {S : List Nat} {w w' : World} {T : TypeId} {size n : Nat} {v : Value} {xs : List Value} (h : w.ownsRow 0 T size v n xs) (e : Ext S w w') (hb : ∀ k, v.ownBlock = some k → k ∉ S) : w'.ownsRow 0 T size v n xs := by
  obtain ⟨h1, h2⟩ := h
  refine ⟨h1, ?_⟩
  rcases h2 with h2 | ⟨g, cap, cur, rfl, h0, hg, hr⟩
  · exact .inl h2
  · exact .inr ⟨g, cap, cur, rfl, h0, (e.block g (Array.getElem?_eq_some_iff.1 hg).1 (hb g rfl)).trans hg, hr⟩

theorem owns_lt {w : World} {T : TypeId} {size n : Nat} {v : Value} {xs : List Value} (h : w.ownsRow 0 T size v n xs) {k : Nat} (hk : v.ownBlock = some k) : k < w.heap.size := (h.lt k hk).2

/-- An owned row of at least one element: its block. -/
theorem owns_some {w : World} {T : TypeId} {size n : Nat} {v : Value} {xs : List Value} (h : w.ownsRow 0 T size v n xs) (hn : 0 < n) :
    ∃ g cap cur, v = .slice (some ⟨g, 0, none⟩) n cap ∧ Blk w g T cur ∧ n ≤ cap ∧ cap ≤ maxLen ∧ cur.length = cap * size ∧ cur.take (n * size) = xs := by
  rcases h.2 with ⟨_, h2⟩ | ⟨g, cap, cur, rfl, h0, hg, hr⟩
  · omega
  · exact ⟨g, cap, cur.toList, rfl, by simpa [Blk] using hg, hr.1, hr.2.1, by simpa using hr.2.2.1, hr.2.2.2⟩

theorem owns_slice {w : World} {T : TypeId} {size n : Nat} {v : Value} {xs : List Value} (h : w.ownsRow 0 T size v n xs) : ∃ a c, v = .slice a n c := by
  rcases h.2 with ⟨rfl, rfl⟩ | ⟨g, cap, cur, rfl, h0, hg, hr⟩
  · exact ⟨_, _, rfl⟩
  · exact ⟨_, _, rfl⟩

/-- A slice that can be read: m elements of so many cells each, news. -/
def Reads (w : World) (v : Value) (size m : Nat) (news : List Value) : Prop :=
  ∃ ao c, v = .slice ao m c ∧ news.length = m * size ∧ (ao = none → m = 0 ∧ c = 0) ∧ ∀ ad, ao = some ad → ∀ j u, news[j]? = some u → w.cell? (ad.add j) = some u

theorem owns_reads {w : World} {T : TypeId} {size n : Nat} {v : Value} {xs : List Value} (h : w.ownsRow 0 T size v n xs) : Reads w v size n xs := by
  rcases h.2 with ⟨rfl, rfl⟩ | ⟨g, cap, cur, rfl, h0, hg, hr⟩
  · exact ⟨none, 0, rfl, h.1, fun _ => ⟨rfl, rfl⟩, fun _ e => by cases e⟩
  · exact ⟨some ⟨g, 0, none⟩, cap, rfl, h.1, (fun e => by cases e), fun ad e j u hu => by obtain rfl := Option.some.inj e; exact h.cells (g := g) rfl j u hu⟩

theorem blk_reads {w : World} {b : Nat} {T : TypeId} {cs : List Value} {size m : Nat} (h : Blk w b T cs) (c : Nat) (hm : cs.length = m * size) : Reads w (.slice (some ⟨b, 0, none⟩) m c) size m cs :=
  ⟨some ⟨b, 0, none⟩, c, rfl, hm, (fun e => by cases e), fun ad e j u hu => by
    obtain rfl := Option.some.inj e
    rw [show (⟨b, 0, none⟩ : Addr).add j = ⟨b, j, none⟩ from by unfold Addr.add; split <;> simp_all, h.cell]; exact hu⟩

/-! ### append -/
section
variable {P : Program} (w : World)

/-- append to a slice that is nil or the call's own, of whatever can be read: the row is the old one's block, or a fresh one. -/
theorem run_append_strong (t ty e : TypeId) (i : TypeInfo) (z : Value) (size bytes : Nat) (ht : P.underlying t = some (.slice e)) (hi : P.info? e = some i) (hz : i.zero = some z)
    (hsize : i.size = size) (hby : i.bytes = bytes) (hzs : z.cells.size = size) (hsz : 0 < size)
    (v : Value) (n : Nat) (xs : List Value) (hown : w.ownsRow 0 e size v n xs)
    (s : Value) (m : Nat) (news : List Value) (hs : Reads w s size m news) (h1 : ∀ u ∈ news, u.oneCell' = true)
    (h63 : n + m ≤ maxLen) (hbytes : (n + m) * bytes ≤ 140737488355328) :
    ∃ v' w', (Builtin.append_ #[t, t] ty #[v, s]).run P w = .ok v' w' ∧ w'.ownsRow 0 e size v' (n + m) (xs ++ news) ∧ w.grownBy w' v.ownBlock ∧
      (v'.ownBlock = v.ownBlock ∨ ∃ g, v'.ownBlock = some g ∧ w.heap.size ≤ g) ∧ (v' = .slice none 0 0 ↔ v = .slice none 0 0 ∧ m = 0) := by
  obtain ⟨ao, c, rfl, hl, hnone, hnews⟩ := hs
  cases ao with
  | none =>
    obtain ⟨rfl, rfl⟩ := hnone rfl
    have hn : news = [] := List.eq_nil_of_length_eq_zero (by simpa using hl)
    subst hn
    refine ⟨v, w, run_append_owned_none (P := P) w 0 t ty e i size ht hi v n xs hown, by simpa using hown, World.grownBy.refl _ _, .inl rfl, by simp⟩
  | some ad =>
    have hnews := hnews ad rfl
    obtain ⟨v', w', hr, h2, h3, h4⟩ := run_append_own (P := P) w 0 t ty e i z size bytes ht hi hz hsize hby hzs hsz v n xs hown ad m c news hl hnews h1 h63 hbytes (Nat.zero_le _)
    refine ⟨v', w', hr, h2, h3, ?_, h4⟩
    have hsmall : n + m ≤ 9223372036854775807 := by simp only [maxLen] at h63; omega
    subst hsize
    rcases hown.2 with ⟨rfl, rfl⟩ | ⟨g, cap, cur, rfl, hbg, hg, hnc, hcm, hcs, htake⟩
    · by_cases hm : m = 0
      · exact .inl (by rw [h4.2 ⟨rfl, hm⟩])
      · have hr2 := run_append_nil (P := P) w t ty e i z ht hi hz ad m c news hl hnews (by omega) (by omega) (by have hb := hbytes; subst hby; simp only [Nat.zero_add] at hb; omega)
        rw [hr2] at hr
        injection hr with hv
        subst hv
        exact .inr ⟨_, rfl, Nat.le_refl _⟩
    · by_cases hroom : n + m ≤ cap
      · have hfit : n * i.size + news.length ≤ cur.size := by rw [hl, hcs, ← Nat.add_mul]; exact Nat.mul_le_mul_right _ hroom
        have hr2 := run_append_room (P := P) w t ty e i ht hi g n cap cur hg ad m c news hl hnews h1 hroom hfit
        rw [hr2] at hr
        injection hr with hv
        subst hv
        exact .inl rfl
      · have holds : ∀ j u, xs[j]? = some u → w.cell? ((⟨g, 0, none⟩ : Addr).add j) = some u := hown.cells (g := g) rfl
        have hr2 := run_append_grow (P := P) w t ty e i z ht hi hz ⟨g, 0, none⟩ n cap xs hown.1 holds ad m c news hl hnews (by omega) (by omega) (growslice_fits (by omega) (by subst hby; exact hbytes))
        rw [hr2] at hr
        injection hr with hv
        subst hv
        exact .inr ⟨_, rfl, Nat.le_refl _⟩

theorem wp_app {o : Oper} {a : Act} {K : Act → World → Prop} {Q : Exit → Act → World → Prop} (s x : Operand) (t : TypeId)
    (ho : o.op = .call { callee := .builtin .append, args := #[s, x], argTypes := #[t, t] })
    (e : TypeId) (i : TypeInfo) (z : Value) (size bytes : Nat) (ht : P.underlying t = some (.slice e)) (hi : P.info? e = some i) (hz : i.zero = some z)
    (hsize : i.size = size) (hby : i.bytes = bytes) (hzs : z.cells.size = size) (hsz : 0 < size)
    (v : Value) (n : Nat) (xs : List Value) (hs : a.eval s = v) (hown : w.ownsRow 0 e size v n xs)
    (sv : Value) (m : Nat) (news : List Value) (hx : a.eval x = sv) (hr : Reads w sv size m news) (h1 : ∀ u ∈ news, u.oneCell' = true)
    (h63 : n + m ≤ maxLen) (hbytes : (n + m) * bytes ≤ 140737488355328)
    (h : ∀ v' w', w'.ownsRow 0 e size v' (n + m) (xs ++ news) → w.grownBy w' v.ownBlock → (v'.ownBlock = v.ownBlock ∨ ∃ g, v'.ownBlock = some g ∧ w.heap.size ≤ g) → (v' = .slice none 0 0 ↔ v = .slice none 0 0 ∧ m = 0) → K (a.put o.dst v') w') : o.wp P a w K Q := by
  obtain ⟨v', w', hrun, h2, h3, h4, h5⟩ := run_append_strong (P := P) w t o.type e i z size bytes ht hi hz hsize hby hzs hsz v n xs hown sv m news hr h1 h63 hbytes
  unfold Oper.wp execOp
  simp only [ho, resolve, invoke, builtin, Sem.run_bind, Sem.run_pure, Result.andThen_ok, List.map_toArray, List.map_cons, List.map_nil, hs, hx, hrun]
  exact h v' w' h2 h3 h4 h5

theorem wpList_app {ops : Array Oper} {rest : List Oper} {o : Oper} {a : Act} {Q : Exit → Act → World → Prop} (hgd : o.guard = none) (s x : Operand) (t : TypeId)
    (ho : o.op = .call { callee := .builtin .append, args := #[s, x], argTypes := #[t, t] })
    (e : TypeId) (i : TypeInfo) (z : Value) (size bytes : Nat) (ht : P.underlying t = some (.slice e)) (hi : P.info? e = some i) (hz : i.zero = some z)
    (hsize : i.size = size) (hby : i.bytes = bytes) (hzs : z.cells.size = size) (hsz : 0 < size)
    (v : Value) (n : Nat) (xs : List Value) (hs : a.eval s = v) (hown : w.ownsRow 0 e size v n xs)
    (sv : Value) (m : Nat) (news : List Value) (hx : a.eval x = sv) (hr : Reads w sv size m news) (h1 : ∀ u ∈ news, u.oneCell' = true)
    (h63 : n + m ≤ maxLen) (hbytes : (n + m) * bytes ≤ 140737488355328)
    (h : ∀ v' w', w'.ownsRow 0 e size v' (n + m) (xs ++ news) → w.grownBy w' v.ownBlock → (v'.ownBlock = v.ownBlock ∨ ∃ g, v'.ownBlock = some g ∧ w.heap.size ≤ g) → (v' = .slice none 0 0 ↔ v = .slice none 0 0 ∧ m = 0) → wpList P ops Q rest (a.put o.dst v') w') : wpList P ops Q (o :: rest) a w :=
  wpList_plain hgd fun _ hK => wp_app w s x t ho e i z size bytes ht hi hz hsize hby hzs hsz v n xs hs hown sv m news hx hr h1 h63 hbytes fun v' w' h2 h3 h4 h5 => hK _ _ (h v' w' h2 h3 h4 h5)

/-- The same as one step of a region that draws its order ('go_region_law'). -/
theorem step_app {ops : Array Oper} {o : Oper} {a : Act} {K : Act → World → Prop} {Q : Exit → Act → World → Prop} {E : Prop}
    (hg : o.guard = none) (s x : Operand) (t : TypeId) (ho : o.op = .call { callee := .builtin .append, args := #[s, x], argTypes := #[t, t] })
    (e : TypeId) (i : TypeInfo) (z : Value) (size bytes : Nat) (ht : P.underlying t = some (.slice e)) (hi : P.info? e = some i) (hz : i.zero = some z)
    (hsize : i.size = size) (hby : i.bytes = bytes) (hzs : z.cells.size = size) (hsz : 0 < size)
    (v : Value) (n : Nat) (xs : List Value) (hs : a.eval s = v) (hown : w.ownsRow 0 e size v n xs)
    (sv : Value) (m : Nat) (news : List Value) (hx : a.eval x = sv) (hr : Reads w sv size m news) (h1 : ∀ u ∈ news, u.oneCell' = true)
    (h63 : n + m ≤ maxLen) (hbytes : (n + m) * bytes ≤ 140737488355328)
    (h : ∀ v' w', w'.ownsRow 0 e size v' (n + m) (xs ++ news) → w.grownBy w' v.ownBlock → (v'.ownBlock = v.ownBlock ∨ ∃ g, v'.ownBlock = some g ∧ w.heap.size ≤ g) → (v' = .slice none 0 0 ↔ v = .slice none 0 0 ∧ m = 0) → K (a.put o.dst v') w') :
    if Region.wanted o (yielded ops a.tmps) = true then Oper.wp P o a w K Q else E := by
  have hw : Region.wanted o (yielded ops a.tmps) = true := by simp [Region.wanted, hg]
  rw [if_pos hw]
  exact wp_app w s x t ho e i z size bytes ht hi hz hsize hby hzs hsz v n xs hs hown sv m news hx hr h1 h63 hbytes h

/-- 'make([]T, n)': a fresh block of n zero elements. -/
theorem wpList_mk {ops : Array Oper} {rest : List Oper} {o : Oper} {a : Act} {Q : Exit → Act → World → Prop}
    (hg : o.guard = none) (l c : Operand) (t : TypeId) (hop : o.op = Op.makeSlice t l c)
    (e : TypeId) (i : TypeInfo) (z : Value) (h1 : P.underlying t = some (.slice e)) (h2 : P.info? e = some i) (h3 : i.zero = some z) (hs : i.size = 1) (hzc : z.cells = #[z])
    (kl kc : IntKind) (L C : Int) (n : Nat) (hl : a.eval l = .int kl L) (hc : a.eval c = .int kc C) (hL : L = (n : Int)) (hC : C = (n : Int)) (b2 : i.bytes * n ≤ 281474976710656) (b3 : n ≤ maxLen)
    (hK : wpList P ops Q rest (a.put o.dst (.slice (some ⟨w.heap.size, 0, none⟩) n n)) (w.alloc (.cells (List.replicate n z).toArray e))) :
    wpList P ops Q (o :: rest) a w := by
  refine wpList_plain hg fun K hK' => ?_
  have h63' : (n : Int) ≤ 9223372036854775807 := by
    have h := b3
    simp [maxLen] at h
    omega
  have hb' : (i.bytes : Int) * (n : Int) ≤ 281474976710656 := by
    have h : ((i.bytes * n : Nat) : Int) ≤ 281474976710656 := by omega
    rwa [Int.natCast_mul] at h
  have hrun := run_make (P := P) w t e i z h1 h2 h3 kl kc n n (by omega) (Int.le_refl _) hb' h63'
  have hm : madeCells z.cells n = (List.replicate n z).toArray := by
    rw [hzc, ← toList_madeCells_one]
  simp only [Int.toNat_natCast, hs, Nat.mul_one, hm] at hrun
  subst hL
  subst hC
  unfold Oper.wp
  simp [execOp, hop, hl, hc, hrun, Result.andThen]
  exact hK' _ _ (by simpa using hK)

/-- The same for elements of any size. -/
theorem wpList_mkz {ops : Array Oper} {rest : List Oper} {o : Oper} {a : Act} {Q : Exit → Act → World → Prop}
    (hg : o.guard = none) (l c : Operand) (t : TypeId) (hop : o.op = Op.makeSlice t l c)
    (e : TypeId) (i : TypeInfo) (z : Value) (size : Nat) (h1 : P.underlying t = some (.slice e)) (h2 : P.info? e = some i) (h3 : i.zero = some z) (hs : i.size = size)
    (kl kc : IntKind) (L C : Int) (n : Nat) (hl : a.eval l = .int kl L) (hc : a.eval c = .int kc C) (hL : L = (n : Int)) (hC : C = (n : Int)) (b2 : i.bytes * n ≤ 281474976710656) (b3 : n ≤ maxLen)
    (hK : wpList P ops Q rest (a.put o.dst (.slice (some ⟨w.heap.size, 0, none⟩) n n)) (w.alloc (.cells (madeCells z.cells (n * size)) e))) :
    wpList P ops Q (o :: rest) a w := by
  refine wpList_plain hg fun K hK' => ?_
  have h63' : (n : Int) ≤ 9223372036854775807 := by
    have h := b3
    simp [maxLen] at h
    omega
  have hb' : (i.bytes : Int) * (n : Int) ≤ 281474976710656 := by
    have h : ((i.bytes * n : Nat) : Int) ≤ 281474976710656 := by omega
    rwa [Int.natCast_mul] at h
  have hrun := run_make (P := P) w t e i z h1 h2 h3 kl kc n n (by omega) (Int.le_refl _) hb' h63'
  simp only [Int.toNat_natCast, hs] at hrun
  subst hL
  subst hC
  unfold Oper.wp
  simp [execOp, hop, hl, hc, hrun, Result.andThen]
  exact hK' _ _ hK
end

/-! ### Quiet calls, the world of the contract on the left -/
theorem quiet_left {P : Program} {f : FuncId} {args : Array Value} {w : World} {n : Nat} {v : Value}
    (h : Calls P f args (w.drewN n) fun e w' => e = .returned v ∧ w.drewN n = w') : Calls P f args (w.drewN n) fun e w'' => e = .returned v ∧ ∃ m, w'' = w.drewN m :=
  h.mono fun _ _ ⟨he, hm⟩ => ⟨he, n, hm.symm⟩
theorem quiet_add_left {P : Program} {f : FuncId} {args : Array Value} {w : World} {a n : Nat} {v : Value}
    (h : Calls P f args (w.drewN (a + n)) fun e w' => e = .returned v ∧ w.drewN (a + n) = w') :
    Calls P f args (w.drewN (a + n)) fun e w'' => e = .returned v ∧ ∃ m, w'' = w.drewN (a + m) :=
  h.mono fun _ _ ⟨he, hm⟩ => ⟨he, n, hm.symm⟩

/-! ### Small things -/
theorem ret_int {k : IntKind} {a b : Int} (h : a = b) : Ending.returned (.int k a) = .returned (.int k b) := by rw [h]

/-- A slice of integers that came in: nil, or a row of cap cells, the first len of which are its elements. -/
def IsRow (k : IntKind) (w : World) (a : Option Addr) (len cap : Nat) (zs : List Int) : Prop :=
  (a = none ∧ len = 0 ∧ cap = 0 ∧ zs = []) ∨
  ∃ x, a = some x ∧ len ≤ cap ∧ cap ≤ maxLen ∧ zs.length = cap ∧ (∀ i, i < zs.length → w.cell? (x.add i) = some (.int k (zs.getD i 0))) ∧ ∀ n ∈ zs, (Lit.int k n).wf = true

theorem IsRow.at {k : IntKind} {w : World} {a : Option Addr} {len cap : Nat} {zs : List Int} (h : IsRow k w a len cap zs) :
    len ≤ zs.length ∧ zs.length ≤ maxLen ∧ (∀ n ∈ zs, (Lit.int k n).wf = true) ∧ ∃ b off, (0 < zs.length → a = some ⟨b, off, none⟩) ∧ (0 < zs.length → b < w.heap.size) ∧ ∀ j, j < zs.length → w.cell? ⟨b, off + j, none⟩ = some (.int k (zs.getD j 0)) := by
  rcases h with ⟨rfl, rfl, rfl, rfl⟩ | ⟨x, rfl, hl, hm, hz, hc, hw⟩
  · exact ⟨Nat.le_refl _, Nat.zero_le _, by simp, 0, 0, by simp, by simp, by simp⟩
  · refine ⟨by omega, by omega, hw, ?_⟩
    by_cases h0 : 0 < zs.length
    · obtain ⟨b, off, rfl, hj⟩ := ints_at hc h0
      exact ⟨b, off, fun _ => rfl, fun _ => World.block_lt_of_cell? w _ (hj 0 h0), hj⟩
    · exact ⟨0, 0, fun h => absurd h h0, fun h => absurd h h0, fun j hj => by omega⟩

theorem IsRow.ext {k : IntKind} {w w' : World} {a : Option Addr} {len cap : Nat} {zs : List Int} (h : IsRow k w a len cap zs) (e : Ext [] w w') : IsRow k w' a len cap zs := by
  rcases h with h | ⟨x, rfl, hl, hm, hz, hc, hw⟩
  · exact .inl h
  · refine .inr ⟨x, rfl, hl, hm, hz, fun i hi => ?_, hw⟩
    have h := hc i hi
    rw [e.cell (World.block_lt_of_cell? w _ h) (by simp)]; exact h

/-- What 'int(uint64(a) % m)' comes to. -/
theorem mod_nat (a : Int) (m : Nat) (h0 : 0 < m) (hm : m ≤ 9223372036854775807) : ∃ k : Nat, wrap64 ((IntKind.u64.wrap a).tmod (m : Int)) = (k : Int) ∧ k < m := by
  have h1 : 0 ≤ IntKind.u64.wrap a := wrap_u64_nonneg a
  obtain ⟨x, hx⟩ := Int.eq_ofNat_of_zero_le h1
  have hlt : x % m < m := Nat.mod_lt _ h0
  refine ⟨x % m, ?_, hlt⟩
  rw [hx, Int.tmod_eq_emod_of_nonneg (by omega), ← Int.natCast_emod, IntWalk.wrap64_in _ (by omega)]

theorem getD_of_lt {l : List Value} {i : Nat} (h : i < l.length) (d : Value) : l[i]? = some (l.getD i d) := by simp [h]

end Go.Proofs.YtbjkfgfiifnjoaaDoor
