/- TipstaffMaps: six maps side by side; what is wanted. -/
import Derived.Test.YtbjkfgfiifnjoaaDoorBmP
import Derived.Test.YtbjkfgfiifnjoaaDoorBmH
namespace Go.Proofs.YtbjkfgfiifnjoaaDoor
open Go.RowKit
set_option maxRecDepth 100000

def tyS (s : Nat) : Int := ((s % 3 : Nat) : Int)
theorem tyS_ok (s : Nat) : tyS s = 0 ∨ tyS s = 1 ∨ tyS s = 2 := by unfold tyS; omega
abbrev Con := Nat → Option (UInt8 × UInt8)
theorem MapC.mono {w : World} {b : Nat} {t : Int} {F : List Nat} {c : Con} {q q' : Nat} (h : MapC w b t F c q) (hq : q ≤ q') : MapC w b t F c q' := by
  obtain ⟨l, ck, es, h1, h2, h3, h4⟩ := h
  exact ⟨l, ck, es, h1, h2, h3, by omega⟩
theorem MapC.shrink {w : World} {b : Nat} {t : Int} {F : List Nat} {c : Con} {q : Nat} (h : MapC w b t F c q) : MapC w b t (F.filter fun g => decide (g < w.heap.size)) c q := by
  obtain ⟨l, ck, es, h1, h2, h3, h4⟩ := h
  exact ⟨l, ck, es, h1, fun g hg => List.mem_filter.2 ⟨h2 g hg, by simpa using h1.lt g hg⟩, h3, h4⟩

/-- Six maps (a's are 0, 1, 2; b's 3, 4, 5), apart from each other and from the blocks R. -/
structure Maps (w0 w : World) (m : Nat → Nat) (F : Nat → List Nat) (c : Nat → Con) (q : Nat) (R : List Nat) : Prop where
  at_ : ∀ s, s < 6 → MapC w (m s) (tyS s) (F s) (c s) q
  dis : ∀ s r, s < 6 → r < 6 → s ≠ r → ∀ g ∈ F s, g ∉ F r
  lt : ∀ s, s < 6 → ∀ g ∈ F s, g < w.heap.size
  lo : ∀ s, s < 6 → ∀ g ∈ F s, w0.heap.size ≤ g
  rz : ∀ s, s < 6 → ∀ g ∈ F s, g ∉ R
  rl : ∀ g ∈ R, g < w.heap.size
section
variable {w0 w w' : World} {m : Nat → Nat} {F : Nat → List Nat} {c : Nat → Con} {q : Nat} {R : List Nat}
theorem Maps.ext {S : List Nat} (h : Maps w0 w m F c q R) (x : Ext S w w') (hS : ∀ s, s < 6 → ∀ g ∈ F s, g ∉ S) : Maps w0 w' m F c q R :=
  ⟨fun s hs => (h.at_ s hs).ext x (hS s hs), h.dis, fun s hs g hg => Nat.lt_of_lt_of_le (h.lt s hs g hg) x.size, h.lo, h.rz, fun g hg => Nat.lt_of_lt_of_le (h.rl g hg) x.size⟩
theorem Maps.ext0 (h : Maps w0 w m F c q R) (x : Ext [] w w') : Maps w0 w' m F c q R := h.ext x (by simp)
/-- A block more is kept out: a new one. -/
theorem Maps.more (h : Maps w0 w m F c q R) (x : Ext [] w w') (g : Nat) (hg : w.heap.size ≤ g) (hg' : g < w'.heap.size) : Maps w0 w' m F c q (g :: R) := by
  have h' := h.ext0 x
  refine ⟨h'.at_, h'.dis, h'.lt, h'.lo, fun s hs k hk hm => ?_, fun k hk => ?_⟩
  · rcases List.mem_cons.1 hm with rfl | hm
    · have := h.lt s hs k hk; omega
    · exact h.rz s hs k hk hm
  · rcases List.mem_cons.1 hk with rfl | hk
    · exact hg'
    · exact h'.rl k hk
def updN {α : Type} (f : Nat → α) (s : Nat) (x : α) : Nat → α := fun i => if i = s then x else f i
/-- One map has turned. -/
theorem Maps.step (h : Maps w0 w m F c q R) (hw : w0.heap.size ≤ w.heap.size) (s : Nat) (hs : s < 6) {c' : Con} (p : MapPost w (m s) (tyS s) (F s) c' (q + 1) w') :
    ∃ F', Maps w0 w' m F' (updN c s c') (q + 1) R ∧ Ext (F s) w w' := by
  obtain ⟨F1, h1, x, hf⟩ := p
  refine ⟨updN F s (F1.filter fun g => decide (g < w'.heap.size)), ?_, x⟩
  have hin : ∀ g ∈ F1.filter (fun g => decide (g < w'.heap.size)), g < w'.heap.size ∧ (g ∈ F s ∨ w.heap.size ≤ g) := by
    intro g hg
    obtain ⟨h2, h3⟩ := List.mem_filter.1 hg
    exact ⟨by simpa using h3, hf g h2⟩
  refine ⟨fun r hr => ?_, fun r u hr hu hru g hg => ?_, fun r hr g hg => ?_, fun r hr g hg => ?_, fun r hr g hg => ?_, fun g hg => Nat.lt_of_lt_of_le (h.rl g hg) x.size⟩
  · unfold updN
    by_cases e : r = s
    · subst e; rw [if_pos rfl, if_pos rfl]; exact h1.shrink
    · rw [if_neg e, if_neg e]
      exact ((h.at_ r hr).ext x (fun g hg => h.dis r s hr hs e g hg)).mono (Nat.le_succ q)
  · unfold updN at hg ⊢
    by_cases e : r = s
    · subst e
      rw [if_pos rfl] at hg
      rw [if_neg (Ne.symm hru)]
      rcases (hin g hg).2 with h2 | h2
      · exact h.dis r u hr hu hru g h2
      · intro hm; have := h.lt u hu g hm; omega
    · rw [if_neg e] at hg
      by_cases e2 : u = s
      · subst e2
        rw [if_pos rfl]
        intro hm
        rcases (hin g hm).2 with h2 | h2
        · exact h.dis u r hu hr (Ne.symm hru) g h2 hg
        · have := h.lt r hr g hg; omega
      · rw [if_neg e2]; exact h.dis r u hr hu hru g hg
  · unfold updN at hg
    by_cases e : r = s
    · rw [if_pos e] at hg; exact (hin g hg).1
    · rw [if_neg e] at hg; exact Nat.lt_of_lt_of_le (h.lt r hr g hg) x.size
  · unfold updN at hg
    by_cases e : r = s
    · rw [if_pos e] at hg
      rcases (hin g hg).2 with h2 | h2
      · exact h.lo s hs g h2
      · omega
    · rw [if_neg e] at hg; exact h.lo r hr g hg
  · unfold updN at hg
    by_cases e : r = s
    · rw [if_pos e] at hg
      rcases (hin g hg).2 with h2 | h2
      · exact h.rz s hs g h2
      · intro hm; have := h.rl g hm; omega
    · rw [if_neg e] at hg; exact h.rz r hr g hg
end

/-- What is wanted: by key, a block and its two bytes. -/
abbrev Wan := Nat → Option (Nat × UInt8 × UInt8)
def wv (W : Wan) (k : Nat) : Value := match W k with
  | some x => .slice (some ⟨x.1, 0, none⟩) 2 2
  | none => .slice none 0 0
def wantV (W : Wan) : List Value := [wv W 0, wv W 1, wv W 2, wv W 3, wv W 4, wv W 5, wv W 6, wv W 7]
def val (W : Wan) (k : Nat) : Option (UInt8 × UInt8) := (W k).map (·.2)
/-- What a map of type j holds of it. -/
def cA (j : Nat) (W : Wan) : Con := fun k => if k < 8 then (if j = 0 then some ((val W k).getD (0, 0)) else val W k) else none
def setW (W : Wan) (k : Nat) (x : Nat × UInt8 × UInt8) : Wan := fun i => if i = k then some x else W i
theorem wantV_at (W : Wan) (k : Nat) (hk : k < 8) : (wantV W)[k]? = some (wv W k) := by
  match k, hk with
  | 0, _ => rfl
  | 1, _ => rfl
  | 2, _ => rfl
  | 3, _ => rfl
  | 4, _ => rfl
  | 5, _ => rfl
  | 6, _ => rfl
  | 7, _ => rfl
  | k + 8, h => omega
theorem wantV_set (W : Wan) (k : Nat) (hk : k < 8) (g : Nat) (v0 v1 : UInt8) : (wantV W).set k (.slice (some ⟨g, 0, none⟩) 2 2) = wantV (setW W k (g, v0, v1)) := by
  apply List.ext_getElem?
  intro i
  by_cases hi : i < 8
  · rw [List.getElem?_set, wantV_at _ i hi, wantV_at _ i hi]
    by_cases e : k = i
    · subst e
      have : k < (wantV W).length := hk
      simp [this, wv, setW]
    · rw [if_neg e]
      simp [wv, setW, Ne.symm e]
  · have h1 : (wantV W).length = 8 := rfl
    have h2 : (wantV (setW W k (g, v0, v1))).length = 8 := rfl
    rw [List.getElem?_eq_none (by rw [List.length_set, h1]; omega), List.getElem?_eq_none (by rw [h2]; omega)]
theorem cA_upd (j : Nat) (W : Wan) (k : Nat) (hk : k < 8) (g : Nat) (v0 v1 : UInt8) : updC (cA j W) k v0 v1 = cA j (setW W k (g, v0, v1)) := by
  funext i
  unfold updC cA
  by_cases e : i = k
  · subst e
    simp [hk, val, setW]
  · simp [e, val, setW]
/-- The wanted slices lie where they are said to. -/
structure WanAt (w : World) (bw : Nat) (W : Wan) (R : List Nat) : Prop where
  h : Blk w bw 53 (wantV W)
  e : ∀ k g v0 v1, W k = some (g, v0, v1) → Blk w g 5 (bytesV [v0, v1]) ∧ g ∈ R
theorem WanAt.ext {S : List Nat} {w w' : World} {bw : Nat} {W : Wan} {R : List Nat} (h : WanAt w bw W R) (x : Ext S w w') (hb : bw ∉ S) (hR : ∀ g ∈ R, g ∉ S) : WanAt w' bw W R :=
  ⟨h.h.ext x hb, fun k g v0 v1 e => ⟨(h.e k g v0 v1 e).1.ext x (hR g (h.e k g v0 v1 e).2), (h.e k g v0 v1 e).2⟩⟩
end Go.Proofs.YtbjkfgfiifnjoaaDoor
