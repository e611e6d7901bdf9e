/- The laws of layer 16: three kinds of programs, plainly: what is told of them. No walk. -/
import Derived.Test.YtooifaakflphpaaCfgI
namespace Go.Proofs.Ytooifaakflphpaa
open Go.RowKit
set_option maxRecDepth 100000

def pA : Ins := ⟨183, 0, 0, 0, 0⟩
def pB : Ins := ⟨149, 0, 0, 0, 0⟩
def pJ (o : BitVec 16) : Ins := ⟨5, 0, 0, o, 0⟩
def pE (o : BitVec 16) : Ins := ⟨21, 0, 0, o, 0⟩
def pN (o : BitVec 16) : Ins := ⟨85, 0, 0, o, 1⟩
theorem oneX_pA (nxt prv : Option Ins) : oneX pA nxt prv = true := by kernel_rfl
theorem oneX_pB (nxt prv : Option Ins) : oneX pB nxt prv = true := by kernel_rfl
theorem oneX_pJ (o : BitVec 16) (nxt prv : Option Ins) : oneX (pJ o) nxt prv = true := by kernel_rfl
theorem oneX_pE (o : BitVec 16) (nxt prv : Option Ins) : oneX (pE o) nxt prv = true := by kernel_rfl
theorem oneX_pN (o : BitVec 16) (nxt prv : Option Ins) : oneX (pN o) nxt prv = true := by kernel_rfl
theorem kind_pA : kindM pA = 1 := by decide +kernel
theorem kind_pB : kindM pB = 5 := by decide +kernel
theorem kind_pJ (o : BitVec 16) : kindM (pJ o) = 3 := by show (partsN 5).kind = 3; decide +kernel
theorem kind_pE (o : BitVec 16) : kindM (pE o) = 2 := by show (partsN 21).kind = 2; decide +kernel
theorem kind_pN (o : BitVec 16) : kindM (pN o) = 2 := by show (partsN 85).kind = 2; decide +kernel

/-- A program, place by place. -/
def mk (n : Nat) (g : Nat → Ins) : List Ins := (List.range n).map g
theorem mk_len (n : Nat) (g : Nat → Ins) : (mk n g).length = n := by simp [mk]
theorem mk_at (n : Nat) (g : Nat → Ins) (j : Nat) (hj : j < n) : (mk n g)[j]? = some (g j) := by
  unfold mk
  rw [List.getElem?_map, List.getElem?_range hj]; rfl
theorem mk_none (n : Nat) (g : Nat → Ins) (j : Nat) (hj : n ≤ j) : (mk n g)[j]? = none := List.getElem?_eq_none (by rw [mk_len]; exact hj)
theorem mk_succ (n : Nat) (g : Nat → Ins) : mk (n + 1) g = mk n g ++ [g n] := by
  unfold mk; rw [List.range_succ, List.map_append]; rfl
theorem mk_congr (n : Nat) (g h : Nat → Ins) (e : ∀ j, j < n → g j = h j) : mk n g = mk n h := List.map_congr_left fun j hj => e j (List.mem_range.1 hj)
theorem mk_nx (n : Nat) (g : Nat → Ins) (j : Nat) (hj : j < n) : nxL (mk n g) j = (behindM (j : Int) (g j)).filter (inL n) := by
  unfold nxL
  rw [mk_at n g j hj, mk_len]
theorem mk_nx0 (n : Nat) (g : Nat → Ins) (j : Nat) (hj : n ≤ j) : nxL (mk n g) j = [] := by
  unfold nxL
  rw [mk_none n g j hj]

theorem check_ok (n : Nat) (g : Nat → Ins) (h0 : 0 < n) (hn : n ≤ 256) (ho : ∀ j nxt prv, j < n → oneX (g j) nxt prv = true) (hl : ∀ j, j < n → landsM (mk n g) j = true) (hk : kindM (g (n - 1)) = 5) : checkM (mk n g) = (0, 0) := by
  unfold checkM
  rw [mk_len, if_neg (by omega), if_neg (by omega), firstBad_none, firstBad_none]
  · have hlast : lastM (mk n g) = true := by
      unfold lastM
      rw [mk_len, mk_at n g (n - 1) (by omega)]
      simp only
      rw [hk]; rfl
    rw [hlast]; rfl
  · exact hl
  · intro j hj
    unfold oneM
    rw [mk_at n g j hj]
    exact ho j _ _ hj
theorem rch_plain (n : Nat) (g : Nat → Ins) (h : ∀ j, j < n → kindM (g j) ≠ 10) (j : Nat) : rchM (mk n g) j = reachB (mk n g) j := by
  cases j with
  | zero => rfl
  | succ j =>
    have hs : secB (mk n g) j = false := by
      unfold secB
      by_cases h1 : j + 1 < n
      · rw [mk_at n g j (by omega), mk_at n g (j + 1) h1]
        simp only
        rw [decide_eq_false (h (j + 1) h1), Bool.false_and]
      · rw [mk_none n g (j + 1) (by omega)]
        cases (mk n g)[j]? <;> rfl
    show (reachB (mk n g) (j + 1) || (secB (mk n g) j && rchM (mk n g) j)) = _
    rw [hs, Bool.false_and, Bool.or_false]

theorem rch_up (nx : Nat → List Nat) (m : Nat) (h : ∀ x, x < m → x + 1 ∈ nx x) (i : Nat) : ∀ d, i + d ≤ m → Cf.Rch nx i (i + d)
  | 0, _ => Cf.Rch.here i
  | d + 1, hd => (rch_up nx m h i d (by omega)).step (h (i + d) (by omega))
theorem rch_le (nx : Nat → List Nat) (h : ∀ x y, y ∈ nx x → x < y) (i : Nat) : ∀ (k j : Nat), Cf.RchN nx i k j → i ≤ j
  | 0, _, e => by rw [← show i = _ from e]; exact Nat.le_refl _
  | k + 1, _, ⟨b, hb, hm⟩ => Nat.le_of_lt (Nat.lt_of_le_of_lt (rch_le nx h i k b hb) (h b _ hm))
theorem rch_in (nx : Nat → List Nat) (S : Nat → Prop) (h0 : S 0) (h : ∀ x, S x → ∀ y ∈ nx x, S y) : ∀ (k j : Nat), Cf.RchN nx 0 k j → S j
  | 0, _, e => by rw [← show 0 = _ from e]; exact h0
  | k + 1, _, ⟨b, hb, hm⟩ => h b (rch_in nx S h0 h k b hb) _ hm
theorem mem_nxM (l : List Ins) (x y : Nat) : y ∈ nxM l x ↔ (y : Int) ∈ nxL l x := by
  unfold nxM
  rw [List.mem_map]
  constructor
  · rintro ⟨t, ht, rfl⟩
    have := nxL_in l x t ht
    rw [Int.toNat_of_nonneg this.1]
    exact ht
  · intro h
    exact ⟨_, h, by simp⟩

theorem behind_pA (k : Int) : behindM k pA = [k + 1] := by
  unfold behindM
  rw [kind_pA]; rfl
theorem behind_pB (k : Int) : behindM k pB = [] := by
  unfold behindM
  rw [kind_pB]; rfl
theorem behind_pJ (k : Int) (o : BitVec 16) : behindM k (pJ o) = [k + o.toInt + 1] := by
  unfold behindM
  rw [kind_pJ]; rfl
theorem behind_jump (k : Int) (x : Ins) (h : kindM x = 2) (t : Int) : t ∈ behindM k x ↔ t = k + 1 ∨ t = k + x.off.toInt + 1 := by
  unfold behindM
  rw [h, if_neg (by omega), if_neg (by omega), if_pos rfl]
  split
  · simp; intro h; omega
  · split <;> simp <;> omega
theorem off_of (z : Int) (h : -32768 ≤ z ∧ z ≤ 32767) : (BitVec.ofInt 16 z).toInt = z := by
  rw [BitVec.toInt_ofInt]; simp [Int.bmod]; omega
theorem lands_jump (n : Nat) (g : Nat → Ins) (j t : Nat) (hj : j < n) (ht : t < n) (h10 : kindM (g t) ≠ 10) (he : (j : Int) + (g j).off.toInt + 1 = (t : Int)) : landsM (mk n g) j = true := by
  unfold landsM
  rw [mk_at n g j hj]
  simp only
  split
  · rfl
  · unfold landX
    rw [he, Int.toNat_natCast, mk_at n g t ht]
    simp [h10]
theorem lands_plain (n : Nat) (g : Nat → Ins) (j : Nat) (hj : j < n) (h : kindM (g j) ≠ 2 ∧ kindM (g j) ≠ 3) : landsM (mk n g) j = true := by
  unfold landsM
  rw [mk_at n g j hj]
  simp only
  rw [if_pos h]
theorem checkC_t (l : List Ins) (h : checkM l = (0, 0)) (hr : ∀ j, j < l.length → rchM l j = true) (lp : Bool) : checkC l lp = if (!lp && loopsB l) = true then (0, 22) else (0, 0) := by
  unfold checkC
  rw [h, if_neg (by simp), firstBad_none (rchM l) l.length hr]
theorem checkC_bad (l : List Ins) (h : checkM l = (0, 0)) (k : Nat) (hk : k < l.length) (hb : rchM l k = false) (hp : ∀ j, j < k → rchM l j = true) (lp : Bool) : checkC l lp = (k, 22) := by
  unfold checkC
  rw [h, if_neg (by simp), firstBad_some (rchM l) l.length k hk hb hp]

/-! ### Lines -/
def gL (k j : Nat) : Ins := if j < k then pA else pB
theorem lines_nx (k j : Nat) (hj : j < k) : nxL (mk (k + 1) (gL k)) j = [((j : Int) + 1)] := by
  rw [mk_nx _ _ j (by omega), show gL k j = pA from if_pos hj, behind_pA]
  have : inL (k + 1) ((j : Int) + 1) = true := by unfold inL; rw [decide_eq_true (by omega), decide_eq_true (by omega)]; rfl
  simp [this]
theorem lines_end (k : Nat) : nxL (mk (k + 1) (gL k)) k = [] := by
  rw [mk_nx _ _ k (by omega), show gL k k = pB from if_neg (by omega), behind_pB]; rfl
theorem lines_kind (k j : Nat) : kindM (gL k j) = 1 ∨ kindM (gL k j) = 5 := by
  unfold gL; split
  · exact .inl kind_pA
  · exact .inr kind_pB
theorem lines_all (k : Nat) (_h1 : 1 ≤ k) (h2 : k ≤ 200) : (∀ j, j < (mk (k + 1) (gL k)).length → rchM (mk (k + 1) (gL k)) j = true) ∧ loopsB (mk (k + 1) (gL k)) = false ∧ checkC (mk (k + 1) (gL k)) false = (0, 0) := by
  have hk : ∀ j, kindM (gL k j) ≠ 10 ∧ kindM (gL k j) ≠ 2 ∧ kindM (gL k j) ≠ 3 := fun j => by rcases lines_kind k j with h | h <;> omega
  have hn : ∀ x, x < k → x + 1 ∈ nxM (mk (k + 1) (gL k)) x := fun x hx => by rw [mem_nxM, lines_nx k x hx]; simp
  have hi : ∀ x y, y ∈ nxM (mk (k + 1) (gL k)) x → x < y := by
    intro x y hy
    rw [mem_nxM] at hy
    rcases Nat.lt_trichotomy x k with h | h | h
    · rw [lines_nx k x h] at hy
      simp at hy; omega
    · subst h; rw [lines_end] at hy; simp at hy
    · rw [mk_nx0 _ _ x (by omega)] at hy; simp at hy
  have hr : ∀ j, j < (mk (k + 1) (gL k)).length → rchM (mk (k + 1) (gL k)) j = true := by
    intro j hj
    rw [rch_plain _ _ (fun j _ => (hk j).1)]
    rw [(walk_facts _ (by rw [mk_len]; omega)).1 j hj]
    rw [mk_len] at hj
    have := rch_up _ k hn 0 j (by omega)
    rwa [Nat.zero_add] at this
  have hlo : loopsB (mk (k + 1) (gL k)) = false := by
    cases hb : loopsB (mk (k + 1) (gL k)) with
    | false => rfl
    | true =>
      obtain ⟨u, -, v, hv, q, hq⟩ := (walk_facts _ (by rw [mk_len]; omega)).2.1 hb
      have h1 := hi u v hv
      have h2 := rch_le _ hi v q u hq
      omega
  refine ⟨hr, hlo, ?_⟩
  rw [checkC_t _ (check_ok _ _ (by omega) (by omega) (fun j nxt prv _ => by unfold gL; split; exact oneX_pA _ _; exact oneX_pB _ _) (fun j hj => lands_plain _ _ j hj (hk j).2) (by unfold gL; rw [if_neg (by omega)]; exact kind_pB)) hr, hlo]
  rfl

/-! ### Loops -/
def gO (k a : Nat) (o : BitVec 16) (j : Nat) : Ins := if j = k then pB else if j = a then pN o else pA
theorem loops_told (k a b : Nat) (h2 : k ≤ 200) (ha : a < k) (hb : b < k) (o : BitVec 16) (ho : o.toInt = (b : Int) - a - 1) :
    loopsB (mk (k + 1) (gO k a o)) = decide (b ≤ a) ∧ checkC (mk (k + 1) (gO k a o)) true = (0, 0) ∧ checkC (mk (k + 1) (gO k a o)) false = if b ≤ a then (0, 22) else (0, 0) := by
  have hka : gO k a o a = pN o := by unfold gO; rw [if_neg (by omega), if_pos rfl]
  have hkk : gO k a o k = pB := by unfold gO; rw [if_pos rfl]
  have hkj : ∀ j, j ≠ k → j ≠ a → gO k a o j = pA := fun j h1 h2 => by unfold gO; rw [if_neg h1, if_neg h2]
  have hk : ∀ j, kindM (gO k a o j) ≠ 10 := by
    intro j
    unfold gO
    split
    · rw [kind_pB]; omega
    · split
      · rw [kind_pN]; omega
      · rw [kind_pA]; omega
  have hoff : (pN o).off.toInt = (b : Int) - a - 1 := ho
  have hmem : ∀ x y, y ∈ nxM (mk (k + 1) (gO k a o)) x ↔ x < k ∧ (y = x + 1 ∨ (x = a ∧ y = b)) := by
    intro x y
    rw [mem_nxM]
    rcases Nat.lt_trichotomy x k with h | h | h
    · rw [mk_nx _ _ x (by omega), List.mem_filter]
      by_cases hx : x = a
      · subst hx
        rw [hka, behind_jump _ _ (kind_pN o), hoff]
        unfold inL
        simp
        omega
      · rw [hkj x (by omega) hx, behind_pA]
        unfold inL
        simp
        omega
    · subst h
      rw [mk_nx _ _ x (by omega), hkk, behind_pB]
      simp
    · rw [mk_nx0 _ _ x (by omega)]
      simp; omega
  have hn : ∀ x, x < k → x + 1 ∈ nxM (mk (k + 1) (gO k a o)) x := fun x hx => (hmem x (x + 1)).2 ⟨hx, .inl rfl⟩
  have hr : ∀ j, j < (mk (k + 1) (gO k a o)).length → rchM (mk (k + 1) (gO k a o)) j = true := by
    intro j hj
    rw [rch_plain _ _ (fun j _ => hk j)]
    rw [(walk_facts _ (by rw [mk_len]; omega)).1 j hj]
    rw [mk_len] at hj
    have := rch_up _ k hn 0 j (by omega)
    rwa [Nat.zero_add] at this
  have hlo : loopsB (mk (k + 1) (gO k a o)) = decide (b ≤ a) := by
    by_cases hba : b ≤ a
    · rw [decide_eq_true hba]
      refine (walk_facts _ (by rw [mk_len]; omega)).2.2 ⟨a, ?_, b, (hmem a b).2 ⟨ha, .inr ⟨rfl, rfl⟩⟩, ?_⟩
      · have := rch_up _ k hn 0 a (by omega)
        rwa [Nat.zero_add] at this
      · have := rch_up _ k hn b (a - b) (by omega)
        rwa [show b + (a - b) = a by omega] at this
    · rw [decide_eq_false hba]
      have hi : ∀ x y, y ∈ nxM (mk (k + 1) (gO k a o)) x → x < y := by
        intro x y hy
        have := (hmem x y).1 hy
        omega
      cases hb : loopsB (mk (k + 1) (gO k a o)) with
      | false => rfl
      | true =>
        obtain ⟨u, -, v, hv, q, hq⟩ := (walk_facts _ (by rw [mk_len]; omega)).2.1 hb
        have h1 := hi u v hv
        have h2 := rch_le _ hi v q u hq
        omega
  have hc : checkM (mk (k + 1) (gO k a o)) = (0, 0) := by
    refine check_ok _ _ (by omega) (by omega) (fun j nxt prv _ => ?_) (fun j hj => ?_) (by rw [show k + 1 - 1 = k by omega, hkk]; exact kind_pB)
    · unfold gO
      split
      · exact oneX_pB _ _
      · split
        · exact oneX_pN _ _ _
        · exact oneX_pA _ _
    · by_cases hx : j = a
      · subst hx
        exact lands_jump _ _ j b hj (by omega) (hk b) (by rw [hka, hoff]; omega)
      · refine lands_plain _ _ j hj ?_
        by_cases hjk : j = k
        · rw [hjk, hkk, kind_pB]; omega
        · rw [hkj j hjk hx, kind_pA]; omega
  refine ⟨hlo, ?_, ?_⟩
  · rw [checkC_t _ hc hr]; rfl
  · rw [checkC_t _ hc hr, hlo]
    by_cases h : b ≤ a <;> simp [h]

/-! ### Skips -/
def gS (k : Nat) (o p : BitVec 16) (j : Nat) : Ins := if j = 1 then pJ o else if j = k + 2 then pE p else if j = k + 3 then pB else pA
theorem skips_told (k b : Nat) (h1 : 1 ≤ k) (h2 : k ≤ 200) (hb : b < k) (o p : BitVec 16) (ho : o.toInt = (k : Int)) (hp : p.toInt = -((b : Int) + 2)) :
    checkC (mk (k + 4) (gS k o p)) true = if k ≤ b + 1 then (0, 0) else (2, 22) := by
  have e1 : gS k o p 1 = pJ o := by unfold gS; rw [if_pos rfl]
  have e2 : gS k o p (k + 2) = pE p := by unfold gS; rw [if_neg (by omega), if_pos rfl]
  have e3 : gS k o p (k + 3) = pB := by unfold gS; rw [if_neg (by omega), if_neg (by omega), if_pos rfl]
  have e0 : ∀ j, j ≠ 1 → j ≠ k + 2 → j ≠ k + 3 → gS k o p j = pA := fun j h1 h2 h3 => by unfold gS; rw [if_neg h1, if_neg h2, if_neg h3]
  have hk : ∀ j, kindM (gS k o p j) ≠ 10 := by
    intro j
    unfold gS
    split
    · rw [kind_pJ]; omega
    · split
      · rw [kind_pE]; omega
      · split
        · rw [kind_pB]; omega
        · rw [kind_pA]; omega
  have hmem : ∀ x y, y ∈ nxM (mk (k + 4) (gS k o p)) x ↔ x < k + 3 ∧ ((x = 1 ∧ y = k + 2) ∨ (x ≠ 1 ∧ y = x + 1) ∨ (x = k + 2 ∧ y = k + 1 - b)) := by
    intro x y
    rw [mem_nxM]
    by_cases hx : x < k + 4
    · rw [mk_nx _ _ x hx, List.mem_filter]
      by_cases hx1 : x = 1
      · subst hx1
        rw [e1, behind_pJ, ho]
        unfold inL
        simp
        omega
      · by_cases hx2 : x = k + 2
        · subst hx2
          rw [e2, behind_jump _ _ (kind_pE p), show (pE p).off.toInt = -((b : Int) + 2) from hp]
          unfold inL
          simp
          omega
        · by_cases hx3 : x = k + 3
          · subst hx3
            rw [e3, behind_pB]
            simp
          · rw [e0 x hx1 hx2 hx3, behind_pA]
            unfold inL
            simp
            omega
    · rw [mk_nx0 _ _ x (by omega)]
      simp; omega
  have hwf : ∀ j, j < k + 4 → (rchM (mk (k + 4) (gS k o p)) j = true ↔ Cf.Rch (nxM (mk (k + 4) (gS k o p))) 0 j) := by
    intro j hj
    rw [rch_plain _ _ (fun j _ => hk j)]
    exact (walk_facts _ (by rw [mk_len]; omega)).1 j (by rw [mk_len]; exact hj)
  have r1 : Cf.Rch (nxM (mk (k + 4) (gS k o p))) 0 1 := (Cf.Rch.here 0).step ((hmem 0 1).2 ⟨by omega, by omega⟩)
  have r2 : Cf.Rch (nxM (mk (k + 4) (gS k o p))) 0 (k + 2) := r1.step ((hmem 1 (k + 2)).2 ⟨by omega, .inl ⟨rfl, rfl⟩⟩)
  have r3 : Cf.Rch (nxM (mk (k + 4) (gS k o p))) 0 (k + 3) := r2.step ((hmem _ _).2 ⟨by omega, by omega⟩)
  have r4 : Cf.Rch (nxM (mk (k + 4) (gS k o p))) 0 (k + 1 - b) := r2.step ((hmem _ _).2 ⟨by omega, by omega⟩)
  have hc : checkM (mk (k + 4) (gS k o p)) = (0, 0) := by
    refine check_ok _ _ (by omega) (by omega) (fun j nxt prv _ => ?_) (fun j hj => ?_) (by rw [show k + 4 - 1 = k + 3 by omega, e3]; exact kind_pB)
    · unfold gS
      split
      · exact oneX_pJ _ _ _
      · split
        · exact oneX_pE _ _ _
        · split
          · exact oneX_pB _ _
          · exact oneX_pA _ _
    · by_cases hx1 : j = 1
      · subst hx1
        exact lands_jump _ _ 1 (k + 2) hj (by omega) (hk _) (by rw [e1, show (pJ o).off.toInt = (k : Int) from ho]; omega)
      · by_cases hx2 : j = k + 2
        · subst hx2
          exact lands_jump _ _ (k + 2) (k + 1 - b) hj (by omega) (hk _) (by rw [e2, show (pE p).off.toInt = -((b : Int) + 2) from hp]; omega)
        · refine lands_plain _ _ j hj ?_
          by_cases hx3 : j = k + 3
          · rw [hx3, e3, kind_pB]; omega
          · rw [e0 j hx1 hx2 hx3, kind_pA]; omega
  by_cases hkb : k ≤ b + 1
  · rw [if_pos hkb, checkC_t _ hc (fun j hj => ?_)]
    · rfl
    · rw [mk_len] at hj
      rw [hwf j hj]
      by_cases hj0 : j = 0
      · subst hj0; exact Cf.Rch.here 0
      by_cases hj1 : j = 1
      · subst hj1; exact r1
      by_cases hj3 : j = k + 3
      · subst hj3; exact r3
      have hup : ∀ d, 2 + d ≤ k + 2 → Cf.Rch (nxM (mk (k + 4) (gS k o p))) 0 (2 + d) := by
        intro d
        induction d with
        | zero => intro _; rw [show 2 + 0 = k + 1 - b by omega]; exact r4
        | succ d ih => intro hd; exact (ih (by omega)).step ((hmem _ _).2 ⟨by omega, by omega⟩)
      have := hup (j - 2) (by omega)
      rwa [show 2 + (j - 2) = j by omega] at this
  · rw [if_neg hkb, checkC_bad _ hc 2 (by rw [mk_len]; omega) ?_ (fun j hj => ?_)]
    · cases hq : rchM (mk (k + 4) (gS k o p)) 2 with
      | false => rfl
      | true =>
        obtain ⟨m, hm⟩ := (hwf 2 (by omega)).1 hq
        have := rch_in _ (fun j => j < 2 ∨ k + 1 - b ≤ j) (by omega) (fun x hx y hy => by
          have := (hmem x y).1 hy
          omega) m 2 hm
        omega
    · rw [hwf j (by omega)]
      rcases (show j = 0 ∨ j = 1 by omega) with rfl | rfl
      · exact Cf.Rch.here 0
      · exact r1
end Go.Proofs.Ytooifaakflphpaa
