/- A walk from place to place, by colours: what it finds. No program in sight. -/
namespace Go.Proofs.Ytooifaakflphpaa.Cf
/-- So many steps from a place to another one. -/
def RchN (nx : Nat → List Nat) (a : Nat) : Nat → Nat → Prop
  | 0, b => a = b
  | k + 1, c => ∃ b, RchN nx a k b ∧ c ∈ nx b
/-- One may be come to from another one. -/
def Rch (nx : Nat → List Nat) (a b : Nat) : Prop := ∃ k, RchN nx a k b
theorem Rch.here {nx : Nat → List Nat} (a : Nat) : Rch nx a a := ⟨0, rfl⟩
theorem Rch.step {nx : Nat → List Nat} {a b c : Nat} (h : Rch nx a b) (hc : c ∈ nx b) : Rch nx a c := by
  obtain ⟨k, hk⟩ := h
  exact ⟨k + 1, b, hk, hc⟩
theorem Rch.transN {nx : Nat → List Nat} {a b : Nat} (h : Rch nx a b) : ∀ (k : Nat) (c : Nat), RchN nx b k c → Rch nx a c
  | 0, _, e => e ▸ h
  | k + 1, _, ⟨d, hd, hc⟩ => (Rch.transN h k d hd).step hc
theorem Rch.trans {nx : Nat → List Nat} {a b c : Nat} (h : Rch nx a b) (k : Rch nx b c) : Rch nx a c := by
  obtain ⟨m, hm⟩ := k
  exact h.transN m c hm

abbrev St := List Nat × Bool
def stepV (g : Nat → St → St) (s : St) (n : Nat) : St :=
  if s.1.getD n 0 = 1 then (s.1, true) else if s.1.getD n 0 = 0 then g n s else s
def visF (nx : Nat → List Nat) : Nat → Nat → St → St
  | 0, _, s => s
  | f + 1, a, s => (((nx a).foldl (stepV (visF nx f)) (s.1.set a 1, s.2)).1.set a 2, ((nx a).foldl (stepV (visF nx f)) (s.1.set a 1, s.2)).2)

def fresh (c : List Nat) : Nat := (c.filter fun x => x == 0).length
def Cl (nx : Nat → List Nat) (c : List Nat) : Prop := ∀ u, c.getD u 0 = 2 → ∀ v ∈ nx u, c.getD v 0 ≠ 0
def Rk (nx : Nat → List Nat) (c : List Nat) : Prop := ∃ r : Nat → Nat, ∀ u, c.getD u 0 = 2 → ∀ v ∈ nx u, c.getD v 0 = 2 ∧ r v < r u
def Cyc (nx : Nat → List Nat) (a : Nat) : Prop := ∃ u, Rch nx a u ∧ ∃ v ∈ nx u, Rch nx v u

structure VP (nx : Nat → List Nat) (a : Nat) (s s' : St) : Prop where
  len : s'.1.length = s.1.length
  old : ∀ i, s.1.getD i 0 ≠ 0 → s'.1.getD i 0 = s.1.getD i 0
  new : ∀ i, s.1.getD i 0 = 0 → s'.1.getD i 0 = 0 ∨ s'.1.getD i 0 = 2
  rch : ∀ i, s.1.getD i 0 = 0 → s'.1.getD i 0 ≠ 0 → Rch nx a i
  mono : s.2 = true → s'.2 = true
  cyc : (∀ o, s.1.getD o 0 = 1 → Rch nx o a) → s'.2 = true → s.2 = true ∨ Cyc nx a
  cl : Cl nx s.1 → Cl nx s'.1
  rk : s'.2 = false → Rk nx s.1 → Rk nx s'.1

theorem VP.refl (nx : Nat → List Nat) (a : Nat) (s : St) : VP nx a s s :=
  ⟨rfl, fun _ _ => rfl, fun _ h => .inl h, fun _ h k => absurd h k, id, fun _ h => .inl h, id, fun _ h => h⟩
theorem VP.open {nx : Nat → List Nat} {a : Nat} {s s' : St} (h : VP nx a s s') {o : Nat} (ho : s'.1.getD o 0 = 1) : s.1.getD o 0 = 1 := by
  by_cases h0 : s.1.getD o 0 = 0
  · rcases h.new o h0 with h1 | h1 <;> omega
  · rw [← h.old o h0]; exact ho
theorem VP.trans {nx : Nat → List Nat} {a : Nat} {s t u : St} (h : VP nx a s t) (k : VP nx a t u) : VP nx a s u := by
  refine ⟨k.len.trans h.len, fun i hi => ?_, fun i hi => ?_, fun i hi hu => ?_, fun e => k.mono (h.mono e), fun ho e => ?_, fun e => k.cl (h.cl e), fun e r => ?_⟩
  · rw [k.old i (by rw [h.old i hi]; exact hi), h.old i hi]
  · by_cases h0 : t.1.getD i 0 = 0
    · exact k.new i h0
    · rw [k.old i h0]; exact h.new i hi
  · by_cases h0 : t.1.getD i 0 = 0
    · exact k.rch i h0 hu
    · exact h.rch i hi h0
  · rcases k.cyc (fun o hq => ho o (h.open hq)) e with e | e
    · exact h.cyc ho e
    · exact .inr e
  · have ht : t.2 = false := by
      cases hb : t.2 with
      | false => rfl
      | true => rw [k.mono hb] at e; cases e
    exact k.rk e (h.rk ht r)
theorem Cyc.from {nx : Nat → List Nat} {a b : Nat} (h : Rch nx a b) (k : Cyc nx b) : Cyc nx a := by
  obtain ⟨u, hu, v⟩ := k
  exact ⟨u, h.trans hu, v⟩
/-- From one that is behind. -/
theorem VP.at {nx : Nat → List Nat} {a n : Nat} {s s' : St} (h : VP nx n s s') (hn : n ∈ nx a) : VP nx a s s' :=
  ⟨h.len, h.old, h.new, fun i h0 h1 => ((Rch.here a).step hn).trans (h.rch i h0 h1), h.mono, fun ho e => (h.cyc (fun o hq => (ho o hq).step hn) e).imp id fun c => c.from ((Rch.here a).step hn), h.cl, h.rk⟩

theorem getD_set (c : List Nat) (a i v : Nat) : (c.set a v).getD i 0 = if a = i ∧ i < c.length then v else c.getD i 0 := by
  simp only [List.getD_eq_getElem?_getD, List.getElem?_set]
  by_cases h : a = i
  · subst h
    by_cases hl : a < c.length
    · simp [hl]
    · simp [hl]
  · simp [h]

theorem fresh_set (c : List Nat) (a : Nat) (v : Nat) (hv : v ≠ 0) (h0 : c.getD a 0 = 0) (hl : a < c.length) : fresh (c.set a v) + 1 = fresh c := by
  induction c generalizing a with
  | nil => simp at hl
  | cons x c ih =>
    cases a with
    | zero =>
      have hx : x = 0 := by simpa using h0
      subst hx
      simp [fresh, hv]
    | succ a =>
      have := ih a (by simpa using h0) (by simpa using hl)
      by_cases hx : x = 0
      · subst hx; simp [fresh] at this ⊢; omega
      · simp [fresh, hx] at this ⊢; omega
theorem fresh_le : ∀ (c d : List Nat), d.length = c.length → (∀ i, c.getD i 0 ≠ 0 → d.getD i 0 ≠ 0) → fresh d ≤ fresh c
  | [], [], _, _ => Nat.le_refl _
  | [], _ :: _, h, _ => by simp at h
  | _ :: _, [], h, _ => by simp at h
  | x :: c, y :: d, h, hi => by
    have ih := fresh_le c d (by simpa using h) (fun i h => by simpa using hi (i + 1) (by simpa using h))
    have h0 := hi 0
    simp at h0
    by_cases hx : x = 0
    · subst hx
      by_cases hy : y = 0
      · subst hy; simp [fresh] at ih ⊢; omega
      · simp [fresh, hy] at ih ⊢; omega
    · have hy := h0 hx
      simp [fresh, hx, hy] at ih ⊢; omega
theorem le_top (r : Nat → Nat) : ∀ (l : List Nat) (v : Nat), v ∈ l → r v ≤ l.foldr (fun x m => max (r x) m) 0
  | [], _, h => by simp at h
  | x :: l, v, h => by
    rcases List.mem_cons.1 h with rfl | h
    · simp; omega
    · have := le_top r l v h; simp; omega

theorem VP.bnd {nx : Nat → List Nat} {a : Nat} {s s' : St} (h : VP nx a s s') (hb : ∀ i, s.1.getD i 0 ≤ 2) (i : Nat) : s'.1.getD i 0 ≤ 2 := by
  by_cases h0 : s.1.getD i 0 = 0
  · rcases h.new i h0 with e | e <;> omega
  · rw [h.old i h0]; exact hb i
/-- The round over those behind one. -/
theorem vis_list (nx : Nat → List Nat) (f a N : Nat)
    (ih : ∀ n s, s.1.length = N → (∀ i, s.1.getD i 0 ≤ 2) → s.1.getD n 0 = 0 → n < s.1.length → fresh s.1 ≤ f → VP nx n s (visF nx f n s) ∧ (visF nx f n s).1.getD n 0 = 2) :
    ∀ (ns : List Nat) (s : St), s.1.length = N → (∀ i, s.1.getD i 0 ≤ 2) → (∀ n ∈ ns, n ∈ nx a ∧ n < s.1.length) → s.1.getD a 0 = 1 → fresh s.1 ≤ f →
      VP nx a s (ns.foldl (stepV (visF nx f)) s) ∧ (∀ n ∈ ns, (ns.foldl (stepV (visF nx f)) s).1.getD n 0 ≠ 0 ∧ ((ns.foldl (stepV (visF nx f)) s).2 = false → (ns.foldl (stepV (visF nx f)) s).1.getD n 0 = 2))
  | [], s, _, _, _, _, _ => ⟨VP.refl _ _ _, by simp⟩
  | n :: ns, s, hN, hb, hn, ha, hf => by
    obtain ⟨h1, h2⟩ := hn n (by simp)
    have key : VP nx a s (stepV (visF nx f) s n) ∧ (stepV (visF nx f) s n).1.getD n 0 ≠ 0 ∧ ((stepV (visF nx f) s n).2 = false → (stepV (visF nx f) s n).1.getD n 0 = 2) := by
      unfold stepV
      by_cases c1 : s.1.getD n 0 = 1
      · rw [if_pos c1]
        exact ⟨⟨rfl, fun _ _ => rfl, fun _ h => .inl h, fun _ h k => absurd h k, fun _ => rfl, fun ho _ => .inr ⟨a, Rch.here a, n, h1, ho n c1⟩, id, fun e => by cases e⟩, by rw [c1]; omega, fun e => by cases e⟩
      · rw [if_neg c1]
        by_cases c0 : s.1.getD n 0 = 0
        · rw [if_pos c0]
          obtain ⟨k1, k2⟩ := ih n s hN hb c0 h2 hf
          exact ⟨k1.at h1, by rw [k2]; omega, fun _ => k2⟩
        · rw [if_neg c0]
          exact ⟨VP.refl _ _ _, c0, fun _ => by have := hb n; omega⟩
    obtain ⟨k1, k2, k3⟩ := key
    rw [List.foldl_cons]
    obtain ⟨r1, r2⟩ := vis_list nx f a N ih ns (stepV (visF nx f) s n) (k1.len.trans hN) (k1.bnd hb) (fun m hm => by rw [k1.len]; exact hn m (by simp [hm])) (by rw [k1.old a (by omega)]; exact ha)
      (Nat.le_trans (fresh_le _ _ k1.len (fun i hi => by rw [k1.old i hi]; exact hi)) hf)
    refine ⟨k1.trans r1, fun m hm => ?_⟩
    rcases List.mem_cons.1 hm with rfl | hm
    · refine ⟨by rw [r1.old _ k2]; exact k2, fun e => ?_⟩
      rw [r1.old _ k2]
      refine k3 ?_
      cases hq : (stepV (visF nx f) s m).2 with
      | false => rfl
      | true => rw [r1.mono hq] at e; cases e
    · exact r2 m hm

theorem vis_all (nx : Nat → List Nat) : ∀ (f a : Nat) (s : St), (∀ x y, y ∈ nx x → y < s.1.length) → (∀ i, s.1.getD i 0 ≤ 2) → s.1.getD a 0 = 0 → a < s.1.length → fresh s.1 ≤ f →
    VP nx a s (visF nx f a s) ∧ (visF nx f a s).1.getD a 0 = 2
  | 0, a, s, _, _, h0, hl, hf => by
    have := fresh_set s.1 a 1 (by omega) h0 hl
    omega
  | f + 1, a, s, hr, hb, h0, hl, hf => by
    have hfs := fresh_set s.1 a 1 (by omega) h0 hl
    have g : ∀ i, (s.1.set a 1).getD i 0 = if a = i then 1 else s.1.getD i 0 := by
      intro i
      rw [getD_set]
      by_cases h : a = i
      · subst h; simp [hl]
      · simp [h]
    have hb' : ∀ i, (s.1.set a 1).getD i 0 ≤ 2 := by
      intro i; rw [g]; split
      · omega
      · exact hb i
    obtain ⟨k1, k2⟩ := vis_list nx f a s.1.length (fun n t hlen hbt h0t hlt hft => vis_all nx f n t (fun x y hy => by rw [hlen]; exact hr x y hy) hbt h0t hlt hft) (nx a) (s.1.set a 1, s.2) (by simp) hb'
      (fun n hn => ⟨hn, by simpa using hr a n hn⟩) (by have := g a; simpa using this) (show fresh (s.1.set a 1) ≤ f by omega)
    unfold visF
    generalize (nx a).foldl (stepV (visF nx f)) (s.1.set a 1, s.2) = r at k1 k2 ⊢
    have hlr : r.1.length = s.1.length := by have := k1.len; simpa using this
    have gr : ∀ i, (r.1.set a 2).getD i 0 = if a = i then 2 else r.1.getD i 0 := by
      intro i
      rw [getD_set]
      by_cases h : a = i
      · subst h; rw [if_pos ⟨rfl, by rw [hlr]; exact hl⟩, if_pos rfl]
      · rw [if_neg (fun e => h e.1), if_neg h]
    have hra : r.1.getD a 0 = 1 := by
      have h1 := g a
      rw [if_pos rfl] at h1
      have := k1.old a (by show (s.1.set a 1).getD a 0 ≠ 0; omega)
      exact this.trans h1
    have old := k1.old
    have new := k1.new
    have rch := k1.rch
    have hcl : ∀ u, (s.1.set a 1).getD u 0 = 2 ↔ s.1.getD u 0 = 2 := by
      intro u
      rw [g]
      by_cases h : a = u
      · subst h; rw [if_pos rfl, h0]; omega
      · rw [if_neg h]
    refine ⟨⟨by simp [hlr], fun i hi => ?_, fun i hi => ?_, fun i hi hu => ?_, k1.mono, fun ho e => ?_, fun hc u hu v hv => ?_, fun e hk => ?_⟩, by rw [gr]; simp⟩
    · show (r.1.set a 2).getD i 0 = _
      have hne : a ≠ i := by rintro rfl; exact hi h0
      have h1 := g i
      rw [if_neg hne] at h1
      rw [gr, if_neg hne, old i (by show (s.1.set a 1).getD i 0 ≠ 0; rw [h1]; exact hi)]
      exact h1
    · show (r.1.set a 2).getD i 0 = 0 ∨ (r.1.set a 2).getD i 0 = 2
      rw [gr]
      by_cases h : a = i
      · simp [h]
      · rw [if_neg h]
        refine new i ?_
        show (s.1.set a 1).getD i 0 = 0
        rw [g, if_neg h]; exact hi
    · change (r.1.set a 2).getD i 0 ≠ 0 at hu
      rw [gr] at hu
      by_cases h : a = i
      · subst h; exact Rch.here _
      · rw [if_neg h] at hu
        refine rch i ?_ hu
        show (s.1.set a 1).getD i 0 = 0
        rw [g, if_neg h]; exact hi
    · refine k1.cyc (fun o hq => ?_) e
      change (s.1.set a 1).getD o 0 = 1 at hq
      rw [g] at hq
      by_cases h : a = o
      · subst h; exact Rch.here _
      · rw [if_neg h] at hq; exact ho o hq
    · change (r.1.set a 2).getD u 0 = 2 at hu
      show (r.1.set a 2).getD v 0 ≠ 0
      rw [gr] at hu ⊢
      by_cases hva : a = v
      · simp [hva]
      rw [if_neg hva]
      by_cases h : a = u
      · subst h; exact (k2 v hv).1
      · rw [if_neg h] at hu
        refine k1.cl (fun x hx y hy => ?_) u hu v hv
        have h2 := hc x ((hcl x).1 hx) y hy
        show (s.1.set a 1).getD y 0 ≠ 0
        rw [g]; split
        · omega
        · exact h2
    · obtain ⟨q, hq⟩ := k1.rk e (by
        obtain ⟨q, hq⟩ := hk
        refine ⟨q, fun u hu v hv => ?_⟩
        have h2 := hq u ((hcl u).1 hu) v hv
        exact ⟨(hcl v).2 h2.1, h2.2⟩)
      refine ⟨fun u => if u = a then (nx a).foldr (fun x m => max (q x) m) 0 + 1 else q u, fun u hu v hv => ?_⟩
      change (r.1.set a 2).getD u 0 = 2 at hu
      show (r.1.set a 2).getD v 0 = 2 ∧ _
      rw [gr] at hu ⊢
      have hv2 : r.1.getD v 0 = 2 := by
        by_cases h : a = u
        · subst h; exact (k2 v hv).2 e
        · rw [if_neg h] at hu; exact (hq u hu v hv).1
      have hva : ¬ a = v := by rintro rfl; omega
      rw [if_neg hva]
      refine ⟨hv2, ?_⟩
      show (if v = a then _ else q v) < (if u = a then (nx a).foldr (fun x m => max (q x) m) 0 + 1 else q u)
      rw [if_neg (fun h : v = a => hva h.symm)]
      by_cases h : u = a
      · subst h
        rw [if_pos rfl]
        have := le_top q (nx u) v hv
        omega
      · rw [if_neg h]
        rw [if_neg (fun e => h e.symm)] at hu
        exact (hq u hu v hv).2

/-- What a walk from the first place finds. -/
theorem walk_fresh (nx : Nat → List Nat) (n : Nat) (hn : 0 < n) (hr : ∀ x y, y ∈ nx x → y < n) :
    (visF nx n 0 (List.replicate n 0, false)).1.length = n ∧
    (∀ i, i < n → (visF nx n 0 (List.replicate n 0, false)).1.getD i 0 = 0 ∨ (visF nx n 0 (List.replicate n 0, false)).1.getD i 0 = 2) ∧
    (∀ i, i < n → ((visF nx n 0 (List.replicate n 0, false)).1.getD i 0 = 2 ↔ Rch nx 0 i)) ∧
    ((visF nx n 0 (List.replicate n 0, false)).2 = true ↔ Cyc nx 0) := by
  have gz : ∀ i, (List.replicate n 0).getD i 0 = 0 := by
    intro i
    rw [List.getD_eq_getElem?_getD, List.getElem?_replicate]
    split <;> rfl
  have hfr : ∀ k, fresh (List.replicate k 0) = k := by
    intro k
    simp [fresh]
  obtain ⟨k1, k2⟩ := vis_all nx n 0 (List.replicate n 0, false) (by simpa using hr) (by intro i; show (List.replicate n 0).getD i 0 ≤ 2; rw [gz]; omega) (gz 0) (by simpa using hn) (by show fresh (List.replicate n 0) ≤ n; rw [hfr]; omega)
  generalize visF nx n 0 (List.replicate n 0, false) = s at k1 k2 ⊢
  have hcl := k1.cl (by intro u hu; change (List.replicate n 0).getD u 0 = 2 at hu; rw [gz] at hu; cases hu)
  have hnew : ∀ i, s.1.getD i 0 = 0 ∨ s.1.getD i 0 = 2 := fun i => k1.new i (gz i)
  have all : ∀ k c, RchN nx 0 k c → s.1.getD c 0 = 2 := by
    intro k
    induction k with
    | zero => intro c e; rw [← show 0 = c from e]; exact k2
    | succ k ih =>
      rintro c ⟨b, hb, hc⟩
      have := hcl b (ih b hb) c hc
      rcases hnew c with e | e
      · exact absurd e this
      · exact e
  refine ⟨by rw [k1.len]; simp, fun i _ => hnew i, fun i _ => ⟨fun e => k1.rch i (gz i) (by omega), fun ⟨k, hk⟩ => all k i hk⟩, fun e => ?_, fun ⟨u, hu, v, hv, hvu⟩ => ?_⟩
  · rcases k1.cyc (fun o ho => by change (List.replicate n 0).getD o 0 = 1 at ho; rw [gz] at ho; cases ho) e with e | e
    · cases e
    · exact e
  · cases hs : s.2 with
    | true => rfl
    | false =>
      exfalso
      obtain ⟨q, hq⟩ := k1.rk hs ⟨fun _ => 0, fun u hu => by change (List.replicate n 0).getD u 0 = 2 at hu; rw [gz] at hu; cases hu⟩
      obtain ⟨ku, hu⟩ := hu
      have h2 := all ku u hu
      obtain ⟨h3, h4⟩ := hq u h2 v hv
      have down : ∀ k c, RchN nx v k c → s.1.getD c 0 = 2 ∧ q c ≤ q v := by
        intro k
        induction k with
        | zero => intro c e; rw [← show v = c from e]; exact ⟨h3, Nat.le_refl _⟩
        | succ k ih =>
          rintro c ⟨b, hb, hc⟩
          obtain ⟨i1, i2⟩ := ih b hb
          obtain ⟨i3, i4⟩ := hq b i1 c hc
          exact ⟨i3, by omega⟩
      obtain ⟨kv, hkv⟩ := hvu
      have := (down kv u hkv).2
      omega
end Go.Proofs.Ytooifaakflphpaa.Cf
