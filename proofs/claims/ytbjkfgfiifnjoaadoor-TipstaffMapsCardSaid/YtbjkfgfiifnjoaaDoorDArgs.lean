/- Arguments of bytes: a slice of bytes, a slice of slices of bytes. No function in sight. -/
import Derived.Test.YtbjkfgfiifnjoaaDoorJoined
import Derived.Test.YtbjkfgfiifnjoaaDoorFlat
namespace Go.Proofs.YtbjkfgfiifnjoaaDoor
open Go.RowKit
set_option maxRecDepth 100000

/-- A slice of bytes that came in. -/
def BytesArg (w : World) (v : Value) (b : List UInt8) : Prop :=
  ∃ ao c, v = .slice ao b.length c ∧ b.length ≤ c ∧ c ≤ maxLen ∧ Reads w v 1 b.length (bytesV b)

theorem BytesArg.ext {w w' : World} {v : Value} {b : List UInt8} (h : BytesArg w v b) (x : Ext [] w w') : BytesArg w' v b := by
  obtain ⟨ao, c, h1, h2, h3, h4⟩ := h
  exact ⟨ao, c, h1, h2, h3, h4.ext x⟩

section
variable {H : Type} {enc : TypeId × Value → H} {P : Program} {w : World} {base : Nat} {held : Bool}

theorem bytes_of_trod {t e : TypeId} {fuel : Nat} {v : Value} {x : DataW H × List MemPlace} (ht : P.underlying t = some (.slice e)) (hc : P.cellsOf e = 1) (he : P.underlying e = some (.int .u8))
    (h : DataW.trod enc P w base (fun _ => true) held fuel t [v] = some x) : ∃ b, BytesArg w v b := by
  rcases Go.Deep.open_slice1 ht hc h with ⟨hcs, -⟩ | ⟨a, len, cap, m, n, V, D, Pl, hcs, -, hl, hm, hmm, -, hx⟩
  · obtain rfl := (List.cons.inj hcs).1
    exact ⟨[], none, 0, rfl, Nat.le_refl _, by unfold maxLen; omega, none, 0, rfl, rfl, fun _ => ⟨rfl, rfl⟩, fun ad e => by cases e⟩
  · obtain rfl := (List.cons.inj hcs).1
    simp at hmm
    subst hmm
    have hb : ∀ i, i < len → ∃ b : UInt8, w.cell? (a.add i) = some (.int .u8 (b.toNat : Int)) := by
      intro i hi
      obtain ⟨h1, h2⟩ := hx i (by omega)
      obtain ⟨z, hz, -, hw⟩ := DataW.trod_int he h2
      have hzz : 0 ≤ z ∧ z ≤ 255 := by
        simp [Lit.wf] at hw
        first | exact hw | (simp [IntKind.min, IntKind.max] at hw; omega)
      refine ⟨UInt8.ofNat z.toNat, ?_⟩
      rw [byte_val, h1]
      rw [(List.cons.inj hz).1]
      rw [show ((z.toNat : Nat) : Int) % 256 = z by omega]
    let f : Nat → UInt8 := fun i => if hi : i < len then Classical.choose (hb i hi) else 0
    refine ⟨(List.range len).map f, some a, m, by simp, by simpa using hl, hm, some a, m, by simp, by simp [bytesV], (fun e => by cases e), fun ad e j u hu => ?_⟩
    obtain rfl := Option.some.inj e
    unfold bytesV at hu
    have hj : j < len := by have := (List.getElem?_eq_some_iff.1 hu).1; simpa using this
    have hf : f j = Classical.choose (hb j hj) := by simp [f, hj]
    rw [Classical.choose_spec (hb j hj), ← hf]
    simpa [hj] using hu

/-- A slice of slices of bytes that came in. -/
def PartsArg (w : World) (v : Value) (bs : List (List UInt8)) : Prop :=
  ∃ ao c, ∃ vs : List Value, v = .slice ao bs.length c ∧ bs.length ≤ maxLen ∧ vs.length = bs.length ∧ Reads w v 1 vs.length vs ∧ ∀ i u, vs[i]? = some u → BytesArg w u (bs.getD i [])

theorem parts_of_trod {t s e : TypeId} {fuel : Nat} {v : Value} {x : DataW H × List MemPlace} (ht : P.underlying t = some (.slice s)) (hs : P.underlying s = some (.slice e)) (hsc : P.cellsOf s = 1) (hc : P.cellsOf e = 1) (he : P.underlying e = some (.int .u8))
    (h : DataW.trod enc P w base (fun _ => true) held fuel t [v] = some x) : ∃ bs, PartsArg w v bs := by
  rcases Go.Deep.open_slice1 ht hsc h with ⟨hcs, -⟩ | ⟨a, len, cap, m, n, V, D, Pl, hcs, -, hl, hm, hmm, -, hx⟩
  · obtain rfl := (List.cons.inj hcs).1
    exact ⟨[], none, 0, [], rfl, by simp [maxLen], rfl, ⟨none, 0, rfl, rfl, fun _ => ⟨rfl, rfl⟩, fun ad e => by cases e⟩, fun i u hu => by simp at hu⟩
  · obtain rfl := (List.cons.inj hcs).1
    simp at hmm
    subst hmm
    have hb : ∀ i, i < len → ∃ b, BytesArg w (V i) b := fun i hi => bytes_of_trod hs hc he (hx i (by omega)).2
    let f : Nat → List UInt8 := fun i => if hi : i < len then Classical.choose (hb i hi) else []
    refine ⟨(List.range len).map f, some a, m, (List.range len).map V, by simp, by simp; omega, by simp, ⟨some a, m, by simp, by simp, (fun e => by cases e), fun ad e j u hu => ?_⟩, fun i u hu => ?_⟩
    · obtain rfl := Option.some.inj e
      have hj : j < len := by have := (List.getElem?_eq_some_iff.1 hu).1; simpa using this
      rw [(hx j (by omega)).1]
      simpa [hj] using hu
    · have hj : i < len := by have := (List.getElem?_eq_some_iff.1 hu).1; simpa using this
      have hf : f i = Classical.choose (hb i hj) := by simp [f, hj]
      simp [hj] at hu
      subst hu
      have : ((List.range len).map f).getD i [] = f i := by simp [List.getD, hj]
      rw [this, hf]
      exact Classical.choose_spec (hb i hj)
end

theorem be8_small (n : Nat) (h : n < 256) : be8 n = [0, 0, 0, 0, 0, 0, 0, UInt8.ofNat n] := by
  have h' : ∀ n : Fin 256, be8 n.val = [0, 0, 0, 0, 0, 0, 0, UInt8.ofNat n.val] := by decide +kernel
  exact h' ⟨n, h⟩

end Go.Proofs.YtbjkfgfiifnjoaaDoor
