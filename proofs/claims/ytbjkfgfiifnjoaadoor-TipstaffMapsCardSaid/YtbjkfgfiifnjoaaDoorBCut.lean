/- The first bytes of an argument. (The first part of DParts, for seats without DigestParts.) -/
import Derived.Test.YtbjkfgfiifnjoaaDoorDArgs
namespace Go.Proofs.YtbjkfgfiifnjoaaDoor
open Go.RowKit
set_option maxRecDepth 100000

def cutOf (m : Nat) : Value → Value
  | .slice a n c => .slice a (min n m) c
  | v => v

theorem BytesArg.cut {w : World} {v : Value} {b : List UInt8} (h : BytesArg w v b) (m : Nat) : Reads w (cutOf m v) 1 (b.take m).length (bytesV (b.take m)) := by
  obtain ⟨ao, c, rfl, hc, hm, ao', c', he, hl, hn, hr⟩ := h
  cases he
  refine ⟨ao, c, by simp [cutOf, Nat.min_comm], by simp [bytesV], fun e => ?_, fun ad e j u hu => hr ad e j u ?_⟩
  · have := hn e
    simp only [List.length_take]
    exact ⟨by omega, this.2⟩
  · unfold bytesV at hu ⊢
    rw [List.map_take, List.getElem?_take] at hu
    split at hu
    · exact hu
    · cases hu

theorem bytes_of_flat : ∀ (n : Nat) {cs : List Value}, Flat (List.replicate n (.int .u8)) cs → ∃ m : List UInt8, m.length = n ∧ cs = bytesV m
  | 0, _, h => ⟨[], rfl, h⟩
  | n + 1, _, ⟨v, r, e, ⟨z, hz, hw⟩, h⟩ => by
    obtain ⟨m, hm, rfl⟩ := bytes_of_flat n h
    subst hz e
    have b1 : 0 ≤ z ∧ z ≤ 255 := by simp [Lit.wf] at hw; first | exact hw | (simp [IntKind.min, IntKind.max] at hw; omega)
    refine ⟨UInt8.ofNat z.toNat :: m, by simp [hm], ?_⟩
    simp [bytesV]; omega

theorem flat_bytes {n : Nat} {a : Array Value} (h : Flat (List.replicate n (.int .u8)) a.toList) : ∃ b : List UInt8, b.length = n ∧ a = (bytesV b).toArray := by
  obtain ⟨b, hb, e⟩ := bytes_of_flat n h
  exact ⟨b, hb, by apply Array.toList_inj.1; rw [e]⟩
end Go.Proofs.YtbjkfgfiifnjoaaDoor
