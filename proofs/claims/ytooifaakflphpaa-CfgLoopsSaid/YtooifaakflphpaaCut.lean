/- A cut at a piece of code: what it leaves is named once, however many ways lead through it. No program in sight. -/
import Derived.Test.YtooifaakflphpaaHeld
namespace Go.Proofs.Ytooifaakflphpaa
open Go.RowKit
set_option maxRecDepth 100000

/-- From here on only 'R' of the state is known. -/
theorem wp_cut {P : Program} {c : Code} {Q : Exit → Act → World → Prop} {a : Act} {w : World} (R : Act → Act → World → Prop)
    (h1 : ∀ K : Exit → Act → World → Prop, Shut (∀ a' w', R a a' w' → K .normal a' w') → c.wp P K a w) (h2 : ∀ a' w', R a a' w' → Q .normal a' w') : c.wp P Q a w :=
  Code.wp_mono (Q := fun e a' w' => e = .normal ∧ R a a' w') (fun _ a' w' h => by obtain ⟨rfl, h⟩ := h; exact h2 a' w' h) (h1 _ fun _ _ h => ⟨rfl, h⟩)

/-- A region of a code, by its number. -/
def regionAt (n : Nat) : Code → Option (Array Oper × Bool)
  | .region id ops d => if id = n then some (ops, d) else none
  | .seq a b => (regionAt n a).or (regionAt n b)
  | .cond _ a b => (regionAt n a).or (regionAt n b)
  | .block _ b => regionAt n b
  | .loop b => regionAt n b
  | .scope b => regionAt n b
  | .rangeFunc _ _ a b => (regionAt n a).or (regionAt n b)
  | _ => none

end Go.Proofs.Ytooifaakflphpaa
