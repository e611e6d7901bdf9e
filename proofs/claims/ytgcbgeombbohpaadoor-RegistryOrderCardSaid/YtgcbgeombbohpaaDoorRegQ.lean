/- The law RegistryOrder, of the seeds [0] to [3]. -/
import Derived.Test.YtgcbgeombbohpaaDoorRegP0
import Derived.Test.YtgcbgeombbohpaaDoorRegP1
import Derived.Test.YtgcbgeombbohpaaDoorRegP2
import Derived.Test.YtgcbgeombbohpaaDoorRegP3
import Derived.Test.YtgcbgeombbohpaaDoorRegO
namespace Go.Proofs.YtgcbgeombbohpaaDoor
open Go.RowKit
def hdO (k : Nat) : Nat := if k = 0 then 14 else if k = 1 then 161 else if k = 2 then 202 else 200
theorem hdO_key (k : Nat) (hk : k < 4) : ((keyB [UInt8.ofNat k]).getD 0 0).toNat = hdO k := by
  have h0 := key_head [0] 14 keyN_0
  have h1 := key_head [1] 161 keyN_1
  have h2 := key_head [2] 202 keyN_2
  have h3 := key_head [3] 200 keyN_3
  rcases (by omega : k = 0 ∨ k = 1 ∨ k = 2 ∨ k = 3) with rfl | rfl | rfl | rfl
  · rw [show UInt8.ofNat 0 = (0 : UInt8) from rfl, h0]; rfl
  · rw [show UInt8.ofNat 1 = (1 : UInt8) from rfl, h1]; rfl
  · rw [show UInt8.ofNat 2 = (2 : UInt8) from rfl, h2]; rfl
  · rw [show UInt8.ofNat 3 = (3 : UInt8) from rfl, h3]; rfl
theorem hdO_ne (i k : Nat) (h : i ≠ k) (hi : i < 4) (hk : k < 4) : keyB [UInt8.ofNat i] ≠ keyB [UInt8.ofNat k] := by
  intro e
  have h1 := hdO_key i hi
  have h2 := hdO_key k hk
  rw [e, h2] at h1
  clear e h2
  rcases (by omega : i = 0 ∨ i = 1 ∨ i = 2 ∨ i = 3) with rfl | rfl | rfl | rfl <;> rcases (by omega : k = 0 ∨ k = 1 ∨ k = 2 ∨ k = 3) with rfl | rfl | rfl | rfl <;> first | exact h rfl | (exact absurd h1 (by decide))
theorem order_walk (sum : List UInt8) (a1 : Option Addr) (len1 cap1 : Nat) (z1 : List Int) (w : World) (G : DigG w) (hsl : sum.length = 32) (r1 : IsRow .i64 w a1 len1 cap1 z1) :
    Calls Tryd.prog 3 #[.agg (bytesV sum).toArray, .slice a1 len1 cap1] w fun e w' => e = .returned (.bool true) ∧ Ext [] w w' := by
  have hne := hdO_ne
  obtain ⟨KK, hKK⟩ : ∃ KK : Nat → List UInt8, ∀ k, KK k = keyB [UInt8.ofNat k] := ⟨fun k => keyB [UInt8.ofNat k], fun _ => rfl⟩
  obtain ⟨SG, hSG⟩ : ∃ SG : Nat → List UInt8, ∀ k, SG k = signL [UInt8.ofNat k] sum 32 := ⟨fun k => signL [UInt8.ofNat k] sum 32, fun _ => rfl⟩
  refine order_core w sum KK SG G hsl a1 len1 cap1 z1 r1 (Lib.hid fun k hk v w' x' hr => ?_) (Lib.hid fun k hk v w' x' hr => ?_) (Lib.hid fun k => ?_) (Lib.hid fun k => ?_) (Lib.hid fun i k hi hk => ?_) (Lib.hid fun k hk i hi => ?_)
  · have h := lkey_any v [UInt8.ofNat k] w' (G.ext x' (by simp) (by simp)) hr (by simp)
    rw [← hKK] at h
    exact h
  · have h := lsign_any v [UInt8.ofNat k] sum w' (G.ext x' (by simp) (by simp)) hr (by simp) hsl
    rw [← hSG] at h
    exact h
  · rw [hSG]; exact signL_length [UInt8.ofNat k] sum 32
  · rw [hKK]; exact keyB_length _
  · rw [hKK, hKK]; exact hne i k (by omega) (by omega) hk
  · rw [hSG, ver_sign [UInt8.ofNat k] sum sum (fun _ _ => rfl) (KK i), hKK]
    by_cases e : i = k
    · subst e
      simp
    · rw [if_neg (fun x => hne i k e hi hk x.symm)]
      simp [e]
end Go.Proofs.YtgcbgeombbohpaaDoor
