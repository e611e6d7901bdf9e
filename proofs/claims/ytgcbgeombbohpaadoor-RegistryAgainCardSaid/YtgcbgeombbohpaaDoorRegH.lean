/- The law RegistryAgain. -/
import Derived.Test.YtgcbgeombbohpaaDoorRegK
import Derived.Test.YtgcbgeombbohpaaDoorRegK2
import Derived.Test.YtgcbgeombbohpaaDoorRegG
namespace Go.Proofs.YtgcbgeombbohpaaDoor
open Go.RowKit
theorem xy_apart : keyB [120] ≠ keyB [121] := by
  intro e
  have h1 := key_head [120] 58 (show (keyN 1 [120]).headD 0 = 58 from keyN_120)
  have h2 := key_head [121] 17 (show (keyN 1 [121]).headD 0 = 17 from keyN_121)
  rw [e, h2] at h1
  cases h1
theorem ragain_walk (a b : List UInt8) (w : World) (G : DigG w) (hal : a.length = 32) (hbl : b.length = 32) :
    Calls Tryd.prog 4 #[.agg (bytesV a).toArray, .agg (bytesV b).toArray] w fun e w' => e = .returned (.bool true) ∧ Ext [] w w' := by
  have hne := xy_apart
  obtain ⟨K1, hK1⟩ : ∃ K, K = keyB [120] := ⟨_, rfl⟩
  obtain ⟨K2, hK2⟩ : ∃ K, K = keyB [121] := ⟨_, rfl⟩
  obtain ⟨SA, hSA⟩ : ∃ S, S = signL [120] a 32 := ⟨_, rfl⟩
  obtain ⟨SB, hSB⟩ : ∃ S, S = signL [120] b 32 := ⟨_, rfl⟩
  obtain ⟨SC, hSC⟩ : ∃ S, S = signL [121] b 32 := ⟨_, rfl⟩
  rw [← hK1, ← hK2] at hne
  have l1 : K1.length = 32 := by rw [hK1]; exact keyB_length _
  have l2 : K2.length = 32 := by rw [hK2]; exact keyB_length _
  have lA : SA.length = 2048 := by rw [hSA]; exact signL_length [120] a 32
  have lB : SB.length = 2048 := by rw [hSB]; exact signL_length [120] b 32
  have lC : SC.length = 2048 := by rw [hSC]; exact signL_length [121] b 32
  have vA : verR K2 a SA ≠ 0 := by
    rw [hSA, ver_sign [120] a a (fun _ _ => rfl) K2, ← hK1, if_neg hne]
    decide
  have vB : verR K2 b SB ≠ 0 := by
    rw [hSB, ver_sign [120] b b (fun _ _ => rfl) K2, ← hK1, if_neg hne]
    decide
  have vC : verR K2 b SC = 0 := by rw [hSC, ver_sign [121] b b (fun _ _ => rfl) K2, if_pos hK2.symm]
  refine again_core w a b K1 K2 SA SB SC G hal hbl (Lib.hid fun v w' x' hr => ?_) (Lib.hid fun v w' x' hr => ?_) (Lib.hid fun v w' x' hr => ?_) (Lib.hid fun v w' x' hr => ?_) (Lib.hid fun v w' x' hr => ?_) lA lB lC l1 l2 hne (Lib.hid vA) (Lib.hid vB) (Lib.hid vC)
  · have h := lkey_any v [120] w' (G.ext x' (by simp) (by simp)) hr (by simp)
    rw [← hK1] at h
    exact h
  · have h := lkey_any v [121] w' (G.ext x' (by simp) (by simp)) hr (by simp)
    rw [← hK2] at h
    exact h
  · have h := lsign_any v [120] a w' (G.ext x' (by simp) (by simp)) hr (by simp) hal
    rw [← hSA] at h
    exact h
  · have h := lsign_any v [120] b w' (G.ext x' (by simp) (by simp)) hr (by simp) hbl
    rw [← hSB] at h
    exact h
  · have h := lsign_any v [121] b w' (G.ext x' (by simp) (by simp)) hr (by simp) hbl
    rw [← hSC] at h
    exact h
end Go.Proofs.YtgcbgeombbohpaaDoor
