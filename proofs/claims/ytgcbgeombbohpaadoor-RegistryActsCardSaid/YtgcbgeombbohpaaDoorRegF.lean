/- Layer 3: a registry that was made since; keeps. -/
import Derived.Lib.SlBytesConst
import Derived.Test.YtgcbgeombbohpaaDoorRegE
namespace Go.Proofs.YtgcbgeombbohpaaDoor
open Go.RowKit
set_option maxRecDepth 100000

/-- A registry that was made since w0; nothing else that lay then has turned. -/
structure RegL (w0 w : World) (b : Nat) (v : Value) (es : List RE) : Prop where
  at_ : RegAt w b v es
  x : Ext [] w0 w
  hb : w0.heap.size ≤ b
  hv : ∀ g, v.ownBlock = some g → w0.heap.size ≤ g

theorem RegL.ext0 {w0 w w' : World} {b : Nat} {v : Value} {es : List RE} (h : RegL w0 w b v es) (x : Ext [] w w') : RegL w0 w' b v es := ⟨h.at_.ext0 x, h.x.trans x, h.hb, h.hv⟩
theorem RegL.post {w0 w w' : World} {b : Nat} {v : Value} {es es' : List RE} {E : Int} {e : Ending} (h : RegL w0 w b v es) (p : RegPost w b v E es' e w') :
    ∃ v', e = .returned (.int .i64 E) ∧ RegL w0 w' b v' es' ∧ Ext (b :: v.ownBlock.toList) w w' := by
  obtain ⟨v', rfl, h1, x, h2⟩ := p
  refine ⟨v', rfl, ⟨h1, h.x.trans' x ?_, h.hb, ?_⟩, x⟩
  · intro i hi
    rcases List.mem_cons.1 hi with rfl | hi
    · exact .inr h.hb
    · exact .inr (h.hv i (by simpa using hi))
  · intro g hg
    rcases h2 g hg with h3 | h3
    · exact h.hv g h3
    · exact Nat.le_trans h.x.size h3
theorem RegAt.apart {w : World} {b : Nat} {v : Value} {es : List RE} (h : RegAt w b v es) {k : Nat} {T : TypeId} {cs : List Value} (hb : Blk w k T cs) (h1 : T ≠ 59) (h2 : T ≠ 62) : k ∉ b :: v.ownBlock.toList := by
  intro hm
  rcases List.mem_cons.1 hm with rfl | hm
  · have := (show w.heap[k]? = _ from hb).symm.trans h.hd
    simp at this
    exact h1 this.2
  · exact blk_not_row hb h2 h.own (by simpa using hm : v.ownBlock = some k).symm
theorem RegAt.apartO {w : World} {b : Nat} {v : Value} {es : List RE} (h : RegAt w b v es) {T : TypeId} {size n : Nat} {sv : Value} {xs : List Value} (ho : w.ownsRow 0 T size sv n xs) (h1 : T ≠ 59) (h2 : T ≠ 62) :
    ∀ k, sv.ownBlock = some k → k ∉ b :: v.ownBlock.toList := by
  intro k hk
  rcases ho.2 with ⟨rfl, _⟩ | ⟨g, cap, cur, rfl, _, hg, _⟩
  · cases hk
  · cases hk
    exact h.apart (show Blk w g T cur.toList from by simpa [Blk] using hg) h1 h2

def s1 : List UInt8 := 1 :: List.replicate 31 0

theorem addE_nil (K : List UInt8) : addE [] K = 0 ∧ addL [] K = [(K, false)] := by simp [addE, addL, findN]
theorem fs_one (K s : List UInt8) (hs : s.length = 2048) (hv : verR K s1 s = 0) : fsV [(K, false)] s1 s = .tuple #[.int .i64 0, .int .i64 0] := by
  have h : fsN [(K, false)] s1 s = 0 := by simp [fsN, fsP, hv, List.findIdx, List.findIdx.go]
  unfold fsV
  rw [if_pos hs, h]
  rfl
theorem fs_two (K s : List UInt8) (hs : s.length = 2048) : fsV [(K, true)] s1 s = .tuple #[.int .i64 0, .int .i64 129] := by
  have h : fsN [(K, true)] s1 s = 1 := by simp [fsN, fsP, List.findIdx, List.findIdx.go]
  unfold fsV
  rw [if_pos hs, h]
  rfl

set_option maxHeartbeats 8000000 in
theorem keeps_core (w : World) (K SG : List UInt8) (G : DigG w)
    (HKEY : Hid (∀ v w', Ext [] w w' → Reads w' v 1 1 (bytesV [97]) → Calls Tryd.prog 10 #[v] w' fun e w'' => e = .returned (.agg (bytesV K).toArray) ∧ Ext [] w' w''))
    (HSIGN : Hid (∀ v w', Ext [] w w' → Reads w' v 1 1 (bytesV [97]) → Calls Tryd.prog 12 #[v, .agg #[.int .u8 1, .int .u8 0, .int .u8 0, .int .u8 0, .int .u8 0, .int .u8 0, .int .u8 0, .int .u8 0, .int .u8 0, .int .u8 0, .int .u8 0, .int .u8 0, .int .u8 0, .int .u8 0, .int .u8 0, .int .u8 0, .int .u8 0, .int .u8 0, .int .u8 0, .int .u8 0, .int .u8 0, .int .u8 0, .int .u8 0, .int .u8 0, .int .u8 0, .int .u8 0, .int .u8 0, .int .u8 0, .int .u8 0, .int .u8 0, .int .u8 0, .int .u8 0]] w' fun e w'' => BytesPost w' SG e w'')) (hsl : SG.length = 2048)
    (hver : Hid (verR K s1 SG = 0)) (hkl : K.length = 32) :
    Calls Tryd.prog 8 #[] w fun e w' => e = .returned (.bool true) ∧ Ext [] w w' := by
  have HG := Lib.hid (fun w' (x' : Ext [] w w') => G.ext x' (by simp) (by simp))
  have HFI := Lib.hid (fun b v es sv w' (x : Ext [] w w') (h : RegAt w' b v es) (hn : es.length ≤ 1000) ho => (show Calls Tryd.prog 11 #[.pointer (some ⟨b, 0, none⟩), .agg #[.int .u8 1, .int .u8 0, .int .u8 0, .int .u8 0, .int .u8 0, .int .u8 0, .int .u8 0, .int .u8 0, .int .u8 0, .int .u8 0, .int .u8 0, .int .u8 0, .int .u8 0, .int .u8 0, .int .u8 0, .int .u8 0, .int .u8 0, .int .u8 0, .int .u8 0, .int .u8 0, .int .u8 0, .int .u8 0, .int .u8 0, .int .u8 0, .int .u8 0, .int .u8 0, .int .u8 0, .int .u8 0, .int .u8 0, .int .u8 0, .int .u8 0, .int .u8 0], sv] w' fun e' w'' => e' = .returned (fsV es s1 SG) ∧ Ext [] w' w'' from rfindS_any b v es s1 SG sv w' (HG.out w' x) h hn rfl hsl ho))
  have H1 := Lib.hid (fs_one K SG hsl hver.out)
  have H2 := Lib.hid (fs_two K SG hsl)
  have HAD := Lib.hid (addE_nil K)
  have HSP := Lib.hid (show spE [(K, false)] 0 = 0 ∧ spL [(K, false)] 0 = [(K, true)] from ⟨rfl, rfl⟩)
  have HB := Lib.hid (fun (w' : World) => one_byte w' 97)
  have kc := fun (w : World) => Lib.run_convert_bytes_const (P := Tryd.prog) w 30 5 #[Value.int IntKind.u8 97] 1 1 Tryd.underlying30 Tryd.underlying5
  clear G
  go_enter Tryd.func8, Tryd.ntmps8
  go_wp2_with fail
  refine (rnew_any w).mono ?_
  rintro e w1 ⟨b, rfl, hR0, x1, hb⟩
  have L1 : RegL w w1 b (.slice none 0 0) [] := ⟨hR0, x1, hb, fun g hg => by cases hg⟩
  clear hR0 x1
  go_wp2_with fail
  have x2 : Ext [] w1 (w1.alloc (.cells #[.int .u8 97] 5 (1, 2))) := (Ext.refl _ _).alloc _
  refine (HSIGN.out _ _ (L1.x.trans x2) (HB.out w1)).mono ?_
  rintro e w3 ⟨v3, rfl, hown3, x3, -⟩
  rw [hsl] at hown3
  obtain ⟨g3, c3, cur3, rfl, -, -, -, -, -⟩ := owns_some hown3 (by omega)
  have L3 := L1.ext0 (x2.trans x3)
  clear L1 x2 x3
  go_wp2_with fail
  have x4 : Ext [] w3 (w3.alloc (.cells #[.int .u8 97] 5 (1, 2))) := (Ext.refl _ _).alloc _
  refine (HKEY.out _ _ (L3.x.trans x4) (HB.out w3)).mono ?_
  rintro e w5 ⟨rfl, x5⟩
  have hown5 := owns_ext hown3 (x4.trans x5) (by simp)
  have L5 := L3.ext0 (x4.trans x5)
  have HA := Lib.hid (radd_any b _ _ K w5 L5.at_ (by simp) hkl)
  have HAO := Lib.hid (L5.at_.apartO hown5 (by decide) (by decide))
  obtain ⟨ov, hov⟩ : ∃ ov, ov = bytesV K := ⟨_, rfl⟩
  rw [← hov] at HA ⊢
  clear hov L3 x4 x5 hown3
  go_wp2_with fail
  refine HA.out.mono ?_
  intro e w6 hp
  obtain ⟨v6, rfl, L6, x6⟩ := L5.post hp
  have hown6 := owns_ext hown5 x6 HAO.out
  rw [HAD.out.1]
  rw [HAD.out.2] at L6
  clear hp L5 x6 hown5
  have HF6 := Lib.hid (HFI.out b v6 _ _ w6 L6.x L6.at_ (by simp) hown6)
  rw [H1.out] at HF6
  go_wp2_with fail
  refine HF6.out.mono ?_
  rintro e w7 ⟨rfl, x7⟩
  have L7 := L6.ext0 x7
  have hown7 := owns_ext hown6 x7 (by simp)
  have HA7 := Lib.hid (rspend_any b v6 _ 0 w7 L7.at_ (by simp))
  have HAO7 := Lib.hid (L7.at_.apartO hown7 (by decide) (by decide))
  clear L6 x7 hown6 HF6
  go_wp2_with fail
  refine HA7.out.mono ?_
  intro e w8 hp
  obtain ⟨v8, rfl, L8, x8⟩ := L7.post hp
  have hown8 := owns_ext hown7 x8 HAO7.out
  rw [HSP.out.1]
  rw [HSP.out.2] at L8
  clear hp L7 x8 hown7
  have HF8 := Lib.hid (HFI.out b v8 _ _ w8 L8.x L8.at_ (by simp) hown8)
  rw [H2.out] at HF8
  have hxx := L8.x
  clear L8
  go_wp2_with fail
  refine HF8.out.mono ?_
  rintro e w9 ⟨rfl, x9⟩
  go_wp2_with fail
  go_ret
  exact ⟨rfl, hxx.trans x9⟩

theorem keeps_any (w : World) (G : DigG w) : Calls Tryd.prog 8 #[] w fun e w' => e = .returned (.bool true) ∧ Ext [] w w' := by
  obtain ⟨K, hK⟩ : ∃ K, K = keyB [97] := ⟨_, rfl⟩
  obtain ⟨SG, hSG⟩ : ∃ SG, SG = signL [97] s1 32 := ⟨_, rfl⟩
  have hKl : K.length = 32 := by rw [hK]; exact keyB_length _
  have hsl : SG.length = 2048 := by rw [hSG]; exact signL_length [97] s1 32
  have hver : verR K s1 SG = 0 := by rw [hSG, ver_sign [97] s1 s1 (fun _ _ => rfl) K, if_pos hK.symm]
  refine keeps_core w K SG G (Lib.hid fun v w' x' hr => ?_) (Lib.hid fun v w' x' hr => ?_) hsl (Lib.hid hver) hKl
  · have h := lkey_any v [97] w' (G.ext x' (by simp) (by simp)) hr (by simp)
    rw [← hK] at h
    exact h
  · have h := lsign_any v [97] s1 w' (G.ext x' (by simp) (by simp)) hr (by simp) rfl
    rw [← hSG] at h
    exact h
end Go.Proofs.YtgcbgeombbohpaaDoor
