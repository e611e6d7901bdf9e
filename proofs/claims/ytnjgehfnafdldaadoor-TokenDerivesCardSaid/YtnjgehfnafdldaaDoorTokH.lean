/- Package tipstafflaw12: derives. -/
import Derived.Test.YtnjgehfnafdldaaDoorTokG
namespace Go.Proofs.YtnjgehfnafdldaaDoor
open Go.RowKit
set_option maxRecDepth 100000

def lessR (h : Nat) : Rt := { Rt.all with h := Rt.all.h &&& ~~~(1#16 <<< h) }

theorem NewPost.ok {w : World} {x : Tk} {up : Value} {e : Ending} {w' : World} (h : NewPost w 0 x up e w') :
    ∃ b, e = .returned (.tuple #[.pointer (some ⟨b, 0, none⟩), .int .i64 0]) ∧ Blk w' b 59 (tkCells x up) ∧ w.heap.size ≤ b ∧ Ext [] w w' := by
  obtain ⟨x3, ⟨-, ba, rfl, hba, hsa⟩ | ⟨h0, -⟩⟩ := h
  · exact ⟨ba, rfl, hba, hsa, x3⟩
  · exact (h0 rfl).elim
theorem NewPost.no {w : World} {E : Int} {x : Tk} {up : Value} {e : Ending} {w' : World} (h : NewPost w E x up e w') (hE : E ≠ 0) :
    e = .returned (.tuple #[.pointer none, .int .i64 E]) ∧ Ext [] w w' := by
  obtain ⟨x3, ⟨h0, -⟩ | ⟨h0, rfl⟩⟩ := h
  · exact (hE h0).elim
  · exact ⟨rfl, x3⟩

set_option maxHeartbeats 8000000 in
theorem derives_any (w : World) (G : HelpG w) :
    Calls Tryd.prog 9 #[] w fun e w' => e = .returned (.bool true) ∧ Ext [] w w' := by
  have HG := Lib.hid (fun w' (x' : Ext [] w w') => G.ext x' (by simp))
  have HN := Lib.hid (tree_new w)
  have HA := Lib.hid all_any
  clear G
  have e1 : rootE Tree.one 0 Rt.all = 0 := by decide +kernel
  have e2 : derE Tree.one (0, Rt.all) 1 0 (lessR 4) = 0 := by decide +kernel
  have e3 : derE Tree.one (0, lessR 4) 2 0 Rt.all = 1 := by decide +kernel
  have e4 : helpE Rt.all 7 = 0 := by decide +kernel
  have e5 : helpE (lessR 4) 7 = 1 := by decide +kernel
  have e6 : soundB Tree.one [(0, lessR 4), (0, Rt.all)] = true := by decide +kernel
  have E1 := Lib.hid e1
  have E2 := Lib.hid e2
  have E3 := Lib.hid e3
  have E4 := Lib.hid e4
  have E5 := Lib.hid e5
  have E6 := Lib.hid e6
  clear e1 e2 e3 e4 e5 e6
  go_enter Tryd.func9, Tryd.ntmps9
  go_wp2_with fail
  refine HN.out.mono ?_
  rintro e w1 ⟨rfl, T1, x1, -⟩
  generalize w.heap.size + 1 = bt at *
  generalize w.heap.size = bl at *
  clear HN
  go_wp2_with fail
  refine (HA.out _).mono ?_
  rintro e w2 ⟨rfl, x2⟩
  have X2 := x1.trans x2
  have HT := Lib.hid (fun w' (x' : Ext [] w2 w') => (T1.ext x2 (by simp) (by simp)).ext x' (by simp) (by simp))
  clear T1 x1 x2
  go_wp2_with fail
  have hr := root_any bt bl 1 Tree.one 0 Rt.all w2 (HT.out _ (Ext.refl _ _))
  rw [E1.out] at hr
  refine hr.mono ?_
  intro e w3 h3
  obtain ⟨ba, rfl, hba, hsa, x3⟩ := h3.ok
  clear hr E1 h3
  go_wp2_with fail
  refine (HA.out _).mono ?_
  rintro e w4 ⟨rfl, x4⟩
  rw [show Rt.all.val = .agg #[.int .u16 255, .int .u16 15, .int .u16 63, .int .u16 255, .bool true, .bool false] from rfl]
  go_wp2_with fail
  have HTA : TokAt w4 [ba] [(0, Rt.all)] := ⟨hba.ext x4 (by simp), trivial⟩
  have X4 := x3.trans x4
  have hsz4 := X4.size
  have hd1 : ∀ W, Ext [] w4 W → Calls Tryd.prog 11 #[.pointer (some ⟨bt, 0, none⟩), .pointer (some ⟨ba, 0, none⟩), .int .i64 0, .agg #[.int .u16 255, .int .u16 15, .int .u16 63, .int .u16 239, .bool true, .bool false]] W (NewPost W 0 (0, lessR 4) (.pointer (some ⟨ba, 0, none⟩))) := by
    intro W xx
    have := derive_any bt bl 1 ba [] Tree.one (0, Rt.all) [] 0 (lessR 4) W (HT.out _ (X4.trans xx)) (HTA.ext0 xx) (by simp)
    rw [show ([] : List Nat).length + 1 = 1 from rfl, E2.out] at this
    exact this
  rw [show bits BinOp.andNot IntKind.u16 255 16 = 239 from by decide +kernel]
  refine (hd1 _ ?_).mono ?_
  · repeat (first | exact Ext.refl _ _ | refine Ext.setCell (.inr (by simp)) _ ?_ | apply Ext.alloc)
  intro e w5 h5
  obtain ⟨bb, rfl, hbb, hsb, x5'⟩ := h5.ok
  have x5 : Ext [] w4 w5 := by
    refine Ext.trans ?_ x5'
    repeat (first | exact Ext.refl _ _ | refine Ext.setCell ?_ (.inr (by simp)) _ | apply Ext.alloc)
  have hsb4 : w4.heap.size ≤ bb := by
    refine Nat.le_trans ?_ hsb
    simp
  clear h5 x5' hsb
  have X5 := X4.trans x5
  have HTB : TokAt w5 [bb, ba] [(0, lessR 4), (0, Rt.all)] := ⟨hbb, HTA.ext0 x5⟩
  clear hbb hd1
  have hba4 : ba < w4.heap.size := HTA.1.lt
  have hbb5 : bb < w5.heap.size := HTB.1.lt
  go_wp2_with fail
  refine (HA.out _).mono ?_
  rintro e w6 ⟨rfl, x6⟩
  have X6 := X5.trans x6
  have hd2 := derive_any bt bl 1 bb [ba] Tree.one (0, lessR 4) [(0, Rt.all)] 0 Rt.all w6 (HT.out _ X6) (HTB.ext0 x6) (by simp)
  rw [show [ba].length + 1 = 2 from rfl, E3.out] at hd2
  go_wp2_with fail
  refine hd2.mono ?_
  intro e w7 h7
  obtain ⟨rfl, x7⟩ := h7.no (by decide)
  clear h7 hd2
  have X7 := X6.trans x7
  have HTB7 := Lib.hid (fun w' (x' : Ext [] w7 w') => (HTB.ext0 ((x6.trans x7).trans x')))
  go_wp2_with fail
  have HTA7 := Lib.hid (fun w' (x' : Ext [] w7 w') => (HTB7.out _ x').2)
  have hha := helper_any [ba] [(0, Rt.all)] 7 w7 (HTA7.out _ (Ext.refl _ _)) (HG.out _ (X2.trans X7))
  rw [show rOf [((0 : Int), Rt.all)] = Rt.all from rfl, E4.out, show ptrV [ba] = .pointer (some ⟨ba, 0, none⟩) from rfl] at hha
  refine hha.mono ?_
  rintro e w8 ⟨rfl, x8⟩
  clear hha
  go_wp2_with fail
  have hha := helper_any [bb, ba] [(0, lessR 4), (0, Rt.all)] 7 w8 (HTB7.out _ x8) (HG.out _ (X2.trans (X7.trans x8)))
  rw [show rOf [((0 : Int), lessR 4), (0, Rt.all)] = lessR 4 from rfl, E5.out, show ptrV [bb, ba] = .pointer (some ⟨bb, 0, none⟩) from rfl] at hha
  refine hha.mono ?_
  rintro e w9 ⟨rfl, x9⟩
  clear hha
  have X9 := x8.trans x9
  go_wp2_with fail
  have hss := sound_any bt bl 1 [bb, ba] Tree.one [(0, lessR 4), (0, Rt.all)] w9 (HT.out _ (X7.trans X9)) (HTB7.out _ X9) (by simp [Desc]; omega)
  rw [E6.out, show ptrV [bb, ba] = .pointer (some ⟨bb, 0, none⟩) from rfl] at hss
  refine hss.mono ?_
  rintro e w10 ⟨rfl, x10⟩
  clear hss
  go_wp2_with fail
  have X10 := X9.trans x10
  have hcc := chain_any [bb, ba] [(0, lessR 4), (0, Rt.all)] w10 (HTB7.out _ X10) (by simp)
  rw [show ptrV [bb, ba] = .pointer (some ⟨bb, 0, none⟩) from rfl] at hcc
  refine hcc.mono ?_
  rintro e w11 ⟨v, rfl, hown, x11, -⟩
  obtain ⟨va, vc, rfl⟩ := owns_slice hown
  clear hcc hown
  rw [show [bb, ba].length = 2 from rfl]
  go_wp2_with fail
  go_ret
  exact ⟨rfl, X2.trans (X7.trans (X10.trans x11))⟩
end Go.Proofs.YtnjgehfnafdldaaDoor
