/- The law InsnJoins: the walk. -/
import Derived.Test.YtipcgebaihndgaaEnc
import Derived.Deep.RegionHeld3
import Derived.Laws.IdiomStrings
namespace Go.Proofs.Ytipcgebaihndgaa
open Go.RowKit

theorem wpAnyH_imp {P : Program} {md : Region.Mode} {ops : Array Oper} {Q : Exit → Act → World → Prop} {S S' : World → Prop} (hS : ∀ w, S' w → S w) :
    ∀ (fuel : Nat) (listed : Array Bool) (a : Act) (w : World), wpAnyH P md ops Q S' fuel listed a w → wpAnyH P md ops Q S fuel listed a w
  | 0, _, _, _, h => h
  | fuel + 1, _, _, _, h => ⟨h.1, fun i hi => wpOp_mono (fun a' w' h' => ⟨hS _ h'.1, wpAnyH_imp hS fuel _ a' w' h'.2⟩) (h.2 i hi)⟩

theorem ba_append (a b : Array UInt8) : (⟨a⟩ : ByteArray) ++ ⟨b⟩ = ⟨a ++ b⟩ := ByteArray.ext (by simp)

/-- A row of bytes as a string. -/
theorem conv_bytes {w : World} {v : Value} {l : List UInt8} (h : w.ownsRow 0 5 1 v l.length (bytesV l)) :
    (convert 24 9 v).run Try.prog w = .ok (.string ⟨l.toArray⟩) w := by
  rcases h.2 with ⟨rfl, h0⟩ | ⟨g, cap, cur, rfl, -⟩
  · have : l = [] := List.eq_nil_of_length_eq_zero h0
    subst this
    rfl
  · refine run_convert_bytes_back w _ _ 5 ⟨g, 0, none⟩ cap l Try.underlying24 Try.underlying5 Try.underlying9 ?_
    intro j hj
    rw [Addr.add_lit, Nat.zero_add]
    have := h.cells (g := g) rfl j (.int .u8 (l[j].toNat : Int)) (by unfold bytesV; simp [hj])
    rwa [Addr.add_lit, Nat.zero_add] at this

def cutI (m : Nat) : Value → Value
  | .slice a n c => .slice a (min n m) c
  | v => v

theorem InsArg.cut {w : World} {v : Value} {b : List Ins} (h : InsArg w v b) (m : Nat) : Reads w (cutI m v) 5 (b.take m).length (insV (b.take m)) := by
  obtain ⟨ao, c, rfl, hc, hm, ao', c', he, hl, hn, hr⟩ := h
  cases he
  refine ⟨ao, c, by simp [cutI, Nat.min_comm], by rw [insV_length], fun e => ?_, fun ad e j u hu => hr ad e j u ?_⟩
  · have := hn e
    simp only [List.length_take]
    exact ⟨by omega, this.2⟩
  · rw [insV_take, List.getElem?_take] at hu
    split at hu
    · exact hu
    · cases hu

set_option maxHeartbeats 8000000 in
set_option maxRecDepth 100000 in
theorem ijoins_walk (va vb : Value) (a0 b0 : List Ins) (w : World) (ha : InsArg w va a0) (hb : InsArg w vb b0) :
    Calls Try.prog 3 #[va, vb] w fun e w' => e = .returned (.bool true) ∧ Ext [] w w' := by
  obtain ⟨i1, hi, hz0, hz1, hz2⟩ := info_parts info_insn
  have HA := Lib.hid (fun w' (x : Ext [] w w') => (ha.ext x).cut 40)
  have HB := Lib.hid (fun w' (x : Ext [] w w') => (hb.ext x).cut 40)
  obtain ⟨aa, ac, rfl, hlac, hamax, -⟩ := ha
  obtain ⟨ba, bc, rfl, hlbc, hbmax, -⟩ := hb
  unfold maxLen at hamax hbmax
  obtain ⟨a, haq⟩ : ∃ a, a = a0.take 40 := ⟨_, rfl⟩
  obtain ⟨b, hbq⟩ : ∃ b, b = b0.take 40 := ⟨_, rfl⟩
  have hal : min a0.length 40 = a.length := by rw [haq, List.length_take, Nat.min_comm]
  have hbl : min b0.length 40 = b.length := by rw [hbq, List.length_take, Nat.min_comm]
  rw [← haq, show cutI 40 (.slice aa a0.length ac) = .slice aa a.length ac by rw [← hal]; rfl] at HA
  rw [← hbq, show cutI 40 (.slice ba b0.length bc) = .slice ba b.length bc by rw [← hbl]; rfl] at HB
  have ha40 : a.length ≤ 40 := by omega
  have hb40 : b.length ≤ 40 := by omega
  have IFA := Lib.hid (show (if 40 < (a0.length : Int) then 40 else (a0.length : Int)) = (a.length : Int) by rw [← hal]; split <;> omega)
  have IFB := Lib.hid (show (if 40 < (b0.length : Int) then 40 else (b0.length : Int)) = (b.length : Int) by rw [← hbl]; split <;> omega)
  have p1 : 0 ≤ (if 40 < (a0.length : Int) then 40 else (a0.length : Int)) := by split <;> omega
  have p2 : (if 40 < (a0.length : Int) then 40 else (a0.length : Int)) ≤ (ac : Int) := by split <;> omega
  have p3 : 0 ≤ (if 40 < (b0.length : Int) then 40 else (b0.length : Int)) := by split <;> omega
  have p4 : (if 40 < (b0.length : Int) then 40 else (b0.length : Int)) ≤ (bc : Int) := by split <;> omega
  clear haq hbq hal hbl
  go_enter Try.func3, Try.ntmps3
  go_upto_region 1 with (fail)
  go_region
  rw [IFA.out, IFB.out]
  simp only [Int.toNat_natCast]
  have x0 : Ext [] w w.drew := (Ext.refl _ _).drew
  clear p1 p2 p3 p4
  generalize w.drew = w1 at *
  go_upto_region 3 with (first
    | (at_builtin; refine wpList_app _ rfl (.tmp 16) (.tmp 17) 22 rfl 32 i1 _ 5 12 Try.underlying22 hi hz0 hz1 hz2 rfl (by decide) (.slice (some ⟨w1.heap.size, 0, none⟩) 0 0) 0 [] rfl ((Blk.new w1 32 #[]).owns rfl (Nat.zero_le _)) (.slice aa a.length ac) a.length (insV a) rfl (HA.out _ (x0.alloc _)) (insV_oneCell a) (by unfold maxLen; omega) (by omega) ?_; intro v2 w2 hown2 hgrow2 hfr2 _; simp only [Nat.zero_add, List.nil_append] at hown2; have x2 : Ext [] w w2 := (x0.alloc _).grown hgrow2 (by intro g hg; simp [Value.ownBlock] at hg; have := x0.size; exact .inr (by omega)))
    | (at_builtin; go_must (refine wpList_app _ rfl (.tmp 18) (.tmp 19) 22 rfl 32 i1 _ 5 12 Try.underlying22 hi hz0 hz1 hz2 rfl (by decide) v2 a.length (insV a) rfl hown2 (.slice ba b.length bc) b.length (insV b) rfl (HB.out _ x2) (insV_oneCell b) (by unfold maxLen; omega) (by omega) ?_); intro v4 w4 hown4 hgrow4 hfr4 _))
  have fr2 : ∀ g, v2.ownBlock = some g → w.heap.size ≤ g := by
    intro g hg
    have := x0.size
    rcases hfr2 with h | ⟨g', h, hle⟩
    · rw [h] at hg; simp [Value.ownBlock] at hg; omega
    · rw [h] at hg; obtain rfl := Option.some.inj hg; simp at hle; omega
  have x4 : Ext [] w w4 := x2.grown hgrow4 (by intro g hg; exact .inr (fr2 g hg))
  rw [← insV_append] at hown4
  obtain ⟨va4, vc4, rfl⟩ := owns_slice hown4
  have CP := Lib.hid (fun w' (h : Ext [] w4 w') => (parts_any w').mono (fun e w'' ⟨he, hx'⟩ => (show e = Ending.returned (.bool true) ∧ Ext [] w4 w'' from ⟨he, h.trans hx'⟩)))
  have CA := Lib.hid (fun w' (h : Ext [] w4 w') => encode_any (.slice va4 (a.length + b.length) vc4) (a ++ b) w' (by rw [List.length_append]; exact owns_reads (owns_ext hown4 h (by simp))) (by rw [List.length_append]; omega))
  have CB := Lib.hid (fun w' (h : Ext [] w4 w') => encode_any (.slice aa a.length ac) a w' (HA.out w' (x4.trans h)) (by omega))
  have CC := Lib.hid (fun w' (h : Ext [] w4 w') => encode_any (.slice ba b.length bc) b w' (HB.out w' (x4.trans h)) (by omega))
  have hstart : Ext [] w4 w4.drew := (Ext.refl _ _).drew
  have HCAT := Lib.hid (show (⟨(encL (a ++ b)).toArray⟩ : ByteArray) = ⟨(encL a).toArray⟩ ++ ⟨(encL b).toArray⟩ by rw [ba_append, encL_append]; simp)
  have hlab : ¬ 9223372036854775807 < (encL a).length + (encL b).length := by rw [encL_length, encL_length]; omega
  clear hown2 hgrow2 hfr2 fr2 hown4 hgrow4 hfr4 x2 hlac hlbc hamax hbmax
  go_wp2_with fail
  refine wp_region_held_drew (S := fun w' => Ext [] w4 w') (by kernel_rfl) hstart (fun _ => ?_)
  refine wpAnyH_ready (rs := [0]) (by kernel_rfl) (by simp) ?_
  refine AllReadyH.cons (o := ⟨some 21, _, _, _, _, _⟩) rfl (fun K hK => ?_) AllReadyH.nil
  go_simp
  refine (CP.out _ (by assumption)).mono ?_
  rintro e w' ⟨rfl, hk⟩
  go_simp
  refine hK.out _ _ (by assumption) (fun _ => ?_)
  clear hK K
  try simp only [Act.put, List.setIfInBounds_toArray, List.set_cons_zero, List.set_cons_succ]
  refine wpAnyH_take (i := 1) (oi := ⟨some 22, _, _, _, _, _⟩) (v := ?_) rfl (by kernel_rfl) (by kernel_rfl) (by kernel_rfl) (fun _ _ _ h => h) (Or.inl ⟨by rfl, ?_⟩) (by assumption) ?_
  rotate_left 1
  · (intro w hSw; (try dsimp only at hSw); go_split_ands; go_simp; (try with_reducible rfl))
  try simp only [Act.put, List.setIfInBounds_toArray, List.set_cons_zero, List.set_cons_succ]
  refine wpAnyH_take (i := 2) (oi := ⟨some 23, _, _, _, _, _⟩) (v := ?_) rfl (by kernel_rfl) (by kernel_rfl) (by kernel_rfl) (fun _ _ _ h => h) (Or.inl ⟨by rfl, ?_⟩) (by assumption) ?_
  rotate_left 1
  · (intro w hSw; (try dsimp only at hSw); go_split_ands; go_simp; (try with_reducible rfl))
  try simp only [Act.put, List.setIfInBounds_toArray, List.set_cons_zero, List.set_cons_succ]
  refine wpAnyH_take (i := 5) (oi := ⟨some 26, _, _, _, _, _⟩) (v := ?_) rfl (by kernel_rfl) (by kernel_rfl) (by kernel_rfl) (fun _ _ _ h => h) (Or.inl ⟨by rfl, ?_⟩) (by assumption) ?_
  rotate_left 1
  · (intro w hSw; (try dsimp only at hSw); go_split_ands; go_simp; (try with_reducible rfl))
  try simp only [Act.put, List.setIfInBounds_toArray, List.set_cons_zero, List.set_cons_succ]
  refine wpAnyH_take (i := 8) (oi := ⟨some 29, _, _, _, _, _⟩) (v := ?_) rfl (by kernel_rfl) (by kernel_rfl) (by kernel_rfl) (fun _ _ _ h => h) (Or.inl ⟨by rfl, ?_⟩) (by assumption) ?_
  rotate_left 1
  · (intro w hSw; (try dsimp only at hSw); go_split_ands; go_simp; (try with_reducible rfl))
  try simp only [Act.put, List.setIfInBounds_toArray, List.set_cons_zero, List.set_cons_succ]
  refine wpAnyH_ready (rs := [3]) (by kernel_rfl) (by simp) ?_
  refine AllReadyH.cons (o := ⟨some 24, _, _, _, _, _⟩) rfl (fun K hK => ?_) AllReadyH.nil
  go_simp
  refine (CA.out _ (by assumption)).mono ?_
  rintro e w5 ⟨v5, rfl, hown5, x5, fr5⟩
  have hk5 : Ext [] w4 w5 := Ext.trans (by assumption) x5
  go_simp
  refine hK.out _ _ (by assumption) (fun _ => ?_)
  clear hK K
  try simp only [Act.put, List.setIfInBounds_toArray, List.set_cons_zero, List.set_cons_succ]
  have HCV5 := Lib.hid (fun w' (x : Ext [] w5 w') => conv_bytes (owns_ext hown5 x (by simp)))
  have hr5 := Ext.refl [] w5
  refine wpAnyH_imp (S' := fun w' => Ext [] w5 w') (fun _ h => hk5.trans h) _ _ _ _ ?_
  refine wpAnyH_take (i := 4) (oi := ⟨some 25, _, _, _, _, _⟩) (v := ?_) rfl (by kernel_rfl) (by kernel_rfl) (by kernel_rfl) (fun _ _ _ h => h) (Or.inl ⟨by rfl, ?_⟩) (by assumption) ?_
  rotate_left 1
  · (intro w hSw; (try dsimp only at hSw); go_split_ands; have hcv2 := HCV5.out w (by assumption); go_simp; (try with_reducible rfl))
  try simp only [Act.put, List.setIfInBounds_toArray, List.set_cons_zero, List.set_cons_succ]
  refine wpAnyH_ready (rs := [6]) (by kernel_rfl) (by simp) ?_
  refine AllReadyH.cons (o := ⟨some 27, _, _, _, _, _⟩) rfl (fun K hK => ?_) AllReadyH.nil
  go_simp
  refine (CB.out _ (hk5.trans (by assumption))).mono ?_
  rintro e w6 ⟨v6, rfl, hown6, x6, fr6⟩
  have hk6 : Ext [] w5 w6 := Ext.trans (by assumption) x6
  go_simp
  refine hK.out _ _ (by assumption) (fun _ => ?_)
  clear hK K
  try simp only [Act.put, List.setIfInBounds_toArray, List.set_cons_zero, List.set_cons_succ]
  have HCV6 := Lib.hid (fun w' (x : Ext [] w6 w') => conv_bytes (owns_ext hown6 x (by simp)))
  have hr6 := Ext.refl [] w6
  refine wpAnyH_imp (S' := fun w' => Ext [] w6 w') (fun _ h => hk6.trans h) _ _ _ _ ?_
  refine wpAnyH_take (i := 7) (oi := ⟨some 28, _, _, _, _, _⟩) (v := ?_) rfl (by kernel_rfl) (by kernel_rfl) (by kernel_rfl) (fun _ _ _ h => h) (Or.inl ⟨by rfl, ?_⟩) (by assumption) ?_
  rotate_left 1
  · (intro w hSw; (try dsimp only at hSw); go_split_ands; have hcv2 := HCV6.out w (by assumption); go_simp; (try with_reducible rfl))
  try simp only [Act.put, List.setIfInBounds_toArray, List.set_cons_zero, List.set_cons_succ]
  refine wpAnyH_ready (rs := [9]) (by kernel_rfl) (by simp) ?_
  refine AllReadyH.cons (o := ⟨some 30, _, _, _, _, _⟩) rfl (fun K hK => ?_) AllReadyH.nil
  go_simp
  refine (CC.out _ (hk5.trans (hk6.trans (by assumption)))).mono ?_
  rintro e w7 ⟨v7, rfl, hown7, x7, fr7⟩
  have hk7 : Ext [] w6 w7 := Ext.trans (by assumption) x7
  go_simp
  refine hK.out _ _ (by assumption) (fun _ => ?_)
  clear hK K
  try simp only [Act.put, List.setIfInBounds_toArray, List.set_cons_zero, List.set_cons_succ]
  have HCV7 := Lib.hid (fun w' (x : Ext [] w7 w') => conv_bytes (owns_ext hown7 x (by simp)))
  have hr7 := Ext.refl [] w7
  refine wpAnyH_imp (S' := fun w' => Ext [] w7 w') (fun _ h => hk7.trans h) _ _ _ _ ?_
  refine wpAnyH_take (i := 10) (oi := ⟨some 31, _, _, _, _, _⟩) (v := ?_) rfl (by kernel_rfl) (by kernel_rfl) (by kernel_rfl) (fun _ _ _ h => h) (Or.inl ⟨by rfl, ?_⟩) (by assumption) ?_
  rotate_left 1
  · (intro w hSw; (try dsimp only at hSw); go_split_ands; have hcv2 := HCV7.out w (by assumption); go_simp; (try with_reducible rfl))
  try simp only [Act.put, List.setIfInBounds_toArray, List.set_cons_zero, List.set_cons_succ]
  refine wpAnyH_take (i := 11) (oi := ⟨some 32, _, _, _, _, _⟩) (v := ?_) rfl (by kernel_rfl) (by kernel_rfl) (by kernel_rfl) (fun _ _ _ h => h) (Or.inl ⟨by rfl, ?_⟩) (by assumption) ?_
  rotate_left 1
  · (intro w hSw; (try dsimp only at hSw); go_split_ands; go_simp; (try with_reducible rfl))
  try simp only [Act.put, List.setIfInBounds_toArray, List.set_cons_zero, List.set_cons_succ]
  refine wpAnyH_take (i := 12) (oi := ⟨some 33, _, _, _, _, _⟩) (v := ?_) rfl (by kernel_rfl) (by kernel_rfl) (by kernel_rfl) (fun _ _ _ h => h) (Or.inl ⟨by rfl, ?_⟩) (by assumption) ?_
  rotate_left 1
  · (intro w hSw; (try dsimp only at hSw); go_split_ands; have hq := HCAT.out; go_simp; (try with_reducible rfl))
  try simp only [Act.put, List.setIfInBounds_toArray, List.set_cons_zero, List.set_cons_succ]
  refine wpAnyH_take (i := 13) (oi := ⟨some 34, _, _, _, _, _⟩) (v := ?_) rfl (by kernel_rfl) (by kernel_rfl) (by kernel_rfl) (fun _ _ _ h => h) (Or.inl ⟨by rfl, ?_⟩) (by assumption) ?_
  rotate_left 1
  · (intro w hSw; (try dsimp only at hSw); go_split_ands; go_simp; (try with_reducible rfl))
  try simp only [Act.put, List.setIfInBounds_toArray, List.set_cons_zero, List.set_cons_succ]
  refine wpAnyH_take (i := 14) (oi := ⟨some 4, _, _, _, _, _⟩) (v := ?_) rfl (by kernel_rfl) (by kernel_rfl) (by kernel_rfl) (fun _ _ _ h => h) (Or.inl ⟨by rfl, ?_⟩) (by assumption) ?_
  rotate_left 1
  · (intro w hSw; (try dsimp only at hSw); go_split_ands; go_simp; (try with_reducible rfl))
  try simp only [Act.put, List.setIfInBounds_toArray, List.set_cons_zero, List.set_cons_succ]
  refine wpAnyH_done (by kernel_rfl) ?_ _
  go_wp2_with fail
  go_ret
  exact ⟨rfl, x4.trans (hk5.trans (hk6.trans hk7))⟩
end Go.Proofs.Ytipcgebaihndgaa
