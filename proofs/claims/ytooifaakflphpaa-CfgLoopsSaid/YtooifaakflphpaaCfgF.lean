/- Package cfg: Check. -/
import Derived.Test.YtooifaakflphpaaCfgE
import Derived.Test.YtooifaakflphpaaShG
namespace Go.Proofs.Ytooifaakflphpaa
open Go.RowKit
set_option maxRecDepth 100000

def firstI (o : Option Nat) : Int := match o with
  | some k => (k : Int)
  | none => -1
set_option maxHeartbeats 2000000 in
theorem bidx_any (u : Value) (f : Nat → Bool) (n : Nat) (w : World) (h : w.ownsRow 0 4 1 u n ((List.range n).map fun j => Value.bool (f j))) (hn : n ≤ 1000000) :
    Calls Try.prog 26 #[u, .bool false] w fun e w' => e = .returned (.int .i64 (firstI (firstBad f n))) ∧ w = w' := by
  have HAT := Lib.hid (fun k (hk : k < n) => (show ∃ g c, u = .slice (some ⟨g, 0, none⟩) n c ∧ w.cell? ⟨g, k, none⟩ = some (.bool (f k)) from by
    obtain ⟨g, c, cur, rfl, hb, hn, -, hl, ht⟩ := owns_some h (by omega)
    rw [Nat.mul_one] at hl ht
    refine ⟨g, c, rfl, ?_⟩
    rw [hb.cell]
    have : (cur.take n)[k]? = ((List.range n).map fun j => Value.bool (f j))[k]? := by rw [ht]
    rw [List.getElem?_take, if_pos hk] at this
    rw [this, List.getElem?_map, List.getElem?_range hk]
    rfl))
  have HF1 := Lib.hid (fun k hk hb hp => firstBad_some f n k hk hb hp)
  have HF2 := Lib.hid (firstBad_none f n)
  obtain ⟨R, hR⟩ : ∃ R, R = firstBad f n := ⟨_, rfl⟩
  rw [← hR] at HF1 HF2 ⊢
  clear hR
  obtain ⟨ua, uc, rfl⟩ := owns_slice h
  clear h
  go_enter Try.func26, Try.ntmps26
  go_wp2_with fail
  go_loop [5, 8] (fun _ i => ∃ k : Nat, k ≤ n ∧ i = .int .i64 (k : Int) ∧ Hid (∀ j, j < k → f j = true)) (fun _ i => n - (intOf i).toNat)
  case atStart => exact ⟨0, by omega, rfl, Lib.hid (fun j h => by omega)⟩
  case round =>
    obtain ⟨k, hk, rfl, HNO⟩ := hrel
    by_cases hlt : k < n
    · obtain ⟨g, c, he, hc⟩ := HAT.out k hlt
      cases he
      obtain ⟨b, hb⟩ : ∃ b, f k = b := ⟨_, rfl⟩
      rw [hb] at hc
      cases b with
      | false =>
        have HRR := Lib.hid (HF1.out k hlt hb HNO.out)
        clear hb HF1 HF2
        go_wp2_with fail
        go_ret
        exact ⟨by rw [HRR.out]; rfl, rfl⟩
      | true =>
        have HNO2 := Lib.hid (show ∀ j, j < k + 1 → f j = true from fun j hj => by
          by_cases h : j < k
          · exact HNO.out j h
          · obtain rfl : j = k := by omega
            exact hb)
        clear hb
        go_wp2_with fail
        go_round
        case rel => exact ⟨k + 1, by omega, by go_num, HNO2⟩
        case measure => simp [intOf]; omega
    · obtain rfl : k = n := by omega
      have HRR := Lib.hid (HF2.out HNO.out)
      clear HF1 HF2
      go_wp2_with fail
      go_ret
      exact ⟨by rw [HRR.out]; rfl, rfl⟩

/-- What Check tells. -/
def checkC (l : List Ins) (loops : Bool) : Nat × Nat :=
  if (checkM l).2 ≠ 0 then checkM l else match firstBad (rchM l) l.length with
    | some k => (k, 22)
    | none => if (!loops && loopsB l) = true then (0, 22) else (0, 0)

set_option maxHeartbeats 4000000 in
theorem ccheck_any (v : Value) (l : List Ins) (lp : Bool) (w : World) (hr : Reads w v 5 l.length (insV l)) (hl : l.length ≤ 100000) :
    Calls Try.prog 14 #[v, .bool lp] w fun e w' => e = .returned (.tuple #[.int .i64 ((checkC l lp).1 : Int), .int .i64 ((checkC l lp).2 : Int)]) ∧ Ext [] w w' := by
  have HC := Lib.hid (check_any v l w hr hl)
  have HRE := Lib.hid (fun w' (x : Ext [] w w') => reach_any v l w' (hr.ext x) hl)
  have HLO := Lib.hid (fun w' (x : Ext [] w w') => loops_any v l w' (hr.ext x) hl)
  have HM := Lib.hid (show checkC l lp = (if (checkM l).2 ≠ 0 then checkM l else match firstBad (rchM l) l.length with | some k => (k, 22) | none => if (!lp && loopsB l) = true then (0, 22) else (0, 0)) from rfl)
  have HIX := Lib.hid (fun u w' h => bidx_any u (rchM l) l.length w' h (by omega))
  obtain ⟨R, hR⟩ : ∃ R, R = checkC l lp := ⟨_, rfl⟩
  rw [← hR] at HM ⊢
  clear hR
  have HRL := Lib.hid (show (reachL l).length = l.length ∧ (reachL l).map Value.bool = (List.range l.length).map fun j => Value.bool (rchM l j) from by
    unfold reachL
    rw [List.map_map]
    exact ⟨by simp, rfl⟩)
  obtain ⟨la, lc, rfl⟩ : ∃ la lc, v = .slice la l.length lc := by
    obtain ⟨la, lc, e, -⟩ := hr
    exact ⟨la, lc, e⟩
  clear hr
  generalize checkM l = cm at *
  generalize firstBad (rchM l) l.length = fb at *
  generalize loopsB l = lo at *
  obtain ⟨ca, cb⟩ := cm
  dsimp only at HM HC
  by_cases h0 : cb = 0
  · subst h0
    go_enter Try.func14, Try.ntmps14
    go_wp2_with fail
    refine HC.out.mono ?_
    rintro e w1 ⟨rfl, x1⟩
    clear HC
    go_wp2_with fail
    refine (HRE.out w1 x1).mono ?_
    rintro e w2 ⟨u, rfl, hown, x2, -⟩
    have x02 := x1.trans x2
    rw [HRL.out.1, HRL.out.2] at hown
    have HX := Lib.hid (HIX.out u w2 hown)
    obtain ⟨ua, uc, rfl⟩ := owns_slice hown
    clear hown HRL HIX HRE x1 x2
    go_wp2_with fail
    refine HX.out.mono ?_
    rintro e w3 ⟨rfl, rfl⟩
    clear HX
    cases fb with
    | some k =>
      have HRR := Lib.hid (show R = (k, 22) by rw [HM.out]; rfl)
      clear HM
      simp only [firstI]
      go_wp2_with fail
      go_ret2
      exact ⟨by rw [HRR.out]; rfl, x02⟩
    | none =>
      simp only [firstI]
      cases lp with
      | true =>
        have HRR := Lib.hid (show R = (0, 0) by rw [HM.out]; rfl)
        clear HM
        go_wp2_with fail
        go_ret2
        exact ⟨by rw [HRR.out]; rfl, x02⟩
      | false =>
        go_wp2_with fail
        refine (HLO.out _ x02).mono ?_
        rintro e w4 ⟨rfl, x4⟩
        have x04 := x02.trans x4
        cases lo with
        | true =>
          have HRR := Lib.hid (show R = (0, 22) by rw [HM.out]; rfl)
          clear HM HLO
          go_wp2_with fail
          go_ret2
          exact ⟨by rw [HRR.out]; rfl, x04⟩
        | false =>
          have HRR := Lib.hid (show R = (0, 0) by rw [HM.out]; rfl)
          clear HM HLO
          go_wp2_with fail
          go_ret2
          exact ⟨by rw [HRR.out]; rfl, x04⟩
  · have HRR := Lib.hid (show R = (ca, cb) by rw [HM.out, if_pos h0])
    have hq : ((cb : Int) != 0) = true := by rw [bne_iff_ne]; omega
    clear HM h0
    go_enter Try.func14, Try.ntmps14
    go_wp2_with fail
    refine HC.out.mono ?_
    rintro e w1 ⟨rfl, x1⟩
    go_wp2_with fail
    go_ret2
    exact ⟨by rw [HRR.out]; rfl, x1⟩
end Go.Proofs.Ytooifaakflphpaa
