/- Package cfg: behind, and what is struck: IndexFunc, DeleteFunc, Next. -/
import Derived.Lib.SliceRun
import Derived.Laws.IdiomCopy
import Derived.Test.YtooifaakflphpaaCfgA
namespace Go.Proofs.Ytooifaakflphpaa
open Go.RowKit
set_option maxRecDepth 100000

theorem Blk.setCells {g : Nat} {T : TypeId} : ∀ (vs : List Value) (o : Nat) (w : World) (cs : List Value), Blk w g T cs → ∃ cs', Blk (w.setCells g o vs) g T cs' ∧ cs'.length = cs.length ∧ cs'.take o = cs.take o ∧ Ext [g] w (w.setCells g o vs)
  | [], _, w, cs, h => ⟨cs, h, rfl, rfl, Ext.refl _ _⟩
  | v :: r, o, w, cs, h => by
    obtain ⟨cs', h1, h2, h3, h4⟩ := Blk.setCells r (o + 1) (w.setCell ⟨g, o, none⟩ v) _ (h.set o v)
    refine ⟨cs', h1, by rw [h2]; simp, ?_, ((Ext.refl [g] w).setCell (.inl (by simp)) _).trans h4⟩
    have : (cs'.take (o + 1)).take o = ((cs.set o v).take (o + 1)).take o := by rw [h3]
    rw [List.take_take, List.take_take, Nat.min_eq_left (by omega)] at this
    rw [this]
    apply List.ext_getElem?
    intro i
    rw [List.getElem?_take, List.getElem?_take]
    split
    · rw [List.getElem?_set]
      split
      · omega
      · rfl
    · rfl

theorem nclos_any (y : Int) (bl : Nat) (la : Option Addr) (n c : Nat) (w : World) (hb : Blk w bl 22 [.slice la n c]) :
    Calls Try.prog 20 #[.int .i64 y, .pointer (some ⟨bl, 0, none⟩)] w fun e w' => e = .returned (.bool (!inL n y)) ∧ w = w' := by
  have c0 := hb.cell 0
  simp only [List.getElem?_cons_zero] at c0
  by_cases h0 : y < 0
  · have HV := Lib.hid (show (!inL n y) = true by unfold inL; rw [decide_eq_false (by omega)]; rfl)
    go_enter Try.func20, Try.ntmps20
    go_wp2_with fail
    go_ret
    exact ⟨by rw [HV.out]; rfl, rfl⟩
  · have h0' : 0 ≤ y := by omega
    by_cases h1 : y < (n : Int)
    · have HV := Lib.hid (show (!inL n y) = false by unfold inL; rw [decide_eq_true h0', decide_eq_true h1]; rfl)
      clear h0
      go_enter Try.func20, Try.ntmps20
      go_wp2_with fail
      go_ret
      refine ⟨?_, rfl⟩
      rw [HV.out]
      show Ending.returned (.bool (decide (y < 0) || decide ((n : Int) ≤ y))) = _
      rw [decide_eq_false (by omega), decide_eq_false (by omega)]
      rfl
    · have HV := Lib.hid (show (!inL n y) = true by unfold inL; rw [decide_eq_false h1, Bool.and_false]; rfl)
      have h1' : (n : Int) ≤ y := by omega
      clear h0 h1
      go_enter Try.func20, Try.ntmps20
      go_wp2_with fail
      go_ret
      refine ⟨?_, rfl⟩
      rw [HV.out]
      rfl

/-- The first of a row that is to be struck. -/
def badN (n : Nat) (xs : List Int) : Nat := xs.findIdx fun y => !inL n y
theorem badN_at (n : Nat) (xs : List Int) (k : Nat) (hk : k < xs.length) (h : ∀ j, j < k → inL n (xs.getD j 0) = true) (he : inL n (xs.getD k 0) = false) : badN n xs = k := by
  unfold badN
  rw [List.findIdx_eq hk]
  rw [List.getD_eq_getElem?_getD, List.getElem?_eq_getElem hk] at he
  refine ⟨by simpa using he, fun j hj => ?_⟩
  have := h j hj
  rw [List.getD_eq_getElem?_getD, List.getElem?_eq_getElem (by omega)] at this
  simpa using this
theorem badN_none (n : Nat) (xs : List Int) (h : ∀ j, j < xs.length → inL n (xs.getD j 0) = true) : badN n xs = xs.length := by
  unfold badN
  rw [List.findIdx_eq_length]
  intro y hy
  obtain ⟨j, hj, rfl⟩ := List.getElem_of_mem hy
  have := h j hj
  rw [List.getD_eq_getElem?_getD, List.getElem?_eq_getElem hj] at this
  simpa using this
def badI (n : Nat) (xs : List Int) : Int := if badN n xs < xs.length then (badN n xs : Int) else -1

theorem ints_at (w : World) (u : Value) (xs : List Int) (h : w.ownsRow 0 3 1 u xs.length (xs.map (Value.int .i64))) (k : Nat) (hk : k < xs.length) :
    ∃ g c cur, u = .slice (some ⟨g, 0, none⟩) xs.length c ∧ Blk w g 3 cur ∧ xs.length ≤ c ∧ cur.length = c ∧ cur.take xs.length = xs.map (Value.int .i64) ∧ w.cell? ⟨g, k, none⟩ = some (.int .i64 (xs.getD k 0)) := by
  obtain ⟨g, c, cur, rfl, hb, hn, -, hl, ht⟩ := owns_some h (by omega)
  rw [Nat.mul_one] at hl ht
  refine ⟨g, c, cur, rfl, hb, hn, hl, ht, ?_⟩
  rw [hb.cell]
  have : (cur.take xs.length)[k]? = (xs.map (Value.int .i64))[k]? := by rw [ht]
  rw [List.getElem?_take, if_pos hk] at this
  rw [this, List.getElem?_map, List.getElem?_eq_getElem hk]
  simp [hk]

set_option maxHeartbeats 2000000 in
theorem nidx_any (u : Value) (xs : List Int) (bl : Nat) (la : Option Addr) (n c : Nat) (w : World) (h : w.ownsRow 0 3 1 u xs.length (xs.map (Value.int .i64))) (hl : xs.length ≤ 1000) (hb : Blk w bl 22 [.slice la n c]) :
    Calls Try.prog 29 #[u, .func (.func 20) #[] #[.pointer (some ⟨bl, 0, none⟩)]] w fun e w' => e = .returned (.int .i64 (badI n xs)) ∧ w = w' := by
  have HAT := Lib.hid (fun k hk => ints_at w u xs h k hk)
  have HCL := Lib.hid (fun y => nclos_any y bl la n c w hb)
  have HF1 := Lib.hid (fun k hk h1 h2 => badN_at n xs k hk h1 h2)
  have HF2 := Lib.hid (badN_none n xs)
  have HFI := Lib.hid (show badI n xs = if badN n xs < xs.length then (badN n xs : Int) else -1 from rfl)
  obtain ⟨ua, uc, rfl⟩ := owns_slice h
  generalize badI n xs = R at *
  clear h hb
  go_enter Try.func29, Try.ntmps29
  go_wp2_with fail
  go_loop [8] (fun i => ∃ k : Nat, k ≤ xs.length ∧ i = .int .i64 (k : Int) ∧ Hid (∀ j, j < k → inL n (xs.getD j 0) = true)) (fun i => xs.length - (intOf i).toNat)
  case atStart => exact ⟨0, Nat.zero_le _, rfl, Lib.hid (fun j hj => by omega)⟩
  case round =>
    obtain ⟨k, hk, rfl, HNO⟩ := hrel
    by_cases hlt : k < xs.length
    · obtain ⟨g, c', cur, he, -, -, -, -, hc⟩ := HAT.out k hlt
      cases he
      have HF := Lib.hid (HF1.out k hlt HNO.out)
      have HC := Lib.hid (HCL.out (xs.getD k 0))
      obtain ⟨y, hy⟩ : ∃ y, xs.getD k 0 = y := ⟨_, rfl⟩
      rw [hy] at HF HC hc
      go_wp2_with fail
      refine HC.out.mono ?_
      rintro e w2 ⟨rfl, rfl⟩
      clear HC
      cases hq : inL n y with
      | false =>
        have hfi := HFI.out
        rw [HF.out hq, if_pos hlt] at hfi
        subst hfi
        clear HF hq hy
        go_wp2_with fail
        go_ret
        exact ⟨rfl, rfl⟩
      | true =>
        have HNO2 := Lib.hid (show ∀ j, j < k + 1 → inL n (xs.getD j 0) = true from fun j hj => by
          by_cases h : j < k
          · exact HNO.out j h
          · obtain rfl : j = k := by omega
            rw [hy]; exact hq)
        clear HF hq hy
        go_wp2_with fail
        go_round
        case rel => exact ⟨k + 1, by omega, by go_num, HNO2⟩
        case measure => simp [intOf]; omega
    · obtain rfl : k = xs.length := by omega
      have hfi := HFI.out
      rw [HF2.out HNO.out, if_neg (Nat.lt_irrefl _)] at hfi
      subst hfi
      go_wp2_with fail
      go_ret
      exact ⟨rfl, rfl⟩

/-- A row is kept so far. -/
structure DelInv (w wr : World) (g n : Nat) (xs : List Int) (cur : List Value) (i j : Nat) (cs : List Value) : Prop where
  b : Blk wr g 3 cs
  len : cs.length = cur.length
  kept : cs.take i = ((xs.take j).filter (inL n)).map (Value.int .i64)
  num : i = ((xs.take j).filter (inL n)).length
  rest : ∀ m, j ≤ m → cs[m]? = cur[m]?
  x : Ext [g] w wr

theorem take_filter_succ (n : Nat) (xs : List Int) (j : Nat) (hj : j < xs.length) : (xs.take (j + 1)).filter (inL n) = (xs.take j).filter (inL n) ++ (if inL n (xs.getD j 0) then [xs.getD j 0] else []) := by
  rw [List.take_succ_eq_append_getElem hj, List.filter_append]
  congr 1
  rw [List.getD_eq_getElem?_getD, List.getElem?_eq_getElem hj, Option.getD_some]
  cases h : inL n xs[j] <;> simp [h]
theorem DelInv.skip {w wr : World} {g n : Nat} {xs : List Int} {cur : List Value} {i j : Nat} {cs : List Value} (h : DelInv w wr g n xs cur i j cs) (hj : j < xs.length) (hb : inL n (xs.getD j 0) = false) : DelInv w wr g n xs cur i (j + 1) cs := by
  have e := take_filter_succ n xs j hj
  rw [hb] at e
  simp only [Bool.false_eq_true, if_false, List.append_nil] at e
  exact ⟨h.b, h.len, by rw [e]; exact h.kept, by rw [e]; exact h.num, fun m hm => h.rest m (by omega), h.x⟩
theorem DelInv.keep {w wr : World} {g n : Nat} {xs : List Int} {cur : List Value} {i j : Nat} {cs : List Value} (h : DelInv w wr g n xs cur i j cs) (hj : j < xs.length) (hx : xs.length ≤ cur.length) (hi : i ≤ j) (hb : inL n (xs.getD j 0) = true) :
    DelInv w (wr.setCell ⟨g, i, none⟩ (.int .i64 (xs.getD j 0))) g n xs cur (i + 1) (j + 1) (cs.set i (.int .i64 (xs.getD j 0))) := by
  have e := take_filter_succ n xs j hj
  rw [hb] at e
  simp only [if_true] at e
  have hil : i < cs.length := by rw [h.len]; omega
  refine ⟨h.b.set i _, by simp [h.len], ?_, by rw [e, List.length_append, ← h.num]; rfl, fun m hm => ?_, h.x.setCell (.inl (by simp)) _⟩
  · rw [e, List.map_append, ← h.kept, List.take_succ_eq_append_getElem (by simpa using hil)]
    congr 1
    · apply List.ext_getElem?
      intro q
      rw [List.getElem?_take, List.getElem?_take]
      split
      · rw [List.getElem?_set]
        split
        · omega
        · rfl
      · rfl
    · simp
  · rw [List.getElem?_set]
    split
    · omega
    · exact h.rest m (by omega)
theorem filter_first (n : Nat) (xs : List Int) (i : Nat) (hi : i < xs.length) (h : badN n xs = i) : (xs.take (i + 1)).filter (inL n) = xs.take i ∧ (∀ y ∈ xs.take i, inL n y = true) ∧ inL n (xs.getD i 0) = false := by
  unfold badN at h
  rw [List.findIdx_eq hi] at h
  obtain ⟨h1, h2⟩ := h
  have hb : inL n (xs.getD i 0) = false := by
    rw [List.getD_eq_getElem?_getD, List.getElem?_eq_getElem hi]; simpa using h1
  have hall : ∀ y ∈ xs.take i, inL n y = true := by
    intro y hy
    obtain ⟨q, hq, rfl⟩ := List.getElem_of_mem hy
    rw [List.length_take] at hq
    rw [List.getElem_take]
    simpa using h2 q (by omega)
  refine ⟨?_, hall, hb⟩
  rw [take_filter_succ n xs i hi, hb]
  simp only [Bool.false_eq_true, if_false, List.append_nil]
  rw [List.filter_eq_self]
  exact hall

/-- What DeleteFunc leaves. -/
def DelPost (n : Nat) (xs : List Int) (u : Value) (w : World) (e : Ending) (w' : World) : Prop :=
  ∃ u', e = .returned u' ∧ w'.ownsRow 0 3 1 u' (xs.filter (inL n)).length ((xs.filter (inL n)).map (Value.int .i64)) ∧ Ext u.ownBlock.toList w w' ∧ u'.ownBlock = u.ownBlock

set_option maxHeartbeats 4000000 in
theorem ndel_any (u : Value) (xs : List Int) (bl : Nat) (la : Option Addr) (n c : Nat) (w : World) (h : w.ownsRow 0 3 1 u xs.length (xs.map (Value.int .i64))) (hl : xs.length ≤ 1000) (hb : Blk w bl 22 [.slice la n c]) (hne : u.ownBlock ≠ some bl) :
    Calls Try.prog 18 #[u, .func (.func 20) #[] #[.pointer (some ⟨bl, 0, none⟩)]] w (DelPost n xs u w) := by
  have HIX := Lib.hid (nidx_any u xs bl la n c w h hl hb)
  by_cases hall : badN n xs < xs.length
  · obtain ⟨g, cc, cur, rfl, hbl, hcc, hcl, htk, -⟩ := ints_at w u xs h 0 (by omega)
    have hgb : g ≠ bl := fun e => hne (by rw [e]; rfl)
    have hmx : cc ≤ maxLen := by
      obtain ⟨g', c', cur', he, -, -, hm, -, -⟩ := owns_some h (by omega)
      cases he; exact hm
    obtain ⟨i0, hi0⟩ : ∃ i, badN n xs = i := ⟨_, rfl⟩
    obtain ⟨f1, f2, f3⟩ := filter_first n xs i0 (hi0 ▸ hall) hi0
    have hbi : badI n xs = (i0 : Int) := by unfold badI; rw [if_pos hall, hi0]
    rw [hbi] at HIX
    rw [hi0] at hall
    have I0 : DelInv w w g n xs cur i0 (i0 + 1) cur := by
      refine ⟨hbl, rfl, ?_, by rw [f1, List.length_take]; omega, fun _ _ => rfl, Ext.refl _ _⟩
      rw [f1, List.map_take, ← htk, List.take_take, Nat.min_eq_left (by omega)]
    have HCL := Lib.hid (fun y w' (x : Ext [g] w w') => nclos_any y bl la n c w' (hb.ext x (by simp; omega)))
    have HCU := Lib.hid (fun (k : Nat) (hk : k < xs.length) => (show cur[k]? = some (Value.int .i64 (xs.getD k 0)) from by
      have : (cur.take xs.length)[k]? = (xs.map (Value.int .i64))[k]? := by rw [htk]
      rw [List.getElem?_take, if_pos hk] at this
      rw [this, List.getElem?_map, List.getElem?_eq_getElem hk]
      simp [hk]))
    have HSX := Lib.hid (fun k (hk : k < xs.length) => take_filter_succ n xs k hk)
    have hcl0 := hcl
    clear f1 f2 f3 hi0 htk h hb hne hbi hbl
    unfold maxLen at hmx
    have hcur : xs.length ≤ cur.length := by omega
    go_enter Try.func18, Try.ntmps18
    go_wp2_with fail
    refine HIX.out.mono ?_
    rintro e w1 ⟨rfl, rfl⟩
    clear HIX
    have hm1 : ((i0 : Int) == -1) = false := by rw [beq_eq_false_iff_ne]; omega
    go_wp2_with fail
    go_loopw [5, 6] (fun i j wr => ∃ (ii jj : Nat) (cs : List Value), i = .int .i64 ii ∧ j = .int .i64 jj ∧ jj ≤ xs.length ∧ ii < jj ∧ DelInv w wr g n xs cur ii jj cs) (fun _ j _ => xs.length - (intOf j).toNat)
    case atStart => exact ⟨i0, i0 + 1, cur, rfl, by go_num, by omega, by omega, I0⟩
    case round =>
      clear I0 hall hm1
      obtain ⟨ii, jj, cs, rfl, rfl, hjj, hij, I⟩ := hrel
      by_cases hlt : jj < xs.length
      · have hcj : wr.cell? ⟨g, jj, none⟩ = some (.int .i64 (xs.getD jj 0)) := by rw [I.b.cell, I.rest jj (Nat.le_refl _)]; exact HCU.out jj hlt
        have hci : ∃ v, wr.cell? ⟨g, ii, none⟩ = some v := by rw [I.b.cell]; exact ⟨_, List.getElem?_eq_getElem (by rw [I.len]; omega)⟩
        obtain ⟨vi, hci⟩ := hci
        have hfi := I.b.frozen ii
        have hglt := I.b.lt
        have HC := Lib.hid (HCL.out (xs.getD jj 0) wr I.x)
        have HSK := Lib.hid (fun hb => I.skip hlt hb)
        have HKP := Lib.hid (fun hb => I.keep hlt hcur (by omega) hb)
        obtain ⟨y, hy⟩ : ∃ y, xs.getD jj 0 = y := ⟨_, rfl⟩
        rw [hy] at hcj HC HSK HKP
        clear I
        go_wp2_with fail
        refine HC.out.mono ?_
        rintro e w2 ⟨rfl, rfl⟩
        clear HC
        cases hq : inL n y with
        | true =>
          have I2 := HKP.out hq
          clear hq hy HSK HKP
          go_wp2_with fail
          go_roundw
          case rel => exact ⟨ii + 1, jj + 1, _, by go_num, by go_num, by omega, by omega, I2⟩
          case measure => simp [intOf]; omega
        | false =>
          have I2 := HSK.out hq
          clear hq hy HSK HKP
          go_wp2_with fail
          go_roundw
          case rel => exact ⟨ii, jj + 1, _, rfl, by go_num, by omega, by omega, I2⟩
          case measure => simp [intOf]; omega
      · obtain rfl : jj = xs.length := by omega
        have hkept := I.kept
        have hnum := I.num
        rw [List.take_length] at hkept hnum
        have HK := Lib.hid hkept
        have HN := Lib.hid hnum
        obtain ⟨cs', S1, S2, S3, S4⟩ := Blk.setCells (List.replicate (xs.length - ii) (.int .i64 0)) ii wr cs I.b
        have hcl : ∀ ty, (Builtin.clear_ #[24] ty #[.slice (some ⟨g, ii, none⟩) (xs.length - ii) (cc - ii)]).run Try.prog wr = .ok (.tuple #[]) (wr.setCells g ii (List.replicate (xs.length - ii) (.int .i64 0))) :=
          fun ty => Lib.run_clear_slice wr 24 3 ty (.int .i64 0) Try.underlying24 (fun w => by kernel_rfl) rfl rfl g ii _ _ (by omega) (fun q hq => by rw [I.b.cell, List.getElem?_eq_getElem (by rw [I.len]; omega)]; rfl) (fun q hq => I.b.frozen _)
        have hcc' : ¬ cc = ii := by omega
        have HB := Lib.hid (show (wr.setCells g ii (List.replicate (xs.length - ii) (.int .i64 0))).ownsRow 0 3 1 (.slice (some ⟨g, 0, none⟩) ii cc) ii ((xs.filter (inL n)).map (Value.int .i64)) from
          ⟨by rw [List.length_map, Nat.mul_one]; exact HN.out.symm, .inr ⟨g, cc, cs'.toArray, rfl, Nat.zero_le _, S1, by omega, by unfold maxLen; omega, by simp; rw [S2, I.len]; exact hcl0, by simp; rw [S3]; exact HK.out⟩⟩)
        have x2 := I.x.trans S4
        clear hkept hnum I S1 S2 S3 S4 hlt
        go_wp2_with fail
        go_ret
        exact ⟨_, rfl, by rw [← HN.out]; exact HB.out, x2, rfl⟩
  · have HBI := Lib.hid (show badI n xs = -1 by unfold badI; rw [if_neg hall])
    have HE := Lib.hid (show xs.filter (inL n) = xs from by
      rw [List.filter_eq_self]
      intro y hy
      have h1 : badN n xs = xs.length := Nat.le_antisymm List.findIdx_le_length (by omega)
      unfold badN at h1
      rw [List.findIdx_eq_length] at h1
      simpa using h1 y hy)
    clear hall
    unfold DelPost
    rw [HE.out]
    rw [HBI.out] at HIX
    change Calls _ _ _ _ (fun e w' => ∃ u', e = .returned u' ∧ w'.ownsRow 0 3 1 u' xs.length (xs.map (Value.int .i64)) ∧ Ext u.ownBlock.toList w w' ∧ u'.ownBlock = u.ownBlock)
    have HO := Lib.hid h
    obtain ⟨ua, uc, rfl⟩ := owns_slice h
    clear h hb hne
    go_enter Try.func18, Try.ntmps18
    go_wp2_with fail
    refine HIX.out.mono ?_
    rintro e w1 ⟨rfl, rfl⟩
    go_wp2_with fail
    go_ret
    exact ⟨_, rfl, HO.out, Ext.refl _ _, rfl⟩
end Go.Proofs.Ytooifaakflphpaa
