/- The law CanonSums: the walk. -/
import Derived.Test.YtkpckjkjlhaglaaDoorCanonC
import Derived.Test.YtkpckjkjlhaglaaDoorFew
import Derived.Test.YtkpckjkjlhaglaaDoorRCSum
import Derived.Test.YtkpckjkjlhaglaaDoorEqB
import Derived.Test.YtkpckjkjlhaglaaDoorFlat
namespace Go.Proofs.YtkpckjkjlhaglaaDoor
open Go.RowKit

/-! ### Maps' sums that came in -/
theorem bytes_of_flat : ∀ (n : Nat) {cs : List Value}, Flat (List.replicate n (.int .u8)) cs → ∃ m : List UInt8, m.length = n ∧ cs = bytesV m
  | 0, _, h => ⟨[], rfl, h⟩
  | n + 1, _, ⟨v, r, e, ⟨z, hz, hw⟩, h⟩ => by
    obtain ⟨m, hm, rfl⟩ := bytes_of_flat n h
    subst hz e
    have b1 : 0 ≤ z ∧ z ≤ 255 := by simp [Lit.wf] at hw; first | exact hw | (simp [IntKind.min, IntKind.max] at hw; omega)
    refine ⟨UInt8.ofNat z.toNat :: m, by simp [hm], ?_⟩
    simp [bytesV]; omega

theorem rowV_length : ∀ (ms : List (List UInt8)), (∀ m ∈ ms, m.length = 32) → (rowV ms).length = ms.length * 32
  | [], _ => rfl
  | x :: l, h => by
    have hx := h x (by simp)
    have e : rowV (x :: l) = bytesV x ++ rowV l := by simp [rowV]
    rw [e, List.length_append, bytesV_length, hx, rowV_length l (fun m hm => h m (by simp [hm])), List.length_cons]; omega
theorem rowV_take : ∀ (ms : List (List UInt8)) (n : Nat), (∀ m ∈ ms, m.length = 32) → rowV (ms.take n) = (rowV ms).take (n * 32)
  | [], n, _ => by simp [rowV]
  | x :: l, 0, _ => by simp [rowV]
  | x :: l, n + 1, h => by
    have hx := h x (by simp)
    have e : ∀ l : List (List UInt8), rowV (x :: l) = bytesV x ++ rowV l := fun l => by simp [rowV]
    rw [List.take_succ_cons, e, e, rowV_take l n (fun m hm => h m (by simp [hm])), List.take_append, bytesV_length, hx, show (n + 1) * 32 - 32 = n * 32 by omega, List.take_of_length_le (l := bytesV x) (by rw [bytesV_length]; omega)]

def MapsArg (w : World) (v : Value) (ms : List (List UInt8)) : Prop :=
  (∀ m ∈ ms, m.length = 32) ∧ ∃ ao c, v = .slice ao ms.length c ∧ ms.length ≤ c ∧ c ≤ maxLen ∧ Reads w v 32 ms.length (rowV ms)

theorem maps_of_row {w : World} {a : Option Addr} {len cap : Nat} (h : RowOf (Flat (List.replicate 32 (.int .u8))) 32 w a len cap) : ∃ ms : List (List UInt8), MapsArg w (.slice a len cap) ms := by
  rcases h with ⟨rfl, rfl, rfl⟩ | ⟨x, rfl, hl, hm, hc⟩
  · exact ⟨[], by simp, none, 0, rfl, Nat.le_refl _, by unfold maxLen; omega, none, 0, rfl, rfl, fun _ => ⟨rfl, rfl⟩, fun ad e => by cases e⟩
  · have hi : ∀ i, i < len → ∃ m : List UInt8, m.length = 32 ∧ ∀ j, j < 32 → w.cell? ((x.add (i * 32)).add j) = (bytesV m)[j]? := by
      intro i hi
      obtain ⟨cs, -, hf, hcs⟩ := hc i (by omega)
      obtain ⟨m, hm, rfl⟩ := bytes_of_flat 32 hf
      exact ⟨m, hm, hcs⟩
    let f : Nat → List UInt8 := fun i => if h : i < len then Classical.choose (hi i h) else []
    have hll : ((List.range len).map f).length = len := by simp
    have hall : ∀ m ∈ (List.range len).map f, m.length = 32 := by
      intro m hm
      obtain ⟨i, hi', rfl⟩ := List.mem_map.1 hm
      have hi2 : i < len := by simpa using hi'
      have : f i = Classical.choose (hi i hi2) := by simp [f, hi2]
      rw [this]
      exact (Classical.choose_spec (hi i hi2)).1
    refine ⟨(List.range len).map f, hall, some x, cap, by rw [hll], by rw [hll]; exact hl, hm, some x, cap, by rw [hll], rowV_length _ hall, (fun e => by cases e), fun ad e j u hu => ?_⟩
    obtain rfl := Option.some.inj e
    have hj : j < len * 32 := by have := (List.getElem?_eq_some_iff.1 hu).1; rw [rowV_length _ hall, hll] at this; exact this
    have hd : j = j / 32 * 32 + j % 32 := by omega
    have hq : j / 32 < len := by omega
    rw [hd] at hu ⊢
    rw [rowV_at _ _ _ hall (by rw [hll]; exact hq) (by omega)] at hu
    have hf : ((List.range len).map f)[j / 32]'(by rw [hll]; exact hq) = Classical.choose (hi (j / 32) hq) := by simp [f, hq]
    rw [hf] at hu
    rw [← Addr.add_add, (Classical.choose_spec (hi (j / 32) hq)).2 (j % 32) (by omega)]
    exact hu

theorem MapsArg.cut {w : World} {a : Option Addr} {len c : Nat} {ms : List (List UInt8)} (h : MapsArg w (.slice a len c) ms) (n : Nat) (hn : n ≤ len) : (ms.take n).length = n ∧ (∀ m ∈ ms.take n, m.length = 32) ∧ Reads w (.slice a n c) 32 n (rowV (ms.take n)) := by
  obtain ⟨hall, ao, c', he, -, -, ao', c'', he', hl, hnn, hr⟩ := h
  cases he
  cases he'
  have e : (ms.take n).length = n := by rw [List.length_take]; omega
  have hall' : ∀ m ∈ ms.take n, m.length = 32 := fun m hm => hall m (List.mem_of_mem_take hm)
  refine ⟨e, hall', a, c, rfl, by rw [rowV_length _ hall', e], fun ea => ?_, fun ad ea j u hu => hr ad ea j u ?_⟩
  · have := hnn ea
    exact ⟨by omega, this.2⟩
  · rw [rowV_take _ _ hall, List.getElem?_take] at hu
    split at hu
    · exact hu
    · cases hu

/-! ### Other descriptors of the same maps -/
def xorI (b : BitVec 32) (x : Ins) : Ins := if isMapI x then { x with imm := x.imm ^^^ b } else x
theorem isMapI_xorI (b : BitVec 32) (x : Ins) : isMapI (xorI b x) = isMapI x := by unfold xorI; split <;> rfl
theorem xor_inj (b x y : BitVec 32) : x ^^^ b = y ^^^ b ↔ x = y := by
  constructor
  · intro h
    have := congrArg (· ^^^ b) h
    simpa [BitVec.xor_assoc] using this
  · rintro rfl; rfl
theorem mem_xor (b x : BitVec 32) (f : List (BitVec 32)) : x ^^^ b ∈ f.map (· ^^^ b) ↔ x ∈ f := by
  simp only [List.mem_map, xor_inj]
  exact ⟨fun ⟨y, h, e⟩ => e ▸ h, fun h => ⟨x, h, rfl⟩⟩
theorem idx_xor (b x : BitVec 32) : ∀ (f : List (BitVec 32)), (f.map (· ^^^ b)).idxOf (x ^^^ b) = f.idxOf x
  | [] => rfl
  | y :: f => by
    rw [List.map_cons, List.idxOf_cons, List.idxOf_cons, idx_xor b x f]
    have e : (y ^^^ b == x ^^^ b) = (y == x) := by rw [Bool.eq_iff_iff, beq_iff_eq, beq_iff_eq, xor_inj]
    rw [e]
theorem stepF_xor (b : BitVec 32) (f : List (BitVec 32)) (x : Ins) : stepF (f.map (· ^^^ b)) (xorI b x) = (stepF f x).map (· ^^^ b) := by
  unfold stepF
  rw [isMapI_xorI]
  cases hm : isMapI x
  · rfl
  · have e : xorI b x = { x with imm := x.imm ^^^ b } := by unfold xorI; rw [hm]; rfl
    rw [e]
    simp only [if_true]
    by_cases h : x.imm ∈ f
    · rw [if_pos h, if_pos ((mem_xor b x.imm f).2 h)]
    · rw [if_neg h, if_neg (fun h' => h ((mem_xor b x.imm f).1 h')), List.map_append]; rfl
theorem stepI_xor (b : BitVec 32) (f : List (BitVec 32)) (x : Ins) : stepI (f.map (· ^^^ b)) (xorI b x) = stepI f x := by
  unfold stepI
  rw [isMapI_xorI]
  cases hm : isMapI x
  · unfold xorI; rw [hm]; rfl
  · have e : xorI b x = { x with imm := x.imm ^^^ b } := by unfold xorI; rw [hm]; rfl
    rw [e]
    simp only [if_true]
    rw [idx_xor]
theorem fold_xor (b : BitVec 32) : ∀ (l : List Ins) (f : List (BitVec 32)), (l.map (xorI b)).foldl stepF (f.map (· ^^^ b)) = (l.foldl stepF f).map (· ^^^ b)
  | [], _ => rfl
  | x :: l, f => by rw [List.map_cons, List.foldl_cons, List.foldl_cons, stepF_xor, fold_xor b l]
theorem out_xor (b : BitVec 32) : ∀ (l : List Ins) (f : List (BitVec 32)), outFrom (f.map (· ^^^ b)) (l.map (xorI b)) = outFrom f l
  | [], _ => rfl
  | x :: l, f => by rw [List.map_cons, outFrom, outFrom, stepI_xor, stepF_xor, out_xor b l]
theorem fdsOf_xor (b : BitVec 32) (l : List Ins) : (fdsOf (l.map (xorI b))).length = (fdsOf l).length := by
  have h := fold_xor b l []
  simp only [List.map_nil] at h
  unfold fdsOf
  rw [h, List.length_map]
theorem outOf_xor (b : BitVec 32) (l : List Ins) : outOf (l.map (xorI b)) = outOf l := out_xor b l []

theorem bits_xor_i32 (x y : BitVec 32) : bits .xor .i32 x.toInt y.toInt = (x ^^^ y).toInt := by
  simp only [bits, IntKind.bits]
  rw [BitVec.ofInt_toInt, BitVec.ofInt_toInt]
  have h : ∀ n : Nat, IntKind.i32.wrap (n : Int) = (BitVec.ofNat 32 n).toInt := by
    intro n
    rw [BitVec.toInt_eq_toNat_cond, BitVec.toNat_ofNat, IntKind.wrap_i32]
    split <;> omega
  have := h (x ^^^ y).toNat
  rw [BitVec.ofNat_toNat, BitVec.setWidth_eq] at this
  exact this
theorem wf_i32 {z : Int} (h : (Lit.int .i32 z).wf = true) : (BitVec.ofInt 32 z).toInt = z := by
  have b : -2147483648 ≤ z ∧ z ≤ 2147483647 := by simp [Lit.wf] at h; first | exact h | (simp [IntKind.min, IntKind.max] at h; omega)
  rw [BitVec.toInt_ofInt]; simp [Int.bmod]; omega

theorem eq_sums (b c : List UInt8) : ∀ w, (Op.equalIn 10000 30 (.agg (bytesV (sumOf b)).toArray) (.agg (bytesV (sumOf c)).toArray)).run Tryd.prog w = .ok (decide (sumOf b = sumOf c)) w :=
  run_equal_bytes (P := Tryd.prog) 9998 Tryd.underlying30 Tryd.underlying5 (by kernel_rfl) (by kernel_rfl) (sumOf b) (sumOf c) (sumOf_length _) (sumOf_length _)

set_option maxHeartbeats 8000000 in
set_option maxRecDepth 100000 in
theorem csums_walk (v : Value) (l0 : List Ins) (a1 : Option Addr) (len1 cap1 : Nat) (ms0 : List (List UInt8)) (b : BitVec 32) (w : World) (G : DigG w) (h : InsArg w v l0) (hm : MapsArg w (.slice a1 len1 cap1) ms0) :
    Calls Tryd.prog 3 #[v, .slice a1 len1 cap1, .int .i32 b.toInt] w fun e w' => e = .returned (.bool true) ∧ Ext [] w w' := by
  obtain ⟨i1, hi, hz0, hz1, hz2⟩ := info_parts info_insn
  have HG := Lib.hid (fun w' (x' : Ext [] w w') => G.ext x' (by simp) (by simp))
  obtain ⟨ao, c, rfl, hlc, hcm, hr⟩ := h
  have HFEW := Lib.hid (few_any _ l0 w hr (by omega))
  clear hr hlc hcm G
  have hl60 := fewL_length l0
  generalize fewL l0 = l at *
  have hlen : len1 ≤ cap1 := by obtain ⟨-, ao, c, he, h, -⟩ := hm; cases he; exact h
  have hcap : cap1 ≤ 9223372036854775807 := by obtain ⟨-, ao, c, he, -, h, -⟩ := hm; cases he; unfold maxLen at h; omega
  have hcut := hm.cut (min len1 5) (by omega)
  obtain ⟨n, hn⟩ : ∃ n, n = min len1 5 := ⟨_, rfl⟩
  have IFN := Lib.hid (show (if 5 < (len1 : Int) then 5 else (len1 : Int)) = (n : Int) by split <;> omega)
  have p1 : 0 ≤ (if 5 < (len1 : Int) then 5 else (len1 : Int)) := by split <;> omega
  have p2 : (if 5 < (len1 : Int) then 5 else (len1 : Int)) ≤ (cap1 : Int) := by split <;> omega
  rw [← hn] at hcut
  have hn5 : n ≤ 5 := by omega
  generalize ms0.take n = ms at *
  obtain ⟨hml, hall, hmr⟩ := hcut
  subst hml
  have HMR := Lib.hid (fun w' (x : Ext [] w w') => hmr.ext x)
  have HALL := Lib.hid hall
  clear hm hn hmr hall
  go_enter Tryd.func3, Tryd.ntmps3
  go_wp2_with fail
  refine HFEW.out.mono ?_
  rintro e w1 ⟨v1, rfl, hown1, x1, fr1⟩
  obtain ⟨oa, oc, rfl⟩ := owns_slice hown1
  have hob1 : ∀ g, (Value.slice oa l.length oc).ownBlock = some g → g < w1.heap.size := fun g hg => owns_lt hown1 hg
  clear HFEW
  go_upto_region 3 with (fail)
  rw [IFN.out]
  simp only [Int.toNat_natCast]
  clear p1 p2 IFN hlen hcap
  go_wp2_with fail
  refine (slots_go _ l w1 (owns_reads hown1) (by omega)).mono ?_
  intro e w3 hp3
  unfold SlotsPost at hp3
  have CS : ∀ (u : Value) (l' : List Ins) (w' : World) (_ : Ext [] w w') (_ : Reads w' u 5 l'.length (insV l')) (_ : l'.length ≤ 100), Calls Tryd.prog 7 #[u, .slice a1 ms.length cap1] w' fun e w'' => e = .returned (.agg (bytesV (sumOf (joinB (encL l' :: ms)))).toArray) ∧ Ext [] w' w'' :=
    fun u l' w' x hr hl => csum_any u _ l' ms w' (HG.out w' x) hr (HMR.out w' x) HALL.out hl (by omega)
  have CR : ∀ (u : Value) (l' : List Ins) (w' : World) (_ : Ext [] w w') (_ : Reads w' u 5 l'.length (insV l')) (_ : l'.length ≤ 100), Calls Tryd.prog 8 #[u, .slice a1 ms.length cap1] w' fun e w'' => e = .returned (.agg (bytesV (sumOf (joinB (encL l' :: ms)))).toArray) ∧ Ext [] w' w'' :=
    fun u l' w' x hr hl => rcsum_any u _ l' ms w' hr (HMR.out w' x) HALL.out hl (by omega)
  have HCS := Lib.hid CS
  have HCR := Lib.hid CR
  clear CS CR
  by_cases h4 : (fdsOf l).length ≤ 4
  · rw [if_pos h4] at hp3
    obtain ⟨v5, v6, rfl, hown5, -, x13, fr5, -, -⟩ := hp3
    have hown1 := owns_ext hown1 x13 (by simp)
    have x3 := x1.trans x13
    have hs13 := x13.size
    have hob5 : ∀ g, v5.ownBlock = some g → g < w3.heap.size := fun g hg => owns_lt hown5 hg
    obtain ⟨a5, c5, rfl⟩ := owns_slice hown5
    clear x13
    go_wp2_with fail
    refine (slots_any w3).mono ?_
    rintro e w4 ⟨rfl, x34⟩
    have hown1 := owns_ext hown1 x34 (by simp)
    have hown5 := owns_ext hown5 x34 (by simp)
    have x4 := x3.trans x34
    have hs34 := x34.size
    clear x34 x3
    go_wp2_with fail
    refine (HCS.out _ l w4 x4 (owns_reads hown1) (by omega)).mono ?_
    rintro e w5 ⟨rfl, x45⟩
    have hown1 := owns_ext hown1 x45 (by simp)
    have hown5 := owns_ext hown5 x45 (by simp)
    have x5 := x4.trans x45
    have hs45 := x45.size
    clear x45 x4
    go_wp2_with fail
    refine (HCR.out _ l w5 x5 (owns_reads hown1) (by omega)).mono ?_
    rintro e w6 ⟨rfl, x56⟩
    have hown1 := owns_ext hown1 x56 (by simp)
    have hown5 := owns_ext hown5 x56 (by simp)
    have x6 := x5.trans x56
    have hs56 := x56.size
    clear x56 x5
    have heq := eq_sums (joinB (encL l :: ms)) (joinB (encL l :: ms))
    simp only [decide_true] at heq
    generalize (bytesV (sumOf (joinB (encL l :: ms)))).toArray = arr at *
    go_upto_region 8 with (fail)
    go_upto_region 9 with (at_builtin; go_must (refine wpList_app _ rfl (.tmp 41) (.tmp 42) 22 rfl 35 i1 _ 5 12 Tryd.underlying22 hi hz0 hz1 hz2 rfl (by decide) (.slice (some ⟨w6.heap.size, 0, none⟩) 0 0) 0 [] rfl ((Blk.new w6 35 #[]).owns rfl (Nat.zero_le _)) (.slice oa l.length oc) l.length (insV l) rfl (owns_reads (owns_ext hown1 ((Ext.refl [] w6).alloc _) (by simp))) (insV_oneCell l) (by unfold maxLen; omega) (by omega) ?_); intro v8 w8 hown8 hgrow8 hfr8 _)
    simp only [Nat.zero_add, List.nil_append] at hown8
    have x68 : Ext [] w6 w8 := ((Ext.refl [] w6).alloc _).grown hgrow8 (by intro g hg; simp [Value.ownBlock] at hg; exact .inr (by omega))
    have fr8 : ∀ g, v8.ownBlock = some g → w6.heap.size ≤ g := by
      intro g hg
      rcases hfr8 with h | ⟨g', h, hle⟩
      · rw [h] at hg; simp [Value.ownBlock] at hg; omega
      · rw [h] at hg; obtain rfl := Option.some.inj hg; simp at hle; omega
    have hown1 := owns_ext hown1 x68 (by simp)
    have hown5 := owns_ext hown5 x68 (by simp)
    have x8 := x6.trans x68
    have hs6 := x6.size
    obtain ⟨pa, pc, rfl⟩ := owns_slice hown8
    clear hgrow8 hfr8 x68
    go_wp2_with fail
    have HOO := Lib.hid (outOf_length l)
    go_loopw [11] (fun i wr => ∃ k : Nat, k ≤ l.length ∧ i = .int .i64 (k : Int) ∧ wr.ownsRow 0 35 5 (.slice pa l.length pc) l.length (insV (midM (xorI b) l k)) ∧ Ext (Value.slice pa l.length pc).ownBlock.toList w8 wr) (fun i _ => l.length - (intOf i).toNat)
    case atStart => exact ⟨0, by omega, rfl, by simpa [midM] using hown8, Ext.refl _ _⟩
    case round =>
      clear hown8
      obtain ⟨k, hk, rfl, ho, x⟩ := hrel
      have hl1 := owns_ext hown1 x (by intro g hg hm; have h1 := hob1 g hg; have h2 := fr8 g (by simpa using hm); omega)
      have xx : Ext [] w wr := x8.trans' x (by intro i hi; have h2 := fr8 i (by simpa using hi); exact .inr (by omega))
      by_cases hlt : k < l.length
      · obtain ⟨g1, oc1, cur1, he1, -, hoc1, hocm1, -, -⟩ := owns_some hl1 (by omega)
        cases he1
        obtain ⟨g8, oc8, cur8, he8, -, hoc8, hocm8, -, -⟩ := owns_some ho (by omega)
        cases he8
        unfold maxLen at hocm1 hocm8
        have hcell : ∀ j, j < 5 → wr.cell? ⟨g1, k * 5 + j, none⟩ = (l[k]).cells[j]? := by
          intro j hj
          rw [hl1.cellAt (k * 5 + j) (by omega), insV_at _ k j hlt hj]
        have hml := midM_length (xorI b) l k hk
        have hmk := Lib.hid (midM_at (xorI b) l k hlt)
        have hst := Lib.hid (midM_succ (xorI b) l k hlt)
        have HX := Lib.hid (show xorI b l[k] = if isMapI l[k] then { l[k] with imm := l[k].imm ^^^ b } else l[k] from rfl)
        generalize l[k] = y at *
        have c0 := hcell 0 (by omega)
        have c1 := hcell 1 (by omega)
        have c2 := hcell 2 (by omega)
        have c3 := hcell 3 (by omega)
        have c4 := hcell 4 (by omega)
        simp only [Ins.cells, List.getElem?_cons_zero, List.getElem?_cons_succ, Nat.add_zero] at c0 c1 c2 c3 c4
        clear hcell
        go_wp2_with fail
        refine (ismap_any y wr).mono ?_
        rintro e w9 ⟨rfl, x9⟩
        have ho9 := owns_ext ho x9 (by simp)
        have hg1l : g1 < wr.heap.size := World.block_lt_of_cell? wr _ c4
        have c4' := (x9.cell (p := ⟨g1, k * 5 + 4, none⟩) hg1l (by simp)).trans c4
        have y9 := x.trans' x9 (by simp)
        clear ho hl1 x xx x9 c0 c1 c2 c3 c4
        cases hm : isMapI y
        · have HI := Lib.hid (show xorI b y = y by rw [HX.out, hm]; rfl)
          clear hm
          go_wp2_with fail
          go_roundw
          case rel =>
            refine ⟨k + 1, by omega, by go_num, ?_, y9⟩
            rw [hst.out, HI.out, ← hmk.out, List.set_getElem_self]; exact ho9
          case measure => simp [intOf]; omega
        · have HI := Lib.hid (show xorI b y = { y with imm := y.imm ^^^ b } by rw [HX.out, hm]; rfl)
          clear hm
          have c8 : w9.cell? ⟨g8, k * 5 + 4, none⟩ = some (.int .i32 y.imm.toInt) := by
            rw [ho9.cellAt (k * 5 + 4) (by omega), insV_at _ k 4 (by rw [hml]; exact hlt) (by omega), hmk.out]; rfl
          have f8 := ho9.frozenAt (k * 5 + 4)
          have hset := Lib.hid (show (insV (midM (xorI b) l k)).set (k * 5 + 4) (.int .i32 (bits .xor .i32 y.imm.toInt b.toInt)) = insV (midM (xorI b) l (k + 1)) by
            rw [hst.out, HI.out, bits_xor_i32]
            have h := insV_set (midM (xorI b) l k) k (by rw [hml]; exact hlt) (y.imm ^^^ b)
            rw [hmk.out] at h
            exact h)
          go_wp2_with fail
          go_roundw
          case rel =>
            have ho5 := (ho9.stored (k * 5 + 4) (.int .i32 (bits .xor .i32 y.imm.toInt b.toInt))).1
            rw [hset.out] at ho5
            exact ⟨k + 1, by omega, by go_num, ho5, y9.setCell (.inl (by simp [Value.ownBlock])) _⟩
          case measure => simp [intOf]; omega
      · have hk' : k = l.length := by omega
        have e1 : midM (xorI b) l k = l.map (xorI b) := by rw [hk']; simp [midM]
        rw [e1] at ho
        have hown5 := owns_ext hown5 x (by intro g hg hm; have h1 := hob5 g hg; have h2 := fr8 g (by simpa using hm); omega)
        have HL := Lib.hid (show (l.map (xorI b)).length = l.length by simp)
        have HOX := Lib.hid (outOf_xor b l)
        have HFX := Lib.hid (fdsOf_xor b l)
        clear hk' e1 hk x hl1
        go_wp2_with fail
        refine (slots_go (.slice pa l.length pc) (l.map (xorI b)) wr (by rw [HL.out]; exact owns_reads ho) (by rw [HL.out]; omega)).mono ?_
        intro e w10 hp10
        unfold SlotsPost at hp10
        rw [HFX.out, if_pos h4, HOX.out, HL.out] at hp10
        obtain ⟨v12, v13, rfl, hown12, -, x10, -, -, -⟩ := hp10
        have hown5 := owns_ext hown5 x10 (by simp)
        have y10 := xx.trans x10
        obtain ⟨a12, c12, rfl⟩ := owns_slice hown12
        generalize outOf l = outs at *
        clear x10 xx ho h4
        go_wp2_with fail
        refine (HCS.out (.slice a5 l.length c5) outs w10 y10 (by rw [HOO.out]; exact owns_reads hown5) (by rw [HOO.out]; omega)).mono ?_
        rintro e w14 ⟨rfl, x14⟩
        have hown12 := owns_ext hown12 x14 (by simp)
        have y14 := y10.trans x14
        go_wp2_with fail
        refine (HCS.out (.slice a12 l.length c12) outs w14 y14 (by rw [HOO.out]; exact owns_reads hown12) (by rw [HOO.out]; omega)).mono ?_
        rintro e w15 ⟨rfl, x15⟩
        have heq := eq_sums (joinB (encL outs :: ms)) (joinB (encL outs :: ms))
        simp only [decide_true] at heq
        generalize (bytesV (sumOf (joinB (encL outs :: ms)))).toArray = arr2 at *
        go_wp2_with fail
        go_ret
        exact ⟨rfl, y14.trans x15⟩
  · rw [if_neg h4] at hp3
    obtain ⟨rfl, x13⟩ := hp3
    have hown1 := owns_ext hown1 x13 (by simp)
    have x3 := x1.trans x13
    clear x13
    go_wp2_with fail
    refine (slots_any w3).mono ?_
    rintro e w4 ⟨rfl, x34⟩
    have hown1 := owns_ext hown1 x34 (by simp)
    have x4 := x3.trans x34
    clear x34 x3
    go_wp2_with fail
    refine (HCS.out _ l w4 x4 (owns_reads hown1) (by omega)).mono ?_
    rintro e w5 ⟨rfl, x45⟩
    have hown1 := owns_ext hown1 x45 (by simp)
    have x5 := x4.trans x45
    clear x45 x4
    go_wp2_with fail
    refine (HCR.out _ l w5 x5 (owns_reads hown1) (by omega)).mono ?_
    rintro e w6 ⟨rfl, x56⟩
    have heq := eq_sums (joinB (encL l :: ms)) (joinB (encL l :: ms))
    simp only [decide_true] at heq
    generalize (bytesV (sumOf (joinB (encL l :: ms)))).toArray = arr at *
    go_wp2_with fail
    go_ret
    exact ⟨rfl, x5.trans x56⟩
end Go.Proofs.YtkpckjkjlhaglaaDoor
