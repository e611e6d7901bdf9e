/- Package digest: words. -/
import Derived.Test.YtbjkfgfiifnjoaaDoorDigest
import Derived.Test.YtbjkfgfiifnjoaaDoorRow
namespace Go.Proofs.YtbjkfgfiifnjoaaDoor
open Go.RowKit
set_option maxRecDepth 100000

def V32 (l : List (BitVec 32)) : List Value := l.map fun x => Value.int .u32 (x.toNat : Int)

/-- The first m bytes of word j. -/
def pw (b : List UInt8) (j : Nat) : Nat → BitVec 32
  | 0 => 0#32
  | m + 1 => (pw b j m) <<< 8 ||| BitVec.ofNat 32 (b.getD (4 * j + m) 0).toNat

/-- The words behind i bytes. -/
def wpart (b : List UInt8) (i : Nat) : List (BitVec 32) := (List.range 64).map fun j => pw b j (min 4 (i - 4 * j))

theorem wpart_length (b : List UInt8) (i : Nat) : (wpart b i).length = 64 := by simp [wpart]
theorem wpart_get (b : List UInt8) (i j : Nat) (hj : j < 64) : (wpart b i)[j]? = some (pw b j (min 4 (i - 4 * j))) := by simp [wpart, hj]
theorem wpart_zero (b : List UInt8) : wpart b 0 = List.replicate 64 0#32 := by
  apply List.ext_getElem
  · simp [wpart]
  · intro i h1 h2
    rw [List.getElem_replicate]
    simp only [wpart, List.getElem_map, List.getElem_range]
    rw [show min 4 (0 - 4 * i) = 0 by omega]; rfl
theorem wpart_step (b : List UInt8) (i : Nat) :
    (wpart b i).set (i / 4) ((pw b (i / 4) (i % 4)) <<< 8 ||| BitVec.ofNat 32 (b.getD i 0).toNat) = wpart b (i + 1) := by
  apply List.ext_getElem
  · simp [wpart]
  · intro j h1 h2
    simp only [List.length_set, wpart_length] at h1
    simp only [List.getElem_set]
    by_cases e : i / 4 = j
    · rw [if_pos e]
      simp only [wpart, List.getElem_map, List.getElem_range]
      subst e
      rw [show min 4 (i + 1 - 4 * (i / 4)) = i % 4 + 1 by omega, pw, show 4 * (i / 4) + i % 4 = i by omega]
    · rw [if_neg e]
      simp only [wpart, List.getElem_map, List.getElem_range]
      rw [show min 4 (i + 1 - 4 * j) = min 4 (i - 4 * j) by omega]

theorem bv_word (p : BitVec 32) (c : UInt8) : bits .or .u32 ((p.toNat : Int) * 256 % 4294967296) (c.toNat : Int) = ((p <<< 8 ||| BitVec.ofNat 32 c.toNat).toNat : Int) := by
  have hc : (c.toNat : Int) = ((BitVec.ofNat 32 c.toNat).toNat : Int) := by
    have := c.toNat_lt
    rw [BitVec.toNat_ofNat]; omega
  rw [hc, ← bv_or, ← bv_shl']
  simp

def ssig0 (x : BitVec 32) : BitVec 32 := rotr x 7 ^^^ rotr x 18 ^^^ x >>> 3
def ssig1 (x : BitVec 32) : BitVec 32 := rotr x 17 ^^^ rotr x 19 ^^^ x >>> 10

theorem ssig0_val (x : BitVec 32) : bits .xor .u32 (bits .xor .u32 ((rotr x 7).toNat : Int) ((rotr x 18).toNat : Int)) ((x.toNat : Int) / 8) = ((ssig0 x).toNat : Int) := by
  rw [bv_xor, show (8 : Int) = 2 ^ 3 from rfl, bv_shr, bv_xor]; rfl
theorem ssig1_val (x : BitVec 32) : bits .xor .u32 (bits .xor .u32 ((rotr x 17).toNat : Int) ((rotr x 19).toNat : Int)) ((x.toNat : Int) / 1024) = ((ssig1 x).toNat : Int) := by
  rw [bv_xor, show (1024 : Int) = 2 ^ 10 from rfl, bv_shr, bv_xor]; rfl

/-- The word behind those that there are. -/
def sched (l : List (BitVec 32)) : BitVec 32 :=
  ssig1 (l.getD (l.length - 2) 0#32) + l.getD (l.length - 7) 0#32 + ssig0 (l.getD (l.length - 15) 0#32) + l.getD (l.length - 16) 0#32

def wext (l : List (BitVec 32)) : Nat → List (BitVec 32)
  | 0 => l
  | k + 1 => wext l k ++ [sched (wext l k)]

theorem wext_succ (l : List (BitVec 32)) (k : Nat) : wext l (k + 1) = wext l k ++ [sched (wext l k)] := rfl

theorem wext_length (l : List (BitVec 32)) : ∀ k, (wext l k).length = l.length + k
  | 0 => rfl
  | k + 1 => by simp [wext, wext_length l k]; omega

/-- A block's words, all of them. -/
def wordsOf (b : List UInt8) : List (BitVec 32) := wext ((wpart b 64).take 16) 48

theorem wpart_tail (b : List UInt8) : wpart b 64 = (wpart b 64).take 16 ++ List.replicate 48 0#32 := by
  have h : (wpart b 64).drop 16 = List.replicate 48 0#32 := by
    apply List.ext_getElem
    · simp [wpart]
    · intro i h1 h2
      simp only [List.length_replicate] at h2
      simp only [wpart, List.getElem_drop, List.getElem_map, List.getElem_range, List.getElem_replicate]
      rw [show min 4 (64 - 4 * (16 + i)) = 0 by omega]; rfl
  rw [← h, List.take_append_drop]

set_option maxHeartbeats 2000000 in
set_option maxRecDepth 100000 in
theorem words_any (bb off cap : Nat) (b : List UInt8) (w : World) (hb : b.length = 64) (hlt : bb < w.heap.size)
    (hc : ∀ i, i < 64 → w.cell? ⟨bb, off + i, none⟩ = some (.int .u8 ((b.getD i 0).toNat : Int))) :
    Calls Tryd.prog 120 #[.slice (some ⟨bb, off, none⟩) 64 cap] w fun e w' => e = .returned (.agg (V32 (wordsOf b)).toArray) ∧ Ext [] w w' := by
  have HC := Lib.hid hc
  have HB := Lib.hid hb
  clear hc hb
  go_enter Tryd.func120, Tryd.ntmps120
  go_wp2_with fail
  go_loopw [13] (fun i wr => ∃ k : Nat, k ≤ 64 ∧ i = .int .i64 k ∧ Blk wr (w.heap.size + 1) 206 (V32 (wpart b k)) ∧ Blk wr w.heap.size 206 (V32 (List.replicate 64 0#32)) ∧ Ext [] w wr) (fun i _ => 64 - (intOf i).toNat)
  case atStart =>
    refine ⟨0, Nat.zero_le _, rfl, ?_, ?_, ((Ext.refl _ _).alloc _).alloc _⟩
    · rw [wpart_zero]; exact Blk.new' _ _ _ _ (by simp)
    · exact (Blk.new w _ _).alloc _
  case round =>
    obtain ⟨k, hk, rfl, H, H0, x⟩ := hrel
    by_cases hk64 : k < 64
    · have hcell := (x.cell (p := ⟨bb, off + k, none⟩) hlt (by simp)).trans (HC.out k hk64)
      have hw := H.cell (k / 4)
      have hwe : (V32 (wpart b k))[k / 4]? = some (.int .u32 ((pw b (k / 4) (k % 4)).toNat : Int)) := by
        unfold V32
        rw [List.getElem?_map, wpart_get b k (k / 4) (by omega), show min 4 (k - 4 * (k / 4)) = k % 4 by omega]; rfl
      rw [hwe] at hw
      have hf := H.frozen (k / 4)
      have hst := wpart_step b k
      have HS := Lib.hid hst
      have hpl := (pw b (k / 4) (k % 4)).isLt
      have hcl := (b.getD k 0).toNat_lt
      clear hwe hst
      generalize pw b (k / 4) (k % 4) = p at *
      generalize b.getD k 0 = c at *
      go_wp2_with fail
      go_roundw
      case rel =>
        refine ⟨k + 1, by omega, by go_num, ?_, H0.setOther (by simp) _, x.setCell (.inr (by simp)) _⟩
        rw [bv_word]
        have := H.set (k / 4) (.int .u32 ((p <<< 8 ||| BitVec.ofNat 32 c.toNat).toNat : Int))
        unfold V32 at this
        rw [← List.map_set (f := fun x : BitVec 32 => Value.int .u32 (x.toNat : Int)), HS.out] at this
        exact this
      case measure => simp [intOf]; omega
    · have hk' : k = 64 := by omega
      rw [hk'] at H
      clear hk'
      go_wp2_with fail
      go_loopw [6] (fun i wr => ∃ t : Nat, 16 ≤ t ∧ t ≤ 64 ∧ i = .int .i64 t ∧ Blk wr (w.heap.size + 1) 206 (V32 (wext ((wpart b 64).take 16) (t - 16) ++ List.replicate (64 - t) 0#32)) ∧ Blk wr w.heap.size 206 (V32 (List.replicate 64 0#32)) ∧ Ext [] w wr) (fun i _ => 64 - (intOf i).toNat)
      case atStart =>
        refine ⟨16, by omega, by omega, rfl, ?_, H0, x⟩
        rw [wpart_tail] at H
        exact H
      case round =>
        clear H H0 x hk
        obtain ⟨t, ht16, ht64, rfl, H, H0, x⟩ := hrel
        have hWl : (wext ((wpart b 64).take 16) (t - 16)).length = t := by rw [wext_length]; simp [wpart_length]; omega
        have hWx : wext ((wpart b 64).take 16) (t + 1 - 16) = wext ((wpart b 64).take 16) (t - 16) ++ [sched (wext ((wpart b 64).take 16) (t - 16))] := by
          rw [show t + 1 - 16 = t - 16 + 1 by omega]; rfl
        have HX := Lib.hid hWx
        have HL := Lib.hid hWl
        clear hWx hWl
        generalize wext ((wpart b 64).take 16) (t - 16) = W at *
        by_cases hlt64 : t < 64
        · have cells : ∀ d, 1 ≤ d → d ≤ 16 → wr.cell? ⟨w.heap.size + 1, t - d, none⟩ = some (.int .u32 ((W.getD (W.length - d) 0#32).toNat : Int)) := by
            intro d h1 h2
            have hl := HL.out
            rw [H.cell]
            unfold V32
            rw [List.getElem?_map, List.getElem?_append_left (by omega), hl]
            simp [show t - d < W.length by omega]
          have c15 := cells 15 (by omega) (by omega)
          have c2 := cells 2 (by omega) (by omega)
          have c7 := cells 7 (by omega) (by omega)
          have c16 := cells 16 (by omega) (by omega)
          clear cells
          have ct : wr.cell? ⟨w.heap.size + 1, t, none⟩ = some (.int .u32 0) := by
            have hl := HL.out
            rw [H.cell]
            unfold V32
            rw [List.getElem?_map, List.getElem?_append_right (by omega), hl, List.getElem?_replicate, if_pos (by omega)]; rfl
          have hf := H.frozen t
          obtain ⟨x15, h15⟩ : ∃ y, y = W.getD (W.length - 15) 0#32 := ⟨_, rfl⟩
          rw [← h15] at c15
          have H15 := Lib.hid h15
          clear h15
          obtain ⟨x2, h2⟩ : ∃ y, y = W.getD (W.length - 2) 0#32 := ⟨_, rfl⟩
          rw [← h2] at c2
          have H2 := Lib.hid h2
          clear h2
          obtain ⟨x7, h7⟩ : ∃ y, y = W.getD (W.length - 7) 0#32 := ⟨_, rfl⟩
          rw [← h7] at c7
          have H7 := Lib.hid h7
          clear h7
          obtain ⟨x16, h16⟩ : ∃ y, y = W.getD (W.length - 16) 0#32 := ⟨_, rfl⟩
          rw [← h16] at c16
          have H16 := Lib.hid h16
          clear h16
          go_wp2_with fail
          go_quiet (fail)
          rename_i nq
          go_wp2_with fail
          refine (right_any x15 7 _ (by omega) (by omega)).mono ?_; rintro e w' ⟨rfl, rfl⟩; go_wp2_with fail
          refine (right_any x15 18 _ (by omega) (by omega)).mono ?_; rintro e w' ⟨rfl, rfl⟩; go_wp2_with fail
          refine (right_any x2 17 _ (by omega) (by omega)).mono ?_; rintro e w' ⟨rfl, rfl⟩; go_wp2_with fail
          refine (right_any x2 19 _ (by omega) (by omega)).mono ?_; rintro e w' ⟨rfl, rfl⟩; go_wp2_with fail
          rw [ssig0_val, ssig1_val]
          obtain ⟨s0, hs0⟩ : ∃ y, y = ssig0 x15 := ⟨_, rfl⟩
          obtain ⟨s1, hs1⟩ : ∃ y, y = ssig1 x2 := ⟨_, rfl⟩
          rw [← hs0, ← hs1]
          have HS0 := Lib.hid hs0
          have HS1 := Lib.hid hs1
          clear hs0 hs1
          have e7 : IntKind.i64.wrap ((t : Int) - 7) = (t : Int) - 7 := IntWalk.i64_in _ (by omega)
          have e16 : IntKind.i64.wrap ((t : Int) - 16) = (t : Int) - 16 := IntWalk.i64_in _ (by omega)
          have n7 : ((t : Int) - 7).toNat = t - 7 := by omega
          have n16 : ((t : Int) - 16).toNat = t - 16 := by omega
          have p7 : 0 ≤ (t : Int) - 7 := by omega
          have p16 : 0 ≤ (t : Int) - 16 := by omega
          have q7 : (t : Int) - 7 < 64 := by omega
          have q16 : (t : Int) - 16 < 64 := by omega
          go_region
          clear e7 e16 n7 n16 p7 p16 q7 q16
          go_wp2_with fail
          go_roundw
          case rel =>
            refine ⟨t + 1, by omega, by omega, by go_num, ?_, ?_, ?_⟩
            · go_light
              rw [bv_add4, HX.out, show s1 + x7 + s0 + x16 = sched W by rw [HS0.out, HS1.out, H15.out, H2.out, H7.out, H16.out]; rfl]
              have hl := HL.out
              have := (H.drewN (nq + 1)).set t (.int .u32 ((sched W).toNat : Int))
              unfold V32 at this
              rw [← List.map_set (f := fun x : BitVec 32 => Value.int .u32 (x.toNat : Int)), List.set_append_right _ _ (by omega), show 64 - t = (64 - (t + 1)) + 1 by omega, List.replicate_succ, show t - W.length = 0 by omega, List.set_cons_zero] at this
              rw [List.append_assoc]
              exact this
            · exact (H0.drewN _).setOther (by simp) _
            · exact (x.drewN _).setCell (.inr (by simp)) _
          case measure => simp [intOf]; omega
        · have ht' : t = 64 := by omega
          subst ht'
          have hW := HX.out
          clear HX
          have hWO : wordsOf b = W := by
            rw [show 64 + 1 - 16 = 48 + 1 from rfl, wext_succ] at hW
            unfold wordsOf
            generalize wext ((wpart b 64).take 16) 48 = Y at *
            exact (List.append_inj' hW rfl).1
          have HWO := Lib.hid hWO
          clear hW hWO
          have e0 : W ++ List.replicate (64 - 64) 0#32 = W := by simp
          rw [e0] at H
          go_upto_region 14 with (fail)
          apply wp_region_lit
          have hVl : (V32 W).length = 64 := by unfold V32; rw [List.length_map]; exact HL.out
          refine wpList_ldpart rfl 206 (.tmp 3) rfl (w.heap.size + 1) 0 rfl (V32 W) _ H.part Tryd.underlying206 rfl (by rw [hVl]; kernel_rfl) ?_
          refine wpList_strow rfl 206 (.tmp 2) (.tmp 73) rfl w.heap.size 0 rfl 206 _ (V32 W) rfl H0 (by rw [hVl]; simp [V32]) (oneCell_map _ (fun _ => rfl) W) (by rw [hVl]; kernel_rfl) ?_
          intro w5 H5 x5 _
          go_wp2_with fail
          have e5 : (V32 (List.replicate 64 0#32)).take 0 ++ V32 W ++ (V32 (List.replicate 64 0#32)).drop (0 + (V32 W).length) = V32 W := by
            rw [hVl, List.take_zero, List.nil_append, List.drop_of_length_le (by simp [V32]), List.append_nil]
          rw [e5] at H5
          refine bodyPost_ret (results_blk Tryd.results120 _ _ w.heap.size 206 (V32 W) _ rfl H5 Tryd.underlying206 rfl (by rw [hVl]; kernel_rfl)) rfl ?_
          refine ⟨by rw [HWO.out], x.trans' x5 (by simp)⟩

end Go.Proofs.YtbjkfgfiifnjoaaDoor
