/- Package digest: work: a block worked in. -/
import Derived.Test.YtbjkfgfiifnjoaaDoorWords
namespace Go.Proofs.YtbjkfgfiifnjoaaDoor
open Go.RowKit
set_option maxRecDepth 100000

/-- Eight words. -/
structure St where
  a : BitVec 32
  b : BitVec 32
  c : BitVec 32
  d : BitVec 32
  e : BitVec 32
  f : BitVec 32
  g : BitVec 32
  h : BitVec 32

def St.list (s : St) : List (BitVec 32) := [s.a, s.b, s.c, s.d, s.e, s.f, s.g, s.h]

def bsig1 (x : BitVec 32) : BitVec 32 := rotr x 6 ^^^ rotr x 11 ^^^ rotr x 25
def bsig0 (x : BitVec 32) : BitVec 32 := rotr x 2 ^^^ rotr x 13 ^^^ rotr x 22
def chf (e f g : BitVec 32) : BitVec 32 := (e &&& f) ^^^ (~~~e &&& g)
def maj (a b c : BitVec 32) : BitVec 32 := (a &&& b) ^^^ (a &&& c) ^^^ (b &&& c)
def one (s : St) (k w : BitVec 32) : BitVec 32 := s.h + bsig1 s.e + chf s.e s.f s.g + k + w
def two (s : St) : BitVec 32 := bsig0 s.a + maj s.a s.b s.c
def rnd (s : St) (k w : BitVec 32) : St := ⟨one s k w + two s, s.a, s.b, s.c, s.d + one s k w, s.e, s.f, s.g⟩

def rnds (ks ws : List (BitVec 32)) (s : St) : Nat → St
  | 0 => s
  | n + 1 => rnd (rnds ks ws s n) (ks.getD n 0#32) (ws.getD n 0#32)

def addSt (s t : St) : St := ⟨s.a + t.a, s.b + t.b, s.c + t.c, s.d + t.d, s.e + t.e, s.f + t.f, s.g + t.g, s.h + t.h⟩

/-- A block worked in. -/
def workOf (ks : List (BitVec 32)) (s : St) (b : List UInt8) : St := addSt s (rnds ks (wordsOf b) s 64)

theorem bv_not (e : BitVec 32) : bits .xor .u32 IntKind.u32.max (e.toNat : Int) = ((~~~e).toNat : Int) := by
  rw [show IntKind.u32.max = (((BitVec.allOnes 32).toNat : Nat) : Int) from rfl, bv_xor, BitVec.allOnes_xor]

theorem one_val (a b c d e f g h k w : BitVec 32) :
    ((h.toNat : Int) + bits .xor .u32 (bits .xor .u32 ((rotr e 6).toNat : Int) ((rotr e 11).toNat : Int)) ((rotr e 25).toNat : Int) + bits .xor .u32 (bits .and .u32 (e.toNat : Int) (f.toNat : Int)) (bits .and .u32 (bits .xor .u32 IntKind.u32.max (e.toNat : Int)) (g.toNat : Int)) + (k.toNat : Int) + (w.toNat : Int)) % 4294967296 = ((one ⟨a, b, c, d, e, f, g, h⟩ k w).toNat : Int) := by
  rw [bv_not, bv_and, bv_and, bv_xor, bv_xor, bv_xor]
  show _ = ((h + bsig1 e + chf e f g + k + w).toNat : Int)
  unfold bsig1 chf
  generalize rotr e 6 ^^^ rotr e 11 ^^^ rotr e 25 = X
  generalize e &&& f ^^^ ~~~e &&& g = Y
  simp only [BitVec.toNat_add]; omega

theorem two_val (a b c d e f g h : BitVec 32) :
    (bits .xor .u32 (bits .xor .u32 ((rotr a 2).toNat : Int) ((rotr a 13).toNat : Int)) ((rotr a 22).toNat : Int) + bits .xor .u32 (bits .xor .u32 (bits .and .u32 (a.toNat : Int) (b.toNat : Int)) (bits .and .u32 (a.toNat : Int) (c.toNat : Int))) (bits .and .u32 (b.toNat : Int) (c.toNat : Int))) % 4294967296 = ((two ⟨a, b, c, d, e, f, g, h⟩).toNat : Int) := by
  rw [bv_and, bv_and, bv_and, bv_xor, bv_xor, bv_xor, bv_xor, bv_add']
  rfl

theorem right_int (x : BitVec 32) (n : Int) (w : World) (h1 : 1 ≤ n) (h2 : n ≤ 31) :
    Calls Tryd.prog 121 #[.int .u32 (x.toNat : Int), .int .i64 n] w fun e w' => e = .returned (.int .u32 ((rotr x n.toNat).toNat : Int)) ∧ w = w' := by
  obtain ⟨k, rfl⟩ := Int.eq_ofNat_of_zero_le (show 0 ≤ n by omega)
  exact right_any x k w (by omega) (by omega)

theorem run_index_V32 (T : TypeId) (hT : Tryd.prog.underlying T = some (.array 64 171)) (W : List (BitVec 32)) (hW : W.length = 64) (t : Nat) (ht : t < 64) (w : World) :
    (Instr.index T (.agg (V32 W).toArray) (.int .i64 (t : Int))).run Tryd.prog w = .ok (.int .u32 ((W.getD t 0#32).toNat : Int)) w :=
  run_index_arr rfl hT Tryd.underlying171 (by kernel_rfl) (V32 W) t _ ht (by unfold V32; simp [show t < W.length by omega]) w

/-- The first bits of the cube roots of primes, as the program has them. -/
def Ks : List (BitVec 32) := [1116352408#32, 1899447441#32, 3049323471#32, 3921009573#32, 961987163#32, 1508970993#32, 2453635748#32, 2870763221#32, 3624381080#32, 310598401#32, 607225278#32, 1426881987#32, 1925078388#32, 2162078206#32, 2614888103#32, 3248222580#32, 3835390401#32, 4022224774#32, 264347078#32, 604807628#32, 770255983#32, 1249150122#32, 1555081692#32, 1996064986#32, 2554220882#32, 2821834349#32, 2952996808#32, 3210313671#32, 3336571891#32, 3584528711#32, 113926993#32, 338241895#32, 666307205#32, 773529912#32, 1294757372#32, 1396182291#32, 1695183700#32, 1986661051#32, 2177026350#32, 2456956037#32, 2730485921#32, 2820302411#32, 3259730800#32, 3345764771#32, 3516065817#32, 3600352804#32, 4094571909#32, 275423344#32, 430227734#32, 506948616#32, 659060556#32, 883997877#32, 958139571#32, 1322822218#32, 1537002063#32, 1747873779#32, 1955562222#32, 2024104815#32, 2227730452#32, 2361852424#32, 2428436474#32, 2756734187#32, 3204031479#32, 3329325298#32]
def begin0 : St := ⟨1779033703#32, 3144134277#32, 1013904242#32, 2773480762#32, 1359893119#32, 2600822924#32, 528734635#32, 1541459225#32⟩

/-- The first i added. -/
def addTo (S V : List (BitVec 32)) (i : Nat) : List (BitVec 32) := (List.range 8).map fun j => if j < i then S.getD j 0#32 + V.getD j 0#32 else S.getD j 0#32
theorem addTo_length (S V : List (BitVec 32)) (i : Nat) : (addTo S V i).length = 8 := by simp [addTo]
theorem addTo_get (S V : List (BitVec 32)) (i j : Nat) (hj : j < 8) : (addTo S V i)[j]? = some (if j < i then S.getD j 0#32 + V.getD j 0#32 else S.getD j 0#32) := by simp [addTo, hj]
theorem addTo_zero (s : St) (V : List (BitVec 32)) : addTo s.list V 0 = s.list := by
  simp [addTo, St.list, List.range_succ]
theorem addTo_all (s v : St) : addTo s.list v.list 8 = (addSt s v).list := by
  simp [addTo, St.list, addSt, List.range_succ]
theorem addTo_succ (S V : List (BitVec 32)) (i : Nat) (_hi : i < 8) : (addTo S V i).set i (S.getD i 0#32 + V.getD i 0#32) = addTo S V (i + 1) := by
  apply List.ext_getElem
  · simp [addTo]
  · intro j h1 h2
    simp only [List.length_set, addTo_length] at h1
    simp only [List.getElem_set, addTo, List.getElem_map, List.getElem_range]
    by_cases e : i = j
    · subst e; rw [if_pos rfl, if_pos (by omega)]
    · rw [if_neg e]
      by_cases h : j < i
      · rw [if_pos h, if_pos (by omega)]
      · rw [if_neg h, if_neg (by omega)]

theorem V32_set (l : List (BitVec 32)) (i : Nat) (x : BitVec 32) : (V32 l).set i (.int .u32 (x.toNat : Int)) = V32 (l.set i x) := by
  unfold V32
  rw [← List.map_set (f := fun x : BitVec 32 => Value.int .u32 (x.toNat : Int))]

/-- The package's two variables. -/
structure DigG (w : World) : Prop where
  k : ∀ t, t < 64 → w.cell? ⟨1, t, none⟩ = some (.int .u32 ((Ks.getD t 0#32).toNat : Int))
  b : PartAt w 0 0 (V32 begin0.list)

theorem DigG.lt1 {w : World} (h : DigG w) : 1 < w.heap.size := World.block_lt_of_cell? w _ (h.k 0 (by omega))
theorem DigG.lt2 {w : World} (h : DigG w) : 0 < w.heap.size := World.block_lt_of_cell? w _ ((h.b 0 (by decide)).trans rfl)
theorem DigG.ext {S : List Nat} {w w' : World} (h : DigG w) (e : Ext S w w') (h1 : 1 ∉ S) (h2 : 0 ∉ S) : DigG w' :=
  ⟨fun t ht => (e.cell h.lt1 h1).trans (h.k t ht), fun j hj => (e.cell h.lt2 h2).trans (h.b j hj)⟩

set_option maxHeartbeats 4000000 in
set_option maxRecDepth 100000 in
theorem work_any (bs bb off cap : Nat) (st : St) (b : List UInt8) (w : World) (G : DigG w) (hS : Blk w bs 173 (V32 st.list)) (hb : b.length = 64) (hlt : bb < w.heap.size)
    (hc : ∀ i, i < 64 → w.cell? ⟨bb, off + i, none⟩ = some (.int .u8 ((b.getD i 0).toNat : Int))) :
    Calls Tryd.prog 82 #[.pointer (some ⟨bs, 0, none⟩), .slice (some ⟨bb, off, none⟩) 64 cap] w fun e w' => e = .returned (.tuple #[]) ∧ Blk w' bs 173 (V32 (workOf Ks st b).list) ∧ Ext [bs] w w' := by
  have HC := Lib.hid hc
  have HB := Lib.hid hb
  clear hc hb
  have c0 := hS.cell 0
  have c1 := hS.cell 1
  have c2 := hS.cell 2
  have c3 := hS.cell 3
  have c4 := hS.cell 4
  have c5 := hS.cell 5
  have c6 := hS.cell 6
  have c7 := hS.cell 7
  simp only [V32, St.list, List.map_cons, List.map_nil, List.getElem?_cons_zero, List.getElem?_cons_succ] at c0 c1 c2 c3 c4 c5 c6 c7
  have hltS := hS.lt
  go_enter Tryd.func82, Tryd.ntmps82
  go_wp2_with fail
  have x0 : Ext [] w (w.alloc (.cells (V32 st.list).toArray 173)) := (Ext.refl _ _).alloc _
  refine (words_any bb off cap b _ HB.out (by simp; omega) (fun i hi => (x0.cell (p := ⟨bb, off + i, none⟩) hlt (by simp)).trans (HC.out i hi))).mono ?_
  rintro e w2 ⟨rfl, x2⟩
  have H2 : Blk w2 w.heap.size 173 (V32 st.list) := (Blk.new w _ (V32 st.list).toArray).ext x2 (by simp)
  have xa : Ext [] w w2 := x0.trans x2
  clear x0 x2
  have hWl : (wordsOf b).length = 64 := by unfold wordsOf; rw [wext_length]; simp [wpart_length]
  obtain ⟨arr, harr⟩ : ∃ arr, arr = (V32 (wordsOf b)).toArray := ⟨_, rfl⟩
  rw [← harr]
  have hidx : ∀ t : Nat, t < 64 → ∀ w, (Instr.index 206 (.agg arr) (.int .i64 (t : Int))).run Tryd.prog w = .ok (.int .u32 (((wordsOf b).getD t 0#32).toNat : Int)) w := by
    intro t ht w
    rw [harr]
    exact run_index_V32 206 Tryd.underlying206 (wordsOf b) hWl t ht w
  have HI := Lib.hid hidx
  clear hidx harr hWl
  go_wp2_with fail
  clear c0 c1 c2 c3 c4 c5 c6 c7
  go_loopw [17] (fun i wr => ∃ t : Nat, t ≤ 64 ∧ i = .int .i64 t ∧ Blk wr w.heap.size 173 (V32 (rnds Ks (wordsOf b) st t).list) ∧ Ext [] w wr) (fun i _ => 64 - (intOf i).toNat)
  case atStart => exact ⟨0, Nat.zero_le _, rfl, H2, xa⟩
  case round =>
    clear H2 xa
    obtain ⟨t, ht, rfl, H, x⟩ := hrel
    have hR := Lib.hid (show rnds Ks (wordsOf b) st (t + 1) = rnd (rnds Ks (wordsOf b) st t) (Ks.getD t 0#32) ((wordsOf b).getD t 0#32) from rfl)
    have G2 := G.ext x (by simp) (by simp)
    by_cases hlt64 : t < 64
    · have hidx := HI.out t hlt64
      have hkc := G2.k t hlt64
      have c0 := H.cell 0
      have c1 := H.cell 1
      have c2 := H.cell 2
      have c3 := H.cell 3
      have c4 := H.cell 4
      have c5 := H.cell 5
      have c6 := H.cell 6
      have c7 := H.cell 7
      simp only [V32, St.list, List.map_cons, List.map_nil, List.getElem?_cons_zero, List.getElem?_cons_succ] at c0 c1 c2 c3 c4 c5 c6 c7
      obtain ⟨kk, hkk⟩ : ∃ y, y = Ks.getD t 0#32 := ⟨_, rfl⟩
      obtain ⟨ww, hww⟩ : ∃ y, y = (wordsOf b).getD t 0#32 := ⟨_, rfl⟩
      rw [← hkk] at hkc
      rw [← hww] at hidx
      have HKK := Lib.hid hkk
      have HWW := Lib.hid hww
      clear hkk hww G2
      generalize rnds Ks (wordsOf b) st t = s at *
      obtain ⟨a, b', c, d, ee, f, g, hh⟩ := s
      have f1 := H.frozen 1
      have f2 := H.frozen 2
      have f3 := H.frozen 3
      have f4 := H.frozen 4
      have f5 := H.frozen 5
      have f6 := H.frozen 6
      have f7 := H.frozen 7
      have f0 := H.frozen 0
      dsimp only at c0 c1 c2 c3 c4 c5 c6 c7
      go_wp2_with fail
      go_quiet (fail)
      rename Nat => n1
      go_wp2_with fail
      go_quiet ((go_at_call 121; first | exact quiet_left (right_int _ _ _ (by omega) (by omega)) | exact quiet_add_left (right_int _ _ _ (by omega) (by omega))))
      rename Nat => n2
      go_wp2_with fail
      go_quiet ((go_at_call 121; first | exact quiet_left (right_int _ _ _ (by omega) (by omega)) | exact quiet_add_left (right_int _ _ _ (by omega) (by omega))))
      rename Nat => n3
      go_wp2_with fail
      rw [one_val a b' c d ee f g hh kk ww, two_val a b' c d ee f g hh]
      obtain ⟨o1, ho1⟩ : ∃ y, y = one ⟨a, b', c, d, ee, f, g, hh⟩ kk ww := ⟨_, rfl⟩
      obtain ⟨o2, ho2⟩ : ∃ y, y = two ⟨a, b', c, d, ee, f, g, hh⟩ := ⟨_, rfl⟩
      rw [← ho1, ← ho2]
      have HO1 := Lib.hid ho1
      have HO2 := Lib.hid ho2
      clear ho1 ho2
      have H3 := (H.drewN (n1 + n2)).drewN n3
      have x3 : Ext [] w ((wr.drewN (n1 + n2)).drewN n3) := (x.drewN _).drewN _
      clear c0 c1 c2 c3 c4 c5 c6 c7 f0 f1 f2 f3 f4 f5 f6 f7 hkc
      generalize (wr.drewN (n1 + n2)).drewN n3 = w3 at *
      have c0 := H3.cell 0
      have c1 := H3.cell 1
      have c2 := H3.cell 2
      have c3 := H3.cell 3
      have c4 := H3.cell 4
      have c5 := H3.cell 5
      have c6 := H3.cell 6
      simp only [V32, St.list, List.map_cons, List.map_nil, List.getElem?_cons_zero, List.getElem?_cons_succ] at c0 c1 c2 c3 c4 c5 c6
      have hsrc := Lib.hid (Blk.src (off := 0) H3.drew 7)
      go_region_law (refine step_cp rfl (.tmp 77) (.tmp 78) 209 209 rfl 171 Tryd.underlying209 (by kernel_rfl) w.heap.size 1 7 7 ⟨w.heap.size, 0, none⟩ 7 8 rfl rfl 173 _ H3.drew (V32 [a, b', c, d, ee, f, g]) rfl hsrc.out (by simp [V32, St.list]) (oneCell_map _ (fun _ => rfl) _) ?_; intro w5 H5 x5 _; have H5 : Blk w5 w.heap.size 173 (V32 [a, a, b', c, d, ee, f, g]) := H5; have k0 := H5.cell 0; have k4 := H5.cell 4; have f0 := H5.frozen 0; have f4 := H5.frozen 4; simp only [V32, List.map_cons, List.map_nil, List.getElem?_cons_zero, List.getElem?_cons_succ] at k0 k4)
      go_wp2_with fail
      go_roundw
      case rel =>
        refine ⟨t + 1, by omega, by go_num, ?_, ?_⟩
        · go_light
          rw [bv_add', bv_add', hR.out, ← HKK.out, ← HWW.out]
          have := (H5.set 0 (.int .u32 ((o1 + o2).toNat : Int))).set 4 (.int .u32 ((d + o1).toNat : Int))
          rw [HO1.out, HO2.out] at this
          rw [HO1.out, HO2.out]
          exact this
        · exact ((x3.drew.trans' x5 (by simp)).setCell (.inr (by simp)) _).setCell (.inr (by simp)) _
      case measure => simp [intOf]; omega
    · have ht' : t = 64 := by omega
      subst ht'
      have HWK := Lib.hid (show workOf Ks st b = addSt st (rnds Ks (wordsOf b) st 64) from rfl)
      generalize rnds Ks (wordsOf b) st 64 = v at *
      have hSx := hS.ext x (by simp)
      go_wp2_with fail
      go_loopw [90] (fun i wr => ∃ k : Nat, k ≤ 8 ∧ i = .int .i64 k ∧ Blk wr bs 173 (V32 (addTo st.list v.list k)) ∧ Blk wr w.heap.size 173 (V32 v.list) ∧ Ext [bs] w wr) (fun i _ => 8 - (intOf i).toNat)
      case atStart => exact ⟨0, Nat.zero_le _, rfl, by rw [addTo_zero]; exact hSx, H, x.sub (by simp)⟩
      case round =>
        clear hSx H x hR HI
        obtain ⟨k, hk, rfl, HS, H, x⟩ := hrel
        by_cases hlt8 : k < 8
        · have s1 := HS.cell k
          have v1 := H.cell k
          have fs := HS.frozen k
          have es : (V32 (addTo st.list v.list k))[k]? = some (.int .u32 ((st.list.getD k 0#32).toNat : Int)) := by
            unfold V32; rw [List.getElem?_map, addTo_get _ _ _ _ hlt8, if_neg (by omega)]; rfl
          have ev : (V32 v.list)[k]? = some (.int .u32 ((v.list.getD k 0#32).toNat : Int)) := by
            unfold V32; rw [List.getElem?_map]
            simp [show k < v.list.length from hlt8]
          rw [es] at s1
          rw [ev] at v1
          have hst := Lib.hid (addTo_succ st.list v.list k hlt8)
          clear es ev
          generalize st.list.getD k 0#32 = p at *
          generalize v.list.getD k 0#32 = q at *
          have hneb : bs ≠ w.heap.size := by omega
          go_wp2_with fail
          go_region
          go_wp2_with fail
          go_roundw
          case rel =>
            refine ⟨k + 1, by omega, by go_num, ?_, ?_, ?_⟩
            · go_light
              rw [bv_add']
              have := HS.drew.set k (.int .u32 ((p + q).toNat : Int))
              rw [V32_set, hst.out] at this
              exact this
            · exact H.drew.setOther (by simp; omega) _
            · exact x.drew.setCell (.inl (by simp)) _
          case measure => simp [intOf]; omega
        · have hk' : k = 8 := by omega
          subst hk'
          rw [addTo_all] at HS
          go_wp2_with fail
          go_end0
          exact ⟨rfl, by rw [HWK.out]; exact HS, x⟩

end Go.Proofs.YtbjkfgfiifnjoaaDoor
