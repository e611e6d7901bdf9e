/- The sum reckoned over numbers, each step's value forced: for sums of known bytes. No program in sight. -/
import Derived.Test.YtgcbgeombbohpaaDoorSum
namespace Go.Proofs.YtgcbgeombbohpaaDoor
open Go.RowKit
set_option maxRecDepth 100000

/-- f at x, x's value reckoned first. -/
def force {α : Type} (x : Nat) (f : Nat → α) : α := Nat.casesOn x (f 0) fun n => f (n + 1)
theorem force_eq {α : Type} (x : Nat) (f : Nat → α) : force x f = f x := by cases x <;> rfl

def M32 : Nat := 4294967296
def rotN (x n : Nat) : Nat := Nat.lor (Nat.shiftRight x n) (Nat.mod (Nat.shiftLeft x (32 - n)) 4294967296)
theorem rotN_eq (x : BitVec 32) (n : Nat) : rotN x.toNat n = (rotr x n).toNat := by
  unfold rotN rotr
  rw [BitVec.toNat_or, BitVec.toNat_ushiftRight, BitVec.toNat_shiftLeft]; rfl
def xor3 (a b c : Nat) : Nat := Nat.xor (Nat.xor a b) c
theorem xor3_eq (a b c : BitVec 32) : xor3 a.toNat b.toNat c.toNat = (a ^^^ b ^^^ c).toNat := by
  unfold xor3
  rw [BitVec.toNat_xor, BitVec.toNat_xor]; rfl
def ssig0N (x : Nat) : Nat := xor3 (rotN x 7) (rotN x 18) (Nat.shiftRight x 3)
theorem ssig0N_eq (x : BitVec 32) : ssig0N x.toNat = (ssig0 x).toNat := by
  unfold ssig0N ssig0
  rw [rotN_eq, rotN_eq, show Nat.shiftRight x.toNat 3 = (x >>> 3).toNat by rw [BitVec.toNat_ushiftRight]; rfl, xor3_eq]
def ssig1N (x : Nat) : Nat := xor3 (rotN x 17) (rotN x 19) (Nat.shiftRight x 10)
theorem ssig1N_eq (x : BitVec 32) : ssig1N x.toNat = (ssig1 x).toNat := by
  unfold ssig1N ssig1
  rw [rotN_eq, rotN_eq, show Nat.shiftRight x.toNat 10 = (x >>> 10).toNat by rw [BitVec.toNat_ushiftRight]; rfl, xor3_eq]
def bsig1N (x : Nat) : Nat := xor3 (rotN x 6) (rotN x 11) (rotN x 25)
theorem bsig1N_eq (x : BitVec 32) : bsig1N x.toNat = (bsig1 x).toNat := by
  unfold bsig1N bsig1
  rw [rotN_eq, rotN_eq, rotN_eq, xor3_eq]
def bsig0N (x : Nat) : Nat := xor3 (rotN x 2) (rotN x 13) (rotN x 22)
theorem bsig0N_eq (x : BitVec 32) : bsig0N x.toNat = (bsig0 x).toNat := by
  unfold bsig0N bsig0
  rw [rotN_eq, rotN_eq, rotN_eq, xor3_eq]
def chN (e f g : Nat) : Nat := Nat.xor (Nat.land e f) (Nat.land (Nat.sub 4294967295 e) g)
theorem chN_eq (e f g : BitVec 32) : chN e.toNat f.toNat g.toNat = (chf e f g).toNat := by
  unfold chN chf
  rw [BitVec.toNat_xor, BitVec.toNat_and, BitVec.toNat_and, BitVec.toNat_not]; rfl
def majN (a b c : Nat) : Nat := xor3 (Nat.land a b) (Nat.land a c) (Nat.land b c)
theorem majN_eq (a b c : BitVec 32) : majN a.toNat b.toNat c.toNat = (maj a b c).toNat := by
  unfold majN maj
  rw [show Nat.land a.toNat b.toNat = (a &&& b).toNat by rw [BitVec.toNat_and]; rfl, show Nat.land a.toNat c.toNat = (a &&& c).toNat by rw [BitVec.toNat_and]; rfl, show Nat.land b.toNat c.toNat = (b &&& c).toNat by rw [BitVec.toNat_and]; rfl, xor3_eq]

/-- A state as numbers. -/
def St.nats (s : St) : List Nat := [s.a.toNat, s.b.toNat, s.c.toNat, s.d.toNat, s.e.toNat, s.f.toNat, s.g.toNat, s.h.toNat]

def goN : List Nat → List Nat → Nat → Nat → Nat → Nat → Nat → Nat → Nat → Nat → List Nat
  | k :: ks, w :: ws, a, b, c, d, e, f, g, h =>
    force (Nat.mod (Nat.add (Nat.add (Nat.add (Nat.add h (bsig1N e)) (chN e f g)) k) w) 4294967296) fun t =>
    force (Nat.mod (Nat.add t (Nat.add (bsig0N a) (majN a b c))) 4294967296) fun a' =>
    force (Nat.mod (Nat.add d t) 4294967296) fun e' => goN ks ws a' a b c e' e f g
  | _, _, a, b, c, d, e, f, g, h => [a, b, c, d, e, f, g, h]

theorem one_nat (s : St) (k w : BitVec 32) : Nat.mod (Nat.add (Nat.add (Nat.add (Nat.add s.h.toNat (bsig1N s.e.toNat)) (chN s.e.toNat s.f.toNat s.g.toNat)) k.toNat) w.toNat) 4294967296 = (one s k w).toNat := by
  unfold one
  rw [bsig1N_eq, chN_eq]
  simp only [BitVec.toNat_add]
  show (_ + _ + _ + _ + _) % 4294967296 = _
  omega
theorem goN_step (s : St) (k w : BitVec 32) (ks ws : List Nat) :
    goN (k.toNat :: ks) (w.toNat :: ws) s.a.toNat s.b.toNat s.c.toNat s.d.toNat s.e.toNat s.f.toNat s.g.toNat s.h.toNat =
      goN ks ws (rnd s k w).a.toNat (rnd s k w).b.toNat (rnd s k w).c.toNat (rnd s k w).d.toNat (rnd s k w).e.toNat (rnd s k w).f.toNat (rnd s k w).g.toNat (rnd s k w).h.toNat := by
  rw [goN, force_eq, force_eq, force_eq, one_nat, bsig0N_eq, majN_eq]
  have e1 : Nat.mod (Nat.add (one s k w).toNat (Nat.add (bsig0 s.a).toNat (maj s.a s.b s.c).toNat)) 4294967296 = (one s k w + two s).toNat := by
    unfold two
    simp only [BitVec.toNat_add]
    show (_ + (_ + _)) % 4294967296 = _
    omega
  have e2 : Nat.mod (Nat.add s.d.toNat (one s k w).toNat) 4294967296 = (s.d + one s k w).toNat := by
    simp only [BitVec.toNat_add]; rfl
  rw [e1, e2]; rfl
theorem goN_eq (ks ws : List (BitVec 32)) (hk : ks.length = 64) (hw : ws.length = 64) (s : St) : ∀ m n, n + m = 64 →
    goN ((ks.drop n).map BitVec.toNat) ((ws.drop n).map BitVec.toNat) (rnds ks ws s n).a.toNat (rnds ks ws s n).b.toNat (rnds ks ws s n).c.toNat (rnds ks ws s n).d.toNat (rnds ks ws s n).e.toNat (rnds ks ws s n).f.toNat (rnds ks ws s n).g.toNat (rnds ks ws s n).h.toNat = (rnds ks ws s 64).nats
  | 0, n, h => by
    obtain rfl : n = 64 := by omega
    rw [List.drop_of_length_le (by omega), List.drop_of_length_le (by omega)]
    rfl
  | m + 1, n, h => by
    rw [List.drop_eq_getElem_cons (show n < ks.length by omega), List.drop_eq_getElem_cons (show n < ws.length by omega), List.map_cons, List.map_cons, goN_step]
    have := goN_eq ks ws hk hw s m (n + 1) (by omega)
    have e1 : ks.getD n 0#32 = ks[n] := by simp [List.getD, show n < ks.length by omega]
    have e2 : ws.getD n 0#32 = ws[n] := by simp [List.getD, show n < ws.length by omega]
    rw [rnds, e1, e2] at this
    exact this

/-! ### The words -/
def schedN (r : List Nat) : Nat := Nat.mod (Nat.add (Nat.add (Nat.add (ssig1N (r.getD 1 0)) (r.getD 6 0)) (ssig0N (r.getD 14 0))) (r.getD 15 0)) 4294967296
/-- The words, the last one first. -/
def wextN : Nat → List Nat → List Nat
  | 0, r => r
  | n + 1, r => force (schedN r) fun x => wextN n (x :: r)
theorem getD_map_toNat (l : List (BitVec 32)) (i : Nat) : (l.map BitVec.toNat).getD i 0 = (l.getD i 0#32).toNat := by
  simp only [List.getD_eq_getElem?_getD, List.getElem?_map]
  cases l[i]? <;> rfl
theorem getD_reverse (l : List (BitVec 32)) (i : Nat) (h : i < l.length) : l.reverse.getD i 0#32 = l.getD (l.length - (i + 1)) 0#32 := by
  simp only [List.getD_eq_getElem?_getD, List.getElem?_reverse h]
  congr 2
  omega
theorem schedN_eq (l : List (BitVec 32)) (h : 16 ≤ l.length) : schedN (l.reverse.map BitVec.toNat) = (sched l).toNat := by
  unfold schedN sched
  rw [getD_map_toNat, getD_map_toNat, getD_map_toNat, getD_map_toNat, getD_reverse _ _ (by omega), getD_reverse _ _ (by omega), getD_reverse _ _ (by omega), getD_reverse _ _ (by omega), ssig1N_eq, ssig0N_eq]
  simp only [BitVec.toNat_add, Nat.reduceAdd]
  show (_ + _ + _ + _) % 4294967296 = _
  omega
theorem wext_comm (l : List (BitVec 32)) : ∀ k, wext (l ++ [sched l]) k = wext l (k + 1)
  | 0 => rfl
  | k + 1 => by rw [wext_succ, wext_comm l k, ← wext_succ]
theorem wextN_eq : ∀ (k : Nat) (l : List (BitVec 32)), 16 ≤ l.length → wextN k (l.reverse.map BitVec.toNat) = (wext l k).reverse.map BitVec.toNat
  | 0, l, _ => rfl
  | k + 1, l, h => by
    rw [wextN, force_eq, schedN_eq l h, ← List.map_cons (f := BitVec.toNat), ← wext_comm]
    have := wextN_eq k (l ++ [sched l]) (by simp; omega)
    rw [List.reverse_append] at this
    exact this

/-- Sixteen words of 64 bytes, the last one first. -/
def word4 (a b c d : Nat) : Nat := Nat.lor (Nat.mod (Nat.shiftLeft (Nat.lor (Nat.mod (Nat.shiftLeft (Nat.lor (Nat.mod (Nat.shiftLeft a 8) 4294967296) b) 8) 4294967296) c) 8) 4294967296) d
def wordsN : Nat → List Nat → List Nat → List Nat
  | n + 1, a :: b :: c :: d :: l, r => force (word4 a b c d) fun x => wordsN n l (x :: r)
  | _, _, r => r

def bN (b : List UInt8) : List Nat := b.map UInt8.toNat
theorem word4_eq (b : List UInt8) (j : Nat) : word4 (b.getD (4 * j) 0).toNat (b.getD (4 * j + 1) 0).toNat (b.getD (4 * j + 2) 0).toNat (b.getD (4 * j + 3) 0).toNat = (pw b j 4).toNat := by
  have h : ∀ x : UInt8, (BitVec.ofNat 32 x.toNat).toNat = x.toNat := fun x => by rw [BitVec.toNat_ofNat]; have := x.toNat_lt; omega
  simp only [pw, BitVec.toNat_or, BitVec.toNat_shiftLeft, h]
  simp [word4]
  rfl
theorem wpart_at (b : List UInt8) (j : Nat) (hj : j < 16) : (wpart b 64).take (j + 1) = (wpart b 64).take j ++ [pw b j 4] := by
  rw [List.take_add_one, wpart_get b 64 j (by omega), show min 4 (64 - 4 * j) = 4 by omega]; rfl
theorem wordsN_eq (b : List UInt8) (rest : List Nat) (hb : b.length = 64) : ∀ n j, j + n = 16 →
    wordsN n (bN (b.drop (4 * j)) ++ rest) (((wpart b 64).take j).reverse.map BitVec.toNat) = ((wpart b 64).take 16).reverse.map BitVec.toNat
  | 0, j, h => by
    obtain rfl : j = 16 := by omega
    simp [wordsN]
  | n + 1, j, h => by
    have e : b.drop (4 * j) = b.getD (4 * j) 0 :: b.getD (4 * j + 1) 0 :: b.getD (4 * j + 2) 0 :: b.getD (4 * j + 3) 0 :: b.drop (4 * (j + 1)) := by
      rw [show 4 * (j + 1) = 4 * j + 1 + 1 + 1 + 1 by omega]
      rw [List.drop_eq_getElem_cons (show 4 * j < b.length by omega), List.drop_eq_getElem_cons (show 4 * j + 1 < b.length by omega), List.drop_eq_getElem_cons (show 4 * j + 1 + 1 < b.length by omega), List.drop_eq_getElem_cons (show 4 * j + 1 + 1 + 1 < b.length by omega)]
      simp [List.getD, show 4 * j < b.length by omega, show 4 * j + 1 < b.length by omega, show 4 * j + 2 < b.length by omega, show 4 * j + 3 < b.length by omega]
    rw [e]
    show wordsN (n + 1) (_ :: _ :: _ :: _ :: (bN (b.drop (4 * (j + 1))) ++ rest)) _ = _
    rw [wordsN, force_eq, word4_eq, ← List.map_cons (f := BitVec.toNat)]
    have := wordsN_eq b rest hb n (j + 1) (by omega)
    rw [wpart_at b j (by omega), List.reverse_append] at this
    exact this

def KsN : List Nat := [1116352408, 1899447441, 3049323471, 3921009573, 961987163, 1508970993, 2453635748, 2870763221, 3624381080, 310598401, 607225278, 1426881987, 1925078388, 2162078206, 2614888103, 3248222580, 3835390401, 4022224774, 264347078, 604807628, 770255983, 1249150122, 1555081692, 1996064986, 2554220882, 2821834349, 2952996808, 3210313671, 3336571891, 3584528711, 113926993, 338241895, 666307205, 773529912, 1294757372, 1396182291, 1695183700, 1986661051, 2177026350, 2456956037, 2730485921, 2820302411, 3259730800, 3345764771, 3516065817, 3600352804, 4094571909, 275423344, 430227734, 506948616, 659060556, 883997877, 958139571, 1322822218, 1537002063, 1747873779, 1955562222, 2024104815, 2227730452, 2361852424, 2428436474, 2756734187, 3204031479, 3329325298]
theorem KsN_eq : KsN = Ks.map BitVec.toNat := by decide +kernel

def sumN : Nat → List Nat → Nat → Nat → Nat → Nat → Nat → Nat → Nat → Nat → List Nat
  | n + 1, p, a, b, c, d, e, f, g, h =>
    match goN KsN (wextN 48 (wordsN 16 p [])).reverse a b c d e f g h with
    | [a', b', c', d', e', f', g', h'] =>
      force (Nat.mod (Nat.add a a') 4294967296) fun a => force (Nat.mod (Nat.add b b') 4294967296) fun b => force (Nat.mod (Nat.add c c') 4294967296) fun c => force (Nat.mod (Nat.add d d') 4294967296) fun d =>
      force (Nat.mod (Nat.add e e') 4294967296) fun e => force (Nat.mod (Nat.add f f') 4294967296) fun f => force (Nat.mod (Nat.add g g') 4294967296) fun g => force (Nat.mod (Nat.add h h') 4294967296) fun h =>
      sumN n (p.drop 64) a b c d e f g h
    | _ => []
  | 0, _, a, b, c, d, e, f, g, h => [a, b, c, d, e, f, g, h]

theorem workN_any (ks : List (BitVec 32)) (hk : ks.length = 64) (s : St) (b : List UInt8) (rest : List Nat) (hb : b.length = 64) :
    goN (ks.map BitVec.toNat) (wextN 48 (wordsN 16 (bN b ++ rest) [])).reverse s.a.toNat s.b.toNat s.c.toNat s.d.toNat s.e.toNat s.f.toNat s.g.toNat s.h.toNat = (rnds ks (wordsOf b) s 64).nats := by
  have e1 := wordsN_eq b rest hb 16 0 rfl
  rw [Nat.mul_zero, List.drop_zero, List.take_zero, List.reverse_nil, List.map_nil] at e1
  have hl : ((wpart b 64).take 16).length = 16 := by simp [wpart_length]
  have e3 := goN_eq ks (wordsOf b) hk (by unfold wordsOf; rw [wext_length, hl]) s 64 0 rfl
  rw [List.drop_zero, List.drop_zero, rnds] at e3
  rw [e1, wextN_eq 48 _ (by omega), ← List.map_reverse, List.reverse_reverse]
  exact e3
theorem workN_eq (s : St) (b : List UInt8) (rest : List Nat) (hb : b.length = 64) :
    goN KsN (wextN 48 (wordsN 16 (bN b ++ rest) [])).reverse s.a.toNat s.b.toNat s.c.toNat s.d.toNat s.e.toNat s.f.toNat s.g.toNat s.h.toNat = (rnds Ks (wordsOf b) s 64).nats := by
  rw [KsN_eq]
  exact workN_any Ks (by decide +kernel) s b rest hb

theorem add_nat (x y : BitVec 32) : Nat.mod (Nat.add x.toNat y.toNat) 4294967296 = (x + y).toNat := by rw [BitVec.toNat_add]; rfl
theorem sumN_match (n : Nat) (p : List Nat) (s t : St) (L : List Nat) (hL : goN KsN (wextN 48 (wordsN 16 p [])).reverse s.a.toNat s.b.toNat s.c.toNat s.d.toNat s.e.toNat s.f.toNat s.g.toNat s.h.toNat = L) (ht : L = t.nats) :
    sumN (n + 1) p s.a.toNat s.b.toNat s.c.toNat s.d.toNat s.e.toNat s.f.toNat s.g.toNat s.h.toNat =
      sumN n (p.drop 64) (s.a + t.a).toNat (s.b + t.b).toNat (s.c + t.c).toNat (s.d + t.d).toNat (s.e + t.e).toNat (s.f + t.f).toNat (s.g + t.g).toNat (s.h + t.h).toNat := by
  rw [sumN, hL, ht]
  simp only [St.nats, force_eq, add_nat]
theorem sumN_step (n : Nat) (s : St) (b : List UInt8) (rest : List Nat) (hb : b.length = 64) :
    sumN (n + 1) (bN b ++ rest) s.a.toNat s.b.toNat s.c.toNat s.d.toNat s.e.toNat s.f.toNat s.g.toNat s.h.toNat =
      sumN n rest (workOf Ks s b).a.toNat (workOf Ks s b).b.toNat (workOf Ks s b).c.toNat (workOf Ks s b).d.toNat (workOf Ks s b).e.toNat (workOf Ks s b).f.toNat (workOf Ks s b).g.toNat (workOf Ks s b).h.toNat := by
  have hd : (bN b ++ rest).drop 64 = rest := by
    have : (bN b).length = 64 := by simp [bN, hb]
    rw [← this, List.drop_left]
  have h := sumN_match n (bN b ++ rest) s (rnds Ks (wordsOf b) s 64) _ (workN_eq s b rest hb) rfl
  rw [hd] at h
  unfold workOf addSt
  generalize rnds Ks (wordsOf b) s 64 = t at *
  exact h

theorem sumN_eq (p : List UInt8) : ∀ n i (s : St), i * 64 + n * 64 = p.length → sumTo Ks begin0 p i = s →
    sumN n (bN (p.drop (64 * i))) s.a.toNat s.b.toNat s.c.toNat s.d.toNat s.e.toNat s.f.toNat s.g.toNat s.h.toNat = (sumTo Ks begin0 p (i + n)).nats
  | 0, i, s, _, hs => by rw [Nat.add_zero, hs]; rfl
  | n + 1, i, s, h, hs => by
    have e : bN (p.drop (64 * i)) = bN (blockAt p i) ++ bN (p.drop (64 * (i + 1))) := by
      unfold bN blockAt
      rw [← List.map_append]
      congr 1
      rw [Nat.mul_add, ← List.drop_drop, Nat.mul_one]
      exact (List.take_append_drop 64 _).symm
    have hl : (blockAt p i).length = 64 := by unfold blockAt; rw [List.length_take, List.length_drop]; omega
    rw [e, sumN_step n s (blockAt p i) _ hl]
    have := sumN_eq p n (i + 1) (workOf Ks s (blockAt p i)) (by omega) (by rw [sumTo, hs])
    rw [this]
    congr 2
    omega

/-! ### The sum -/
def byteN (x k : Nat) : Nat := Nat.mod (Nat.div x (Nat.pow 2 k)) 256
def outN (l : List Nat) (tl : List Nat) : List Nat := l.foldr (fun x r => byteN x 24 :: byteN x 16 :: byteN x 8 :: byteN x 0 :: r) tl
def be8N (n : Nat) : List Nat := [byteN n 56, byteN n 48, byteN n 40, byteN n 32, byteN n 24, byteN n 16, byteN n 8, byteN n 0]
theorem byteN_eq (x k : Nat) : byteN x k = x / 2 ^ k % 256 := rfl
theorem be8N_eq (n : Nat) : bN (be8 n) = be8N n := by
  simp [bN, be8, be8N, List.range, List.range.loop, byteN_eq]
/-- The sum of so many bytes. -/
def sumK (len : Nat) (b : List Nat) (tl : List Nat) : List Nat :=
  outN (sumN ((len + 1 + padN len + 8) / 64) (b ++ 128 :: (List.replicate (padN len) 0 ++ be8N (8 * len))) 1779033703 3144134277 1013904242 2773480762 1359893119 2600822924 528734635 1541459225) tl
theorem outN_eq (s : St) (tl : List Nat) : outN s.nats tl = bN (outBytes s) ++ tl := by
  have h : ∀ x : BitVec 32, ∀ k, (UInt8.ofNat (x.toNat / 2 ^ k)).toNat = byteN x.toNat k := fun x k => by rw [UInt8.toNat_ofNat']; rfl
  unfold outBytes bN
  simp only [List.range, List.range.loop, List.map_cons, List.map_nil, h]
  rfl
theorem sumK_eq (b : List UInt8) (len : Nat) (hl : b.length = len) (tl : List Nat) : sumK len (bN b) tl = bN (sumOf b) ++ tl := by
  subst hl
  unfold sumK sumOf
  have hm := padded_mod b
  have hp := padded_length b
  have e : bN b ++ 128 :: (List.replicate (padN b.length) 0 ++ be8N (8 * b.length)) = bN (padded b) := by
    rw [← be8N_eq]
    simp [bN, padded]
  have h := sumN_eq (padded b) ((padded b).length / 64) 0 begin0 (by omega) rfl
  rw [Nat.mul_zero, List.drop_zero, Nat.zero_add] at h
  rw [e, ← hp, ← outN_eq, ← h]
  rfl
end Go.Proofs.YtgcbgeombbohpaaDoor
