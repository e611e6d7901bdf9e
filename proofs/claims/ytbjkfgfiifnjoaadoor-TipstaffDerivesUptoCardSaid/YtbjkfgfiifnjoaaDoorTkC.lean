/- Tokens in memory; Chain. -/
import Derived.Test.YtbjkfgfiifnjoaaDoorTkA
namespace Go.Proofs.YtbjkfgfiifnjoaaDoor
open Go.RowKit
set_option maxRecDepth 100000

def ptr1 (b : Nat) : Value := .pointer (some ⟨b, 0, none⟩)
def ptrV : List Nat → Value
  | [] => .pointer none
  | b :: _ => .pointer (some ⟨b, 0, none⟩)
/-- A token without its pointer: a namespace, rights. -/
abbrev Tk : Type := Int × Rt
def tkCells (x : Tk) (up : Value) : List Value := [.int .i64 x.1, .int .u16 (x.2.c.toNat : Int), .int .u16 (x.2.p.toNat : Int), .int .u16 (x.2.m.toNat : Int), .int .u16 (x.2.h.toNat : Int), .bool x.2.v, .bool x.2.s, up]
/-- A chain in memory, from the last token on. -/
def TokAt (w : World) : List Nat → List Tk → Prop
  | [], [] => True
  | b :: bs, x :: xs => Blk w b 91 (tkCells x (ptrV bs)) ∧ TokAt w bs xs
  | _, _ => False
theorem TokAt.len {w : World} : ∀ {bs : List Nat} {xs : List Tk}, TokAt w bs xs → bs.length = xs.length
  | [], [], _ => rfl
  | _ :: _, _ :: _, h => by simp [TokAt.len h.2]
  | [], _ :: _, h => h.elim
  | _ :: _, [], h => h.elim
theorem TokAt.ext {S : List Nat} {w w' : World} (e : Ext S w w') : ∀ {bs : List Nat} {xs : List Tk}, TokAt w bs xs → (∀ b ∈ bs, b ∉ S) → TokAt w' bs xs
  | [], [], _, _ => trivial
  | b :: bs, _ :: _, h, hb => ⟨h.1.ext e (hb b (by simp)), TokAt.ext e h.2 (fun k hk => hb k (by simp [hk]))⟩
  | [], _ :: _, h, _ => h.elim
  | _ :: _, [], h, _ => h.elim
theorem TokAt.ext0 {w w' : World} (e : Ext [] w w') {bs : List Nat} {xs : List Tk} (h : TokAt w bs xs) : TokAt w' bs xs := h.ext e (by simp)
theorem TokAt.cons {w : World} {bs : List Nat} {xs : List Tk} (h : TokAt w bs xs) (b : Nat) (hb : b ∈ bs) : b < w.heap.size := by
  induction bs generalizing xs with
  | nil => cases hb
  | cons c cs ih =>
    cases xs with
    | nil => exact h.elim
    | cons y ys =>
      rcases List.mem_cons.1 hb with rfl | hb
      · exact h.1.lt
      · exact ih h.2 hb

theorem info_tptr : (Tryd.prog.info? 79).map (fun i => (i.zero, i.size, i.bytes)) = some (some (.pointer none), 1, 8) := by kernel_rfl

set_option maxHeartbeats 1000000 in
theorem reverse_ptrs (b cap n : Nat) (zs : List Nat) (rest : List Value) (w : World) (hlen : zs.length = n) (hm : n ≤ 9223372036854775807) (h : Blk w b 79 (zs.map ptr1 ++ rest)) :
    Calls Tryd.prog 80 #[.slice (some ⟨b, 0, none⟩) n cap] w fun e w' => e = .returned (.tuple #[]) ∧
      Blk w' b 79 (zs.reverse.map ptr1 ++ rest) ∧ Ext [b] w w' ∧ w'.heap.size = w.heap.size := by
  have HN := Lib.hid hlen
  clear hlen
  go_enter Tryd.func80, Tryd.ntmps80
  go_wp2
  go_loopw [2, 3] (fun x y wr => ∃ i : Nat, 2 * i ≤ n + 1 ∧ x = .int .i64 i ∧ y = .int .i64 ((n : Int) - 1 - i) ∧ Blk wr b 79 ((revTo zs i).map ptr1 ++ rest) ∧ Ext [b] w wr ∧ wr.heap.size = w.heap.size) (fun x _ _ => n - (intOf x).toNat)
  case atStart => exact ⟨0, by omega, rfl, by go_num, by rw [revTo_zero]; exact h, Ext.refl _ _, rfl⟩
  case round =>
    clear h
    obtain ⟨i, hi, rfl, rfl, H, x, hz⟩ := hrel
    by_cases hlt : 2 * i + 1 < n
    · have hn := HN.out
      have g1 := H.cell i
      have g2 := H.cell (n - 1 - i)
      have f1 := H.frozen i
      have f2 := H.frozen (n - 1 - i)
      have e1 : ((revTo zs i).map ptr1 ++ rest)[i]? = some (.pointer (some ⟨zs[i]'(by omega), 0, none⟩)) := by
        rw [List.getElem?_append_left (by rw [List.length_map, revTo_length]; omega), List.getElem?_map, List.getElem?_eq_getElem (by rw [revTo_length]; omega), revTo_get _ _ _ (by omega), if_neg (by omega)]; rfl
      have e2 : ((revTo zs i).map ptr1 ++ rest)[n - 1 - i]? = some (.pointer (some ⟨zs[n - 1 - i]'(by omega), 0, none⟩)) := by
        rw [List.getElem?_append_left (by rw [List.length_map, revTo_length]; omega), List.getElem?_map, List.getElem?_eq_getElem (by rw [revTo_length]; omega), revTo_get _ _ _ (by omega), if_neg (by omega)]; rfl
      rw [e1] at g1
      rw [e2] at g2
      have hs := revTo_succ zs i (by omega)
      simp only [hn] at hs
      generalize zs[i]'(by omega) = p at *
      generalize zs[n - 1 - i]'(by omega) = q at *
      clear e1 e2
      have HS := Lib.hid hs
      have HZ := Lib.hid hz
      clear hs hz hn
      go_wp2
      go_region
      go_wp2
      go_roundw
      case rel =>
        have hn := HN.out
        refine ⟨i + 1, by omega, by go_num, by go_num, ?_, ?_, ?_⟩
        · have := ((H.set i (ptr1 q)).set (n - 1 - i) (ptr1 p))
          rw [List.set_append_left _ _ (by rw [List.length_map, revTo_length]; omega), List.set_append_left _ _ (by rw [List.length_set, List.length_map, revTo_length]; omega), ← List.map_set, ← List.map_set, HS.out] at this
          exact this
        · exact ((x.drew.setCell (.inl (by simp)) _).setCell (.inl (by simp)) _)
        · simpa using HZ.out
      case measure => simp [intOf]; omega
    · go_wp2
      go_end0
      refine ⟨rfl, ?_, x, hz⟩
      have hn := HN.out
      rw [revTo_all _ _ (by omega)] at H
      simpa using H

theorem reverse_powns (b cap n : Nat) (zs : List Nat) (w : World) (hn : n = zs.length) (hm : zs.length ≤ 9223372036854775807) (h : w.ownsRow 0 79 1 (.slice (some ⟨b, 0, none⟩) n cap) n (zs.map ptr1)) :
    Calls Tryd.prog 80 #[.slice (some ⟨b, 0, none⟩) n cap] w fun e w' => e = .returned (.tuple #[]) ∧
      w'.ownsRow 0 79 1 (.slice (some ⟨b, 0, none⟩) n cap) n (zs.reverse.map ptr1) ∧ Ext [b] w w' ∧ w'.heap.size = w.heap.size := by
  subst hn
  rcases h.2 with ⟨h', _⟩ | ⟨g, cp, cur, h', hb, hg, hnc, hcm, hcs, htake⟩
  · simp at h'
  · simp only [Value.slice.injEq, Option.some.injEq, Addr.mk.injEq, and_true, true_and] at h'
    obtain ⟨rfl, rfl⟩ := h'
    have hc : cur.toList = zs.map ptr1 ++ cur.toList.drop zs.length := by
      rw [Nat.mul_one] at htake
      rw [← htake, List.take_append_drop]
    have hblk : Blk w b 79 (zs.map ptr1 ++ cur.toList.drop zs.length) := by
      rw [← hc]; simpa [Blk] using hg
    refine (reverse_ptrs b cap _ zs _ w rfl hm hblk).mono ?_
    rintro e w' ⟨rfl, h1, h2, h3⟩
    refine ⟨rfl, ⟨by simp, .inr ⟨b, cap, _, rfl, hb, h1, hnc, hcm, ?_, ?_⟩⟩, h2, h3⟩
    · simp only [List.size_toArray, List.length_append, List.length_map, List.length_reverse, List.length_drop, Array.length_toList]; omega
    · rw [Nat.mul_one]
      exact List.take_left' (by simp)


theorem reverse_pnil (w : World) :
    Calls Tryd.prog 80 #[.slice none 0 0] w fun e w' => e = .returned (.tuple #[]) ∧ w = w' := by
  go_enter Tryd.func80, Tryd.ntmps80
  go_wp2
  go_loopw [2, 3] (fun x y wr => x = .int .i64 0 ∧ y = .int .i64 (-1) ∧ w = wr) (fun _ _ _ => 0)
  case atStart => exact ⟨rfl, rfl, rfl⟩
  case round =>
    obtain ⟨rfl, rfl, rfl⟩ := hrel
    go_wp2
    go_end0
    exact ⟨rfl, rfl⟩

theorem reverse_pany (v : Value) (n : Nat) (zs : List Nat) (w : World) (hn : n = zs.length) (hm : zs.length ≤ 1000) (h : w.ownsRow 0 79 1 v n (zs.map ptr1)) :
    Calls Tryd.prog 80 #[v] w fun e w' => e = .returned (.tuple #[]) ∧ w'.ownsRow 0 79 1 v n (zs.reverse.map ptr1) ∧ Ext v.ownBlock.toList w w' := by
  rcases h.2 with ⟨rfl, -⟩ | ⟨g, cp, cur, rfl, hb, hg, hnc, hcm, hcs, htake⟩
  · refine (reverse_pnil w).mono ?_
    rintro e w' ⟨rfl, rfl⟩
    obtain ⟨a, c, e⟩ := owns_slice h
    simp only [Value.slice.injEq] at e
    obtain rfl : zs = [] := List.length_eq_zero_iff.1 (by omega)
    exact ⟨rfl, h, Ext.refl _ _⟩
  · refine (reverse_powns g cp n zs w hn (by omega) h).mono ?_
    rintro e w' ⟨rfl, h1, h2, -⟩
    exact ⟨rfl, h1, by simpa [Value.ownBlock] using h2⟩

theorem rows_freshT {w w1 : World} {v v' : Value} (x : Ext [] w w1) (hfr : ∀ g, v.ownBlock = some g → w.heap.size ≤ g) (h : v'.ownBlock = v.ownBlock ∨ ∃ g, v'.ownBlock = some g ∧ w1.heap.size ≤ g) :
    ∀ g, v'.ownBlock = some g → w.heap.size ≤ g := by
  intro g hg'
  have := x.size
  rcases h with h | ⟨g', h, hle⟩
  · exact hfr g (h ▸ hg')
  · rw [h] at hg'; obtain rfl := Option.some.inj hg'; omega

def ChainPost (w : World) (bs : List Nat) (e : Ending) (w' : World) : Prop :=
  ∃ v, e = .returned v ∧ w'.ownsRow 0 79 1 v bs.length (bs.reverse.map ptr1) ∧ Ext [] w w' ∧ ∀ g, v.ownBlock = some g → w.heap.size ≤ g
def sliceLen : Value → Nat
  | .slice _ n _ => n
  | _ => 0

set_option maxHeartbeats 4000000 in
theorem chain_any (bs : List Nat) (ch : List Tk) (w : World) (H : TokAt w bs ch) (hn : bs.length ≤ 100) :
    Calls Tryd.prog 39 #[ptrV bs] w (ChainPost w bs) := by
  obtain ⟨i0, hi, hz0, hz1, hz2⟩ := info_parts info_tptr
  have HT := Lib.hid H
  clear H
  go_enter Tryd.func39, Tryd.ntmps39
  go_wp2_with fail
  go_loopw [0, 3] (fun p v wr => ∃ (done rest : List Nat) (cr : List Tk), bs = done ++ rest ∧ p = ptrV rest ∧ Hid (TokAt w rest cr) ∧ wr.ownsRow 0 79 1 v done.length (done.map ptr1) ∧ Ext [] w wr ∧ ∀ g, v.ownBlock = some g → w.heap.size ≤ g) (fun _ v _ => bs.length - sliceLen v)
  case atStart => exact ⟨[], bs, ch, rfl, rfl, HT, by simpa using World.ownsRow_nil _ _ _ _, Ext.refl _ _, fun g h => by cases h⟩
  case round =>
    clear HT
    obtain ⟨done, rest, cr, hbs, rfl, HT, hown, x, fr⟩ := hrel
    obtain ⟨va, vc, rfl⟩ := owns_slice hown
    have HB := Lib.hid hbs
    have hdl : done.length + rest.length = bs.length := by rw [hbs]; simp
    cases rest with
    | cons b rest' =>
      obtain ⟨y, cr', rfl⟩ : ∃ y cr', cr = y :: cr' := by
        cases cr with
        | nil => exact (HT.out).elim
        | cons y cr' => exact ⟨y, cr', rfl⟩
      obtain ⟨hb1, hb2⟩ := HT.out
      have hlb := hb1.lt
      have hcell := hb1.cell 7
      simp only [tkCells, List.getElem?_cons_succ, List.getElem?_cons_zero] at hcell
      have HB2 := Lib.hid hb2
      have hld : done.length + 1 ≤ 100 := by simp at hdl; omega
      generalize hdn : done.length = dn at *
      have HDN := Lib.hid hdn
      simp only [List.length_cons] at hdl
      clear hb1 hb2 HT hbs hdn
      obtain ⟨up, hup⟩ : ∃ up, up = ptrV rest' := ⟨_, rfl⟩
      rw [← hup] at hcell
      have HUP := Lib.hid hup
      clear hup
      rw [show ptrV (b :: rest') = .pointer (some ⟨b, 0, none⟩) from rfl]
      go_wp2_with (at_builtin; go_must (refine wpList_app _ rfl (.tmp 10) (.tmp 12) 93 rfl 79 i0 _ 1 8 Tryd.underlying93 hi hz0 hz1 hz2 rfl (by decide) _ _ _ rfl (owns_ext hown ((Ext.refl [] wr).alloc _) (by simp)) _ 1 [ptr1 b] rfl (blk_reads (Blk.new wr _ _) 1 rfl) (by intro u hu; simp at hu; subst hu; rfl) (by unfold maxLen; omega) (by omega) ?_); intro v3 w3 hown3 hgrow3 hfr3 _; obtain ⟨va3, vc3, rfl⟩ := owns_slice hown3; have x3 := (x.alloc _).grown hgrow3 (fun g hg => .inr (fr g hg)); have hc3 := (x3.cell (p := ⟨b, 7, none⟩) hlb (by simp)).trans hcell)
      go_roundw
      case rel =>
        refine ⟨done ++ [b], rest', cr', by rw [HB.out]; simp, HUP.out, HB2, ?_, x3, rows_freshT (x.alloc _) fr hfr3⟩
        rw [List.length_append, HDN.out, List.map_append]
        exact hown3
      case measure => simp [sliceLen]; omega
    | nil =>
      rw [show ptrV [] = .pointer none from rfl]
      simp only [List.append_nil] at hbs
      simp only [List.length_nil, Nat.add_zero] at hdl
      subst hbs
      have HR := Lib.hid (reverse_pany _ _ bs wr rfl (by omega) hown)
      have FR := Lib.hid fr
      clear hown fr HB HT
      go_wp2_with fail
      refine HR.out.mono ?_
      rintro e w2 ⟨rfl, hown2, x2⟩
      go_wp2_with fail
      go_ret
      refine ⟨_, rfl, hown2, x.trans' x2 (fun i hi => .inr (FR.out i (by simpa using hi))), FR.out⟩
end Go.Proofs.YtbjkfgfiifnjoaaDoor
