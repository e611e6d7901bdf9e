/- strconv.ParseUint, base 16, 16 bits; strconv.FormatUint, base 16, of numbers of sixteen bits. -/
import Derived.Shelf.Strconv.ToError
import Derived.Test.YtbjkfgfiifnjoaaDoorParLay
import Derived.Test.YtbjkfgfiifnjoaaDoorParA
namespace Go.Proofs.YtbjkfgfiifnjoaaDoor
open Go.RowKit
set_option maxRecDepth 100000

/-- What the standard library's variables hold: an integer (bytealg.MaxLen), errors, the table of math/bits at 15. -/
structure ParG (w : World) : Prop where
  m : ∃ m : Int, w.cell? ⟨4, 0, none⟩ = some (.int .i64 m)
  s : ∃ v, w.cell? ⟨2, 0, none⟩ = some v ∧ (v = .nilIface ∨ ∃ t p, v = .iface t p)
  r : ∃ v, w.cell? ⟨3, 0, none⟩ = some v ∧ (v = .nilIface ∨ ∃ t p, v = .iface t p)
  d : w.cell? ⟨9, 15, none⟩ = some (.int .u8 4)
theorem ParG.ext {w w' : World} (h : ParG w) (e : Ext [] w w') : ParG w' := by
  obtain ⟨⟨m, hm⟩, ⟨s, hs, hs2⟩, ⟨r, hr, hr2⟩, hd⟩ := h
  have l (a : Addr) (v : Value) (h : w.cell? a = some v) : w'.cell? a = some v := (e.cell (World.block_lt_of_cell? w _ h) (by simp)).trans h
  exact ⟨⟨m, l _ _ hm⟩, ⟨s, l _ _ hs, hs2⟩, ⟨r, l _ _ hr, hr2⟩, l _ _ hd⟩

theorem toerr_any (k : Int) (hk : k = 1 ∨ k = 2) (fn s : ByteArray) (hs : s.size ≤ 1048576) (w : World) (G : ParG w) :
    Calls Tryd.prog 111 #[.string fn, .string s, .int .i64 16, .int .i64 16, .iface 216 (.int .i64 k)] w fun e w' => ∃ v, e = .returned v ∧ (∃ t p, v = .iface t p) ∧ Ext [] w w' := by
  rcases hk with rfl | rfl
  · obtain ⟨v, hv, hv2⟩ := G.r
    exact (Any.strconv_toError_range Tryd.toErr fn s 16 16 v w (by omega) hv hv2).mono fun e w' ⟨N, he, _, _, x⟩ => ⟨_, he, ⟨_, _, rfl⟩, ext_of_below x⟩
  · obtain ⟨v, hv, hv2⟩ := G.s
    exact (Any.strconv_toError_syntax Tryd.toErr fn s 16 16 v w (by omega) hv hv2).mono fun e w' ⟨N, he, _, _, x⟩ => ⟨_, he, ⟨_, _, rfl⟩, ext_of_below x⟩

/-- A number of sixteen bits, and none or an error. -/
def UPost (w : World) (e : Ending) (w' : World) : Prop :=
  (∃ n : Nat, n ≤ 65535 ∧ ∃ v, e = .returned (.tuple #[.int .u64 (n : Int), v]) ∧ (v = .nilIface ∨ ∃ t p, v = .iface t p)) ∧ Ext [] w w'

set_option maxHeartbeats 4000000 in
theorem pu_any (s : ByteArray) (hs : s.size ≤ 1048576) (w : World) (G : ParG w) : Calls Tryd.prog 76 #[.string s, .int .i64 16, .int .i64 16] w (UPost w) := by
  have HP := Lib.hid (puint_any s hs w)
  have HT := Lib.hid (fun k hk fn w' (x : Ext [] w w') => toerr_any k hk fn s hs w' (G.ext x))
  go_enter Tryd.func76, Tryd.ntmps76
  go_wp2_with fail
  refine HP.out.mono ?_
  rintro e w1 ⟨⟨n, hn, he⟩, x1⟩
  rcases he with rfl | rfl | rfl
  · go_wp2_with fail
    go_ret2
    exact ⟨⟨n, hn, _, rfl, .inl rfl⟩, x1⟩
  · go_wp2_with fail
    refine (HT.out 1 (.inl rfl) _ w1 x1).mono ?_
    rintro e w2 ⟨v, rfl, hv, x2⟩
    go_wp2_with fail
    go_ret2
    exact ⟨⟨n, hn, _, rfl, .inr hv⟩, x1.trans x2⟩
  · go_wp2_with fail
    refine (HT.out 2 (.inr rfl) _ w1 x1).mono ?_
    rintro e w2 ⟨v, rfl, hv, x2⟩
    go_wp2_with fail
    go_ret2
    exact ⟨⟨n, hn, _, rfl, .inr hv⟩, x1.trans x2⟩

end Go.Proofs.YtbjkfgfiifnjoaaDoor
