/- Package bmap: sorted, and copied. -/
import Derived.Test.YtbjkfgfiifnjoaaDoorBmJ
namespace Go.Proofs.YtbjkfgfiifnjoaaDoor
open Go.RowKit
set_option maxRecDepth 100000

theorem bm_insert0 (a : Option Addr) (c : Nat) (f : Value) (w : World) : Calls Tryd.prog 125 #[.slice a 0 c, .int .i64 0, .int .i64 0, f] w fun e w' => e = .returned (.tuple #[]) ∧ w = w' := by
  go_enter Tryd.func125, Tryd.ntmps125
  go_wp2_with fail
  go_loopw [8] (fun i wr => i = .int .i64 1 ∧ w = wr) (fun _ _ => 0)
  case atStart => exact ⟨rfl, rfl⟩
  case round =>
    obtain ⟨rfl, rfl⟩ := hrel
    go_wp2_with fail
    go_end0
    exact ⟨rfl, rfl⟩

set_option maxHeartbeats 8000000 in
theorem bm_stable (a : Option Addr) (n c : Nat) (f : Value) (w : World) (R : World → Prop) (hn : n ≤ 8)
    (HI : Calls Tryd.prog 125 #[.slice a n c, .int .i64 0, .int .i64 (n : Int), f] w fun e w' => e = .returned (.tuple #[]) ∧ R w') :
    Calls Tryd.prog 104 #[.slice a n c, .int .i64 (n : Int), f] w fun e w' => e = .returned (.tuple #[]) ∧ R w' := by
  have HH := Lib.hid HI
  clear HI
  have h20 : (n : Int) < 20 := by omega
  go_enter Tryd.func104, Tryd.ntmps104
  go_wp2_with fail
  go_loopw [7, 8] (fun a b wr => a = .int .i64 0 ∧ b = .int .i64 20 ∧ w = wr) (fun _ _ _ => 0)
  case atStart => exact ⟨rfl, rfl, rfl⟩
  case round =>
    obtain ⟨rfl, rfl, rfl⟩ := hrel
    go_wp2_with fail
    refine HH.out.mono ?_
    rintro e w2 ⟨rfl, hR⟩
    have HR := Lib.hid hR
    clear hR
    go_wp2_with fail
    go_loopw [6] (fun a wr => a = .int .i64 20 ∧ w2 = wr) (fun _ _ => 0)
    case atStart => exact ⟨rfl, rfl⟩
    case round =>
      obtain ⟨rfl, rfl⟩ := hrel
      go_wp2_with fail
      go_end0
      exact ⟨rfl, HR.out⟩
theorem bm_sort (a : Option Addr) (n c : Nat) (f : Value) (w : World) (R : World → Prop) (hn : n ≤ 8)
    (HI : Calls Tryd.prog 125 #[.slice a n c, .int .i64 0, .int .i64 (n : Int), f] w fun e w' => e = .returned (.tuple #[]) ∧ R w') :
    Calls Tryd.prog 66 #[.slice a n c, f] w fun e w' => e = .returned (.tuple #[]) ∧ R w' := by
  have HH := Lib.hid (bm_stable a n c f w R hn HI)
  clear HI
  go_enter Tryd.func66, Tryd.ntmps66
  go_wp2_with fail
  refine HH.out.mono ?_
  rintro e w2 ⟨rfl, hR⟩
  go_wp2_with fail
  go_end0
  exact ⟨rfl, hR⟩

theorem ptrE_one (es : List BE) : ∀ u ∈ ptrE es, u.oneCell' = true := by
  intro u hu
  simp only [ptrE, List.mem_map] at hu
  obtain ⟨x, _, rfl⟩ := hu
  rfl
theorem bm_clone (v : Value) (es : List BE) (w : World) (h : w.ownsRow 0 116 1 v es.length (ptrE es)) (hl : es.length ≤ 8) :
    Calls Tryd.prog 65 #[v] w fun e w' => ∃ v', e = .returned v' ∧ w'.ownsRow 0 116 1 v' es.length (ptrE es) ∧ Ext [] w w' ∧ ∀ g, v'.ownBlock = some g → w.heap.size ≤ g := by
  obtain ⟨i0, hi, hz0, hz1, hz2⟩ := info_parts info_ptrB
  have HR := Lib.hid (fun w' (x : Ext [] w w') => (owns_reads h).ext x)
  have hnil := Lib.run_eql_slice_nil (P := Tryd.prog)
  obtain ⟨a, c, rfl⟩ := owns_slice h
  cases a with
  | none =>
    have h0 : es.length = 0 ∧ c = 0 := by
      rcases h.2 with ⟨e, _⟩ | ⟨g, cap, cur, e, _⟩
      · simp at e; exact ⟨by simp [e.1], e.2⟩
      · simp at e
    have hes : es = [] := List.eq_nil_of_length_eq_zero h0.1
    subst hes
    obtain ⟨-, rfl⟩ := h0
    go_enter Tryd.func65, Tryd.ntmps65
    go_wp2_with fail
    go_ret
    exact ⟨_, rfl, World.ownsRow_nil _ _ _ _, Ext.refl _ _, fun g h => by cases h⟩
  | some ad =>
    clear h
    go_enter Tryd.func65, Tryd.ntmps65
    go_wp2_with (at_builtin; go_must (refine wpList_app _ rfl (.tmp 5) (.tmp 6) 113 rfl 116 i0 _ 1 8 Tryd.underlying113 hi hz0 hz1 hz2 rfl (by decide) (.slice (some ⟨w.heap.size, 0, none⟩) 0 0) 0 [] rfl ((Blk.new w 116 #[]).owns rfl (Nat.zero_le _)) (.slice (some ad) es.length c) es.length (ptrE es) rfl (HR.out _ ((Ext.refl _ _).alloc _)) (ptrE_one es) (by unfold maxLen; omega) (by omega) ?_); intro v2 w2 hown2 hgrow2 hfr2 _)
    go_ret
    simp only [Nat.zero_add, List.nil_append] at hown2
    refine ⟨_, rfl, hown2, ((Ext.refl [] w).alloc _).grown hgrow2 (by intro g hg; simp [Value.ownBlock] at hg; exact .inr (by omega)), ?_⟩
    intro g hg
    change v2.ownBlock = some g at hg
    rcases hfr2 with h | ⟨g', h, hle⟩
    · rw [h] at hg; simp [Value.ownBlock] at hg; omega
    · rw [h] at hg; obtain rfl := Option.some.inj hg; simp at hle; omega
end Go.Proofs.YtbjkfgfiifnjoaaDoor
