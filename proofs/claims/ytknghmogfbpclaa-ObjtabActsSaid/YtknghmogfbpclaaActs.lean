/- The statement ObjtabActs. -/
import Derived.Test.YtknghmogfbpclaaActR
import Derived.Test.YtknghmogfbpclaaFlat
namespace Go.Proofs.Ytknghmogfbpclaa
open Go.RowKit
set_option maxRecDepth 100000

abbrev actLeaves : List Leaf := [.int .i64, .int .i64, .int .i64]
/-- A row of acts that came in: where each one's cells lie. -/
theorem acts_of_row {w : World} {a : Option Addr} {len cap : Nat} (h : RowOf (Flat actLeaves) 3 w a len cap) :
    len ≤ 9223372036854775807 ∧ ∀ k, k < len → ∃ (b o : Nat) (wt xx id : Int), a = some ⟨b, o, none⟩ ∧ b < w.heap.size ∧ w.cell? ⟨b, o + k * 3, none⟩ = some (.int .i64 wt) ∧ w.cell? ⟨b, o + k * 3 + 1, none⟩ = some (.int .i64 xx) ∧ w.cell? ⟨b, o + k * 3 + 2, none⟩ = some (.int .i64 id) := by
  rcases h with ⟨rfl, rfl, rfl⟩ | ⟨x, rfl, hl, hm, hc⟩
  · exact ⟨by omega, fun k hk => by omega⟩
  · refine ⟨by unfold maxLen at hm; omega, fun k hk => ?_⟩
    obtain ⟨cs, -, hf, hcs⟩ := hc k (by omega)
    obtain ⟨v1, r1, rfl, ⟨z1, rfl, _⟩, v2, r2, rfl, ⟨z2, rfl, _⟩, v3, r3, rfl, ⟨z3, rfl, _⟩, rfl⟩ := hf
    have h0 := hcs 0 (by omega)
    have h1 := hcs 1 (by omega)
    have h2 := hcs 2 (by omega)
    simp only [List.getElem?_cons_zero, List.getElem?_cons_succ] at h0 h1 h2
    obtain ⟨b, o, spot⟩ := x
    have hs : spot = none := by
      obtain ⟨cs', -, hf', hcs'⟩ := hc 0 (by omega)
      obtain ⟨v1', r1', rfl, ⟨z1', rfl, _⟩, -⟩ := hf'
      have h00 := hcs' 0 (by omega)
      simp only [List.getElem?_cons_zero] at h00
      have := World.cell?_spot h00
      simpa [Addr.add] using this
    subst hs
    rw [Addr.add_add, Addr.add_lit] at h0 h1 h2
    exact ⟨b, o, z1, z2, z3, rfl, World.block_lt_of_cell? w _ h0, h0, h1, h2⟩

theorem none_any (w : World) : Calls Try.prog 19 #[] w fun e w' => e = .returned (.pointer none) ∧ w = w' := by
  go_enter Try.func19, Try.ntmps19
  go_wp2
  go_ret
  exact ⟨rfl, rfl⟩
theorem live_nil (w : World) : Calls Try.prog 20 #[.pointer none] w fun e w' => e = .returned (.slice none 0 0) ∧ w = w' := by
  go_enter Try.func20, Try.ntmps20
  go_wp2_with fail
  go_ret
  exact ⟨rfl, rfl⟩

set_option maxHeartbeats 32000000 in
theorem acts_walk (a0 : Int) (a1 : Option Addr) (len1 cap1 : Nat) (w : World) (hr : RowOf (Flat actLeaves) 3 w a1 len1 cap1) :
    Calls Try.prog 6 #[.int .i64 a0, .slice a1 len1 cap1] w fun e w' => e = .returned (.bool true) ∧ Ext [] w w' := by
  obtain ⟨hl63, hat⟩ := acts_of_row hr
  have HAT := Lib.hid hat
  have HNO := Lib.hid none_any
  have HMK := Lib.hid (I.obj_make_nil 1)
  have HDR := Lib.hid (fun w => I.obj_drop_no (.pointer none) 1 22 w (by omega) (I.obj_find_nil 1 w))
  have HGE := Lib.hid (fun w => I.obj_get_no (.pointer none) 1 22 w (by omega) (I.obj_find_nil 1 w))
  have HHO := Lib.hid (fun w => I.obj_hold_no (.pointer none) 1 22 w (by omega) (I.obj_find_nil 1 w))
  have HHE := Lib.hid (fun w => I.obj_held_no (.pointer none) 1 22 w (by omega) (I.obj_find_nil 1 w))
  have HLI := Lib.hid live_nil
  clear hr hat
  go_enter Try.func6, Try.ntmps6
  go_wp2_with fail
  refine (HNO.out w).mono ?_
  rintro e w' ⟨rfl, rfl⟩
  go_wp2_with fail
  refine (HMK.out w).mono ?_
  rintro e w' ⟨rfl, rfl⟩
  go_wp2_with fail
  refine (HNO.out w).mono ?_
  rintro e w' ⟨rfl, rfl⟩
  go_wp2_with fail
  refine (HDR.out w).mono ?_
  rintro e w' ⟨rfl, rfl⟩
  go_wp2_with fail
  refine (HNO.out w).mono ?_
  rintro e w' ⟨rfl, rfl⟩
  go_wp2_with fail
  refine (HGE.out w).mono ?_
  rintro e w' ⟨rfl, rfl⟩
  go_wp2_with fail
  refine (holds_any w).mono ?_
  rintro e w2 ⟨rfl, x2⟩
  go_wp2_with fail
  refine (HNO.out w2).mono ?_
  rintro e w' ⟨rfl, rfl⟩
  go_wp2_with fail
  refine (HHO.out w2).mono ?_
  rintro e w' ⟨rfl, rfl⟩
  go_wp2_with fail
  refine (HNO.out w2).mono ?_
  rintro e w' ⟨rfl, rfl⟩
  go_wp2_with fail
  refine (HHE.out w2).mono ?_
  rintro e w' ⟨rfl, rfl⟩
  go_wp2_with fail
  refine (HNO.out w2).mono ?_
  rintro e w' ⟨rfl, rfl⟩
  go_wp2_with fail
  refine (HLI.out w2).mono ?_
  rintro e w' ⟨rfl, rfl⟩
  clear HNO HMK HDR HGE HHO HHE HLI
  by_cases hb : 1 ≤ a0 ∧ a0 ≤ 64
  · obtain ⟨hb1, hb2⟩ := hb
    obtain ⟨n, rfl⟩ : ∃ n : Nat, a0 = (n : Int) := ⟨a0.toNat, by omega⟩
    have HN := Lib.hid (I.obj_new n w2 (by omega) (by omega))
    go_wp2_with fail
    refine HN.out.mono ?_
    rintro e w3 ⟨rfl, O3, x3, -⟩
    clear HN
    have x23 := x2.trans x3
    generalize hbt : w2.heap.size + 1 = bt at *
    generalize hbm : w2.heap.size = bm at *
    have hws := x2.size
    go_upto_region 10 with (fail)
    have BD := Blk.new w3 51 #[.int .i64 (n : Int), .int .i64 0, .slice none 0 0]
    have x4 : Ext [] w3 (w3.alloc (.cells #[.int .i64 (n : Int), .int .i64 0, .slice none 0 0] 51)) := (Ext.refl _ _).alloc _
    have O4 := O3.ext0 x4
    have x24 := x23.trans x4
    have ht3 := O3.t.lt
    have hm3 := O3.m.lt
    have A4 : ActI w.heap.size (w3.alloc (.cells #[.int .i64 (n : Int), .int .i64 0, .slice none 0 0] 51)) bt bm w3.heap.size (.slice none 0 0) n 0 [] :=
      ⟨O4, ⟨BD, World.ownsRow_nil _ _ _ _, fun g h => by cases h⟩, by simp, ⟨by omega, by omega, by simp⟩, (fun g h => by cases h), ⟨by omega, by omega, by omega, by simp, (fun g h => by cases h)⟩⟩
    generalize hbd : w3.heap.size = bd at *
    generalize w3.alloc (.cells #[.int .i64 (n : Int), .int .i64 0, .slice none 0 0] 51) = w4 at *
    clear BD O4 O3 x4 x23 x3 ht3 hm3 hbd hbt hbm x2 hws
    go_wp2_with fail
    go_loopw [14] (fun i wr => ∃ (k next : Nat) (l : List Ent) (v : Value), i = .int .i64 (k : Int) ∧ k ≤ len1 ∧ k ≤ 80 ∧ next ≤ k ∧ ActI w.heap.size wr bt bm bd v n next l ∧ Ext [] w wr) (fun i _ => 80 - (intOf i).toNat)
    case atStart => exact ⟨0, 0, [], _, rfl, Nat.zero_le _, by omega, Nat.le_refl _, A4, x24⟩
    case round =>
      clear A4 x24
      obtain ⟨k, next, l, v, rfl, hk, hk80, hnk, A, x⟩ := hrel
      by_cases hlt : k < len1 ∧ k < 80
      · obtain ⟨hlt, h80⟩ := hlt
        obtain ⟨b, o, wt, xx, id, rfl, hbl, d0, d1, d2⟩ := HAT.out k hlt
        have c0 := (x.cell (p := ⟨b, o + k * 3, none⟩) hbl (by simp)).trans d0
        have c1 := (x.cell (p := ⟨b, o + k * 3 + 1, none⟩) hbl (by simp)).trans d1
        have c2 := (x.cell (p := ⟨b, o + k * 3 + 2, none⟩) hbl (by simp)).trans d2
        have hbl2 : b < wr.heap.size := Nat.lt_of_lt_of_le hbl x.size
        clear d0 d1 d2
        go_upto_region 13 with (fail)
        go_cut [15] from 94 to 265 (fun p wx => p = .pointer (some ⟨wr.heap.size, 0, none⟩) ∧ wx = wr.alloc (.cells #[.int .i64 wt, .int .i64 xx, .int .i64 id] 53))
        case first =>
          go_wp2_with fail
          go_meet
          exact ⟨rfl, rfl⟩
        case rest =>
          obtain ⟨rfl, rfl⟩ := hcut
          have BX := Blk.new wr 53 #[.int .i64 wt, .int .i64 xx, .int .i64 id]
          have x1 : Ext [] wr (wr.alloc (.cells #[.int .i64 wt, .int .i64 xx, .int .i64 id] 53)) := (Ext.refl _ _).alloc _
          obtain ⟨l1, l2, l3, l4, l5⟩ := A.lts
          have AP : Apart wr.heap.size bt bm bd v l := ⟨by omega, by omega, by omega, fun y hy => by have := l4 y hy; omega, fun g hg => by have := l5 g hg; omega⟩
          rename_i KK aK
          refine aK _ _ ?_
          refine act_round bt bm bd wr.heap.size n next v l wt xx id w _ (x.trans x1) (A.ext0 x1) (by omega) BX AP _ (by kernel_rfl) _ _ _ _ _ _ _ _ _ _ _ _ _ _ _ _ _ _ _ _ _ _ _ _ _ _ _ _ _ _ _ _ _ _ _ _ _ _ _ _ _ _ _ _ _ _ _ _ _ _ _ _ _ _ _ _ _ _ _ _ _ _ _ _ _ _ _ _ _ _ _ _ _ _ _ _ _ _ _ _ _ _ _ _ _ _ _ _ _ _ _ _ _ _ _ _ _ _ _ _ _ _ _ _ _ _ _ _ _ _ _ _ _ _ _ _ _ _ _ _ _ _ _ _ _ _ _ _ _ _ _ _ _ _ _ _ _ _ _ _ _ _ _ _ _ _ _ _ _ _ _ _ _ _ _ _ _ _ _ _ _ _ _ _ _ _ _ _ _ _ _ _ _ _ _ _ _ _ _ _ _ _ _ _ _ _ _ _ _ _ _ _ _ _ _ _ _ _ _ _ _ _ _ _ _ _ _ _ _ _ _ _ _ _ _ _ _ _ _ _ _ _ _ _ _ _ _ _ _ _ _ _ _ _ _ _ _ _ _ _ _ _ _ _ _ _ _ _ _ _ _ _ _ _ _ _ _ _ _ _ _ _ _ _ _ _ _ _ _ _ _ ?_ ?_
          · exact fun _ _ _ _ _ h => h
          intro l2' v2 next2 s4 s16 s17 s18 s19 s20 s21 s22 s23 s24 s25 s26 s27 s28 s108 s109 s110 s111 s112 s113 s114 s115 s116 s117 s118 s119 s120 s121 s122 s123 s124 s125 s126 s127 s128 s129 s130 s131 s132 s133 s134 s135 s136 s137 s138 s139 s140 s141 s142 s143 s144 s145 s146 s147 s148 s149 s150 s151 s152 s153 s154 s155 s156 s157 s158 s159 s160 s161 s162 s163 s164 s165 s166 s167 s168 s169 s170 s171 s172 s173 s174 s175 s176 s177 s178 s179 s180 s181 s182 s183 s184 s185 s186 s187 s188 s189 s190 s191 s192 s193 s194 s195 s196 s197 s198 s199 s200 s201 s202 s203 s204 s205 s206 s207 s208 s209 s210 s211 s212 s213 s214 s215 s216 s217 s218 s219 s220 s221 s222 s223 s224 s225 s226 s227 s228 s229 s230 s231 s232 s233 s234 s235 s236 s237 s238 s239 s240 s241 s242 s243 s244 s245 s246 s247 s248 s249 s250 s251 s252 s253 s254 s255 s256 s257 s258 s259 s260 s261 s262 s263 s264 s265 w' A' hn2 x'
          clear c0 c1 c2 A x BX x1 AP l1 l2 l3 l4 l5
          go_wp2_with fail
          go_roundw
          case rel => exact ⟨k + 1, next2, l2', v2, by go_num, by omega, by omega, by omega, A', x'⟩
          case measure => simp [intOf]; omega
      · have HHE := Lib.hid (I.obj_held_no (.pointer (some ⟨bt, 0, none⟩)) 0 2 wr (by omega) (I.obj_find_no A.o 0 (fun y hy e => by have := A.o.top y hy; omega)))
        clear A
        rcases (show ¬ k < len1 ∨ (k < len1 ∧ ¬ k < 80) by omega) with h1 | ⟨h1, h2⟩
        all_goals
          clear hlt
          go_wp2_with fail
          refine HHE.out.mono ?_
          rintro e w9 ⟨rfl, rfl⟩
          go_wp2_with fail
          go_ret
          exact ⟨rfl, x⟩
  · have hbad : a0 < 1 ∨ 64 < a0 := by omega
    have HN := Lib.hid (I.obj_new_bad a0 w2 hbad)
    clear hb
    rcases hbad with h | h
    all_goals
      go_wp2_with fail
      refine HN.out.mono ?_
      rintro e w3 ⟨rfl, rfl⟩
      go_wp2_with fail
      go_ret
      exact ⟨rfl, x2⟩
end Go.Proofs.Ytknghmogfbpclaa
