-- Written by a program of this work (wip/tools) for this claim; Lean checks it.
import Derived.Test.YtmhacdnnnebpdaaDoorPFrontCutsx0
import Derived.Test.YtmhacdnnnebpdaaDoorPFrontCutsx1
import Derived.Test.YtmhacdnnnebpdaaDoorPFrontCutsx2
namespace Go.Proofs.YtmhacdnnnebpdaaDoor.PFrontCuts
open Go.RowKit Go.Proofs.YtmhacdnnnebpdaaDoorW.PrintWords Go.Proofs.YtmhacdnnnebpdaaDoorW.PrintLast Go.Proofs.YtmhacdnnnebpdaaDoorW.PrintMore
attribute [local go_sem] max2_int min2_int max_two min_two max_three min_three max_four min_four   -- for this text's walks alone
set_option linter.unusedVariables false
set_option linter.unusedSimpArgs false

/-! ### earshotlaw13_Spec_front: function 23 -/
theorem i64_mask (i : Nat) (hi : i ≤ 62) (n m : Int) (hm : m = ((2 ^ i - 1 : Nat) : Int)) : Go.bits .and .i64 n m = n % ((2 ^ i : Nat) : Int) := by
  have hp : 0 < 2 ^ i := Nat.two_pow_pos i
  have hle : 2 ^ i ≤ 4611686018427387904 := Nat.pow_le_pow_right (n := 2) (by decide) hi
  have h1 : (BitVec.ofInt 64 m).toNat = 2 ^ i - 1 := by
    subst hm
    rw [BitVec.ofInt_natCast, BitVec.toNat_ofNat]
    exact Nat.mod_eq_of_lt (by omega)
  have key : (BitVec.ofInt 64 n &&& BitVec.ofInt 64 m).toNat = (n % ((2 ^ 64 : Nat) : Int)).toNat % 2 ^ i := by
    rw [BitVec.toNat_and, BitVec.toNat_ofInt, h1, Nat.and_two_pow_sub_one_eq_mod]
  show IntKind.i64.wrap ((BitVec.ofInt 64 n &&& BitVec.ofInt 64 m).toNat : Nat) = n % _
  rw [key, IntKind.wrap_i64]
  have r0 : 0 ≤ n % ((2 ^ 64 : Nat) : Int) := Int.emod_nonneg _ (by decide)
  have e : (((n % ((2 ^ 64 : Nat) : Int)).toNat % 2 ^ i : Nat) : Int) = n % ((2 ^ i : Nat) : Int) := by
    rw [Int.natCast_emod, Int.toNat_of_nonneg r0]
    refine Int.emod_emod_of_dvd _ ?_
    exact Int.natCast_dvd_natCast.2 (Nat.pow_dvd_pow 2 (by omega))
  rw [e]
  generalize hz : n % ((2 ^ i : Nat) : Int) = z
  have m0 : 0 ≤ z := hz ▸ Int.emod_nonneg _ (by omega)
  have m1 : z < ((2 ^ i : Nat) : Int) := hz ▸ Int.emod_lt_of_pos _ (by omega)
  have hle' : ((2 ^ i : Nat) : Int) ≤ 4611686018427387904 := Int.ofNat_le.2 hle
  have m2 : z < 4611686018427387904 := Int.lt_of_lt_of_le m1 hle'
  clear m1 hle' hle hz e key h1
  omega

def specS (wide : Bool) : Int := if wide = true then 32 else 16
def specB (many : Bool) : Int := if many = true then 8 else 4
def fill5 (W : World) (g : Nat) (a0 a1 a2 a3 a4 : Value) : World := ((((W.setCell ⟨g, 0, none⟩ a0).setCell ⟨g, 1, none⟩ a1).setCell ⟨g, 2, none⟩ a2).setCell ⟨g, 3, none⟩ a3).setCell ⟨g, 4, none⟩ a4
theorem fill5_at {W : World} {g t : Nat} {b0 b1 b2 b3 b4 : Value} (h : W.heap[g]? = some (.cells #[b0, b1, b2, b3, b4] t (0, 0))) (a0 a1 a2 a3 a4 : Value) : (fill5 W g a0 a1 a2 a3 a4).heap[g]? = some (.cells #[a0, a1, a2, a3, a4] t (0, 0)) :=
  (blk_set (blk_set (blk_set (blk_set (blk_set h 0 a0) 1 a1) 2 a2) 3 a3) 4 a4).trans rfl
theorem blk_far {W : World} {g j k : Nat} {o : Obj} (h : W.heap[k]? = some o) (hne : k ≠ g) (u : Value) : (W.setCell ⟨g, j, none⟩ u).heap[k]? = some o := (Below.heap_setCell W ⟨g, j, none⟩ u k hne).trans h
theorem fill5_far {W : World} {g k : Nat} {o : Obj} (h : W.heap[k]? = some o) (hne : k ≠ g) (a0 a1 a2 a3 a4 : Value) : (fill5 W g a0 a1 a2 a3 a4).heap[k]? = some o :=
  blk_far (blk_far (blk_far (blk_far (blk_far h hne _) hne _) hne _) hne _) hne _
theorem fill5_below {w W : World} {g : Nat} (h : Below w.heap.size w W) (hg : w.heap.size ≤ g) (a0 a1 a2 a3 a4 : Value) : Below w.heap.size w (fill5 W g a0 a1 a2 a3 a4) :=
  below_set (below_set (below_set (below_set (below_set h hg) hg) hg) hg) hg
set_option maxHeartbeats 16000000 in
set_option maxRecDepth 100000 in
theorem spec_ff (x y z : Int) (w : World) :
    Calls Tryd.prog 23 #[.agg #[.int .i64 x, .int .i64 y, .int .i64 z, .bool false, .bool false]] w fun e w' => e = .returned (.agg #[.int .i64 16, .int .i64 (1 + x % 16), .int .i64 4, .int .i64 (1 + y % 4), .int .i64 (z % 32768)]) ∧ Below w.heap.size w w' := by
  have hu41 := Tryd.underlying41
  have hu39 := Tryd.underlying39
  have HB := Aside0.mk (Below.refl w.heap.size w)
  have m0 : Go.bits .and .i64 x 15 = x % 16 := i64_mask 4 (by decide) x 15 (by decide)
  have m1 : Go.bits .and .i64 y 3 = y % 4 := i64_mask 2 (by decide) y 3 (by decide)
  have m2 : Go.bits .and .i64 z 32767 = z % 32768 := i64_mask 15 (by decide) z 32767 (by decide)
  have e0 : IntKind.i64.wrap (1 + x % 16) = 1 + x % 16 := by rw [IntKind.wrap_i64]; omega
  have e1 : IntKind.i64.wrap (1 + y % 4) = 1 + y % 4 := by rw [IntKind.wrap_i64]; omega
  have ST0 : True := trivial
  go_enter Tryd.func23, Tryd.ntmps23
  go_upto_region 2 with (first
    | ((with_reducible refine gate_dst (N := 1) rfl ?_); refine box_event ?hg (N := 1) ?hd (cs := #[.int .i64 x, .int .i64 y, .int .i64 z, .bool false, .bool false]) (t := 41) ?hr ?_; (case hd => rfl); (case hg => first | rfl | exact wanted_on rfl rfl rfl (by first | assumption | rfl | (simp [*]; done))); (case hr => first | (go_simp; done) | (go_simp; rfl)); intro g1 hg1 w1 hbox hb; subst hg1; have BX1 := Aside0.mk hbox; have HB1 := Aside0.mk hb; have p0 := blk_cell BX1.out 0; have p1 := blk_cell BX1.out 1; have p2 := blk_cell BX1.out 2; have p3 := blk_cell BX1.out 3; have p4 := blk_cell BX1.out 4; clear ST0 hbox hb; have ST1 : True := trivial)
    | ((with_reducible refine gate_dst (N := 2) rfl ?_); refine box_event ?hg (N := 2) ?hd (cs := #[.int .i64 0, .int .i64 0, .int .i64 0, .int .i64 0, .int .i64 0]) (t := 39) ?hr ?_; (case hd => rfl); (case hg => first | rfl | exact wanted_on rfl rfl rfl (by first | assumption | rfl | (simp [*]; done))); (case hr => first | (go_simp; done) | (go_simp; rfl)); intro g2 hg2 w2 hbox hb; have BX2 := Aside0.mk (blk_below BX1.out hb); have HB2 := Aside0.mk (below_step HB1.out hb); have BY2 := Aside0.mk hbox; have hgl2 : w.heap.size < g2 := (by rw [hg2]; exact blk_lt BX1.out); clear ST1 hbox hb hg2 BX1 HB1 p0 p1 p2 p3 p4; have p0 := blk_cell BX2.out 0; have p1 := blk_cell BX2.out 1; have p2 := blk_cell BX2.out 2; have p3 := blk_cell BX2.out 3; have p4 := blk_cell BX2.out 4; have ST2 : True := trivial)
    | ((with_reducible refine gate_dst (N := 3) rfl ?_); refine box_event ?hg (N := 3) ?hd (cs := #[.int .i64 0, .int .i64 0, .int .i64 0, .int .i64 0, .int .i64 0]) (t := 39) ?hr ?_; (case hd => rfl); (case hg => first | rfl | exact wanted_on rfl rfl rfl (by first | assumption | rfl | (simp [*]; done))); (case hr => first | (go_simp; done) | (go_simp; rfl)); intro g3 hg3 w3 hbox hb; have BX3 := Aside0.mk (blk_below BX2.out hb); have HB3 := Aside0.mk (below_step HB2.out hb); have BY3 := Aside0.mk (blk_below BY2.out hb); have BZ3 := Aside0.mk hbox; have hgl3 : g2 < g3 := (by rw [hg3]; exact blk_lt BY2.out); clear ST2 hbox hb hg3 BX2 HB2 BY2 p0 p1 p2 p3 p4; have p0 := blk_cell BX3.out 0; have p1 := blk_cell BX3.out 1; have p2 := blk_cell BX3.out 2; have p3 := blk_cell BX3.out 3; have p4 := blk_cell BX3.out 4; have y0 := blk_cell BY3.out 0; have y1 := blk_cell BY3.out 1; have y2 := blk_cell BY3.out 2; have y3 := blk_cell BY3.out 3; have y4 := blk_cell BY3.out 4; have z0 := blk_cell BZ3.out 0; have z1 := blk_cell BZ3.out 1; have z2 := blk_cell BZ3.out 2; have z3 := blk_cell BZ3.out 3; have z4 := blk_cell BZ3.out 4; have u0 := blk_frozen BY3.out 0; have u1 := blk_frozen BY3.out 1; have u2 := blk_frozen BY3.out 2; have u3 := blk_frozen BY3.out 3; have u4 := blk_frozen BY3.out 4; have v0 := blk_frozen BZ3.out 0; have v1 := blk_frozen BZ3.out 1; have v2 := blk_frozen BZ3.out 2; have v3 := blk_frozen BZ3.out 3; have v4 := blk_frozen BZ3.out 4; have ne1 : ¬ g3 = g2 := (by omega); have ne2 : ¬ g2 = g3 := (by omega); have ne3 : ¬ w.heap.size = g2 := (by omega); have ne4 : ¬ w.heap.size = g3 := (by omega); have ST3 : True := trivial))
  obtain ⟨w4, hw4⟩ : ∃ W, fill5 w3 g3 (.int .i64 16) (.int .i64 0) (.int .i64 4) (.int .i64 0) (.int .i64 (z % 32768)) = W := ⟨_, rfl⟩
  have hgs2 : w.heap.size ≤ g2 := by omega
  have hgs3 : w.heap.size ≤ g3 := by omega
  have BZ4 := Aside0.mk (hw4 ▸ fill5_at BZ3.out (.int .i64 16) (.int .i64 0) (.int .i64 4) (.int .i64 0) (.int .i64 (z % 32768)))
  have BY4 := Aside0.mk (hw4 ▸ fill5_far (g := g3) BY3.out ne2 (.int .i64 16) (.int .i64 0) (.int .i64 4) (.int .i64 0) (.int .i64 (z % 32768)))
  have BX4 := Aside0.mk (hw4 ▸ fill5_far (g := g3) BX3.out ne4 (.int .i64 16) (.int .i64 0) (.int .i64 4) (.int .i64 0) (.int .i64 (z % 32768)))
  have HB4 := Aside0.mk (hw4 ▸ fill5_below HB3.out hgs3 (.int .i64 16) (.int .i64 0) (.int .i64 4) (.int .i64 0) (.int .i64 (z % 32768)))
  unfold fill5 at hw4
  rw [hw4]
  clear hw4 BZ3 BY3 BX3 HB3 p0 p1 p2 p3 p4 y0 y1 y2 y3 y4 z0 z1 z2 z3 z4 u0 u1 u2 u3 u4 v0 v1 v2 v3 v4
  have p0 := blk_cell BX4.out 0
  have p1 := blk_cell BX4.out 1
  have p3 := blk_cell BX4.out 3
  have p4 := blk_cell BX4.out 4
  have y0 := blk_cell BY4.out 0
  have y1 := blk_cell BY4.out 1
  have y2 := blk_cell BY4.out 2
  have y3 := blk_cell BY4.out 3
  have y4 := blk_cell BY4.out 4
  have z0 := blk_cell BZ4.out 0
  have z1 := blk_cell BZ4.out 1
  have z2 := blk_cell BZ4.out 2
  have z3 := blk_cell BZ4.out 3
  have z4 := blk_cell BZ4.out 4
  have u0 := blk_frozen BY4.out 0
  have u1 := blk_frozen BY4.out 1
  have u2 := blk_frozen BY4.out 2
  have u3 := blk_frozen BY4.out 3
  have u4 := blk_frozen BY4.out 4
  have v0 := blk_frozen BZ4.out 0
  have v1 := blk_frozen BZ4.out 1
  have v2 := blk_frozen BZ4.out 2
  have v3 := blk_frozen BZ4.out 3
  go_wp2
  refine bodyPost_ret (results_cell_row rfl _ _ g2 39 #[.int .i64 16, .int .i64 (1 + x % 16), .int .i64 4, .int .i64 (1 + y % 4), .int .i64 (z % 32768)] (0, 0) _ rfl (fill5_at (g := g2) (blk_far (blk_far BY4.out ne2 (.int .i64 (1 + x % 16))) ne2 (.int .i64 (1 + y % 4))) _ _ _ _ _) hu39 rfl (by kernel_rfl)) rfl ?_
  exact ⟨rfl, fill5_below (below_set (below_set HB4.out hgs3) hgs3) hgs2 _ _ _ _ _⟩
set_option maxHeartbeats 16000000 in
set_option maxRecDepth 100000 in
theorem spec_ft (x y z : Int) (w : World) :
    Calls Tryd.prog 23 #[.agg #[.int .i64 x, .int .i64 y, .int .i64 z, .bool false, .bool true]] w fun e w' => e = .returned (.agg #[.int .i64 16, .int .i64 (1 + x % 16), .int .i64 8, .int .i64 (1 + y % 8), .int .i64 (z % 32768)]) ∧ Below w.heap.size w w' := by
  have hu41 := Tryd.underlying41
  have hu39 := Tryd.underlying39
  have HB := Aside0.mk (Below.refl w.heap.size w)
  have m0 : Go.bits .and .i64 x 15 = x % 16 := i64_mask 4 (by decide) x 15 (by decide)
  have m1 : Go.bits .and .i64 y 7 = y % 8 := i64_mask 3 (by decide) y 7 (by decide)
  have m2 : Go.bits .and .i64 z 32767 = z % 32768 := i64_mask 15 (by decide) z 32767 (by decide)
  have e0 : IntKind.i64.wrap (1 + x % 16) = 1 + x % 16 := by rw [IntKind.wrap_i64]; omega
  have e1 : IntKind.i64.wrap (1 + y % 8) = 1 + y % 8 := by rw [IntKind.wrap_i64]; omega
  have ST0 : True := trivial
  go_enter Tryd.func23, Tryd.ntmps23
  go_upto_region 2 with (first
    | ((with_reducible refine gate_dst (N := 1) rfl ?_); refine box_event ?hg (N := 1) ?hd (cs := #[.int .i64 x, .int .i64 y, .int .i64 z, .bool false, .bool true]) (t := 41) ?hr ?_; (case hd => rfl); (case hg => first | rfl | exact wanted_on rfl rfl rfl (by first | assumption | rfl | (simp [*]; done))); (case hr => first | (go_simp; done) | (go_simp; rfl)); intro g1 hg1 w1 hbox hb; subst hg1; have BX1 := Aside0.mk hbox; have HB1 := Aside0.mk hb; have p0 := blk_cell BX1.out 0; have p1 := blk_cell BX1.out 1; have p2 := blk_cell BX1.out 2; have p3 := blk_cell BX1.out 3; have p4 := blk_cell BX1.out 4; clear ST0 hbox hb; have ST1 : True := trivial)
    | ((with_reducible refine gate_dst (N := 2) rfl ?_); refine box_event ?hg (N := 2) ?hd (cs := #[.int .i64 0, .int .i64 0, .int .i64 0, .int .i64 0, .int .i64 0]) (t := 39) ?hr ?_; (case hd => rfl); (case hg => first | rfl | exact wanted_on rfl rfl rfl (by first | assumption | rfl | (simp [*]; done))); (case hr => first | (go_simp; done) | (go_simp; rfl)); intro g2 hg2 w2 hbox hb; have BX2 := Aside0.mk (blk_below BX1.out hb); have HB2 := Aside0.mk (below_step HB1.out hb); have BY2 := Aside0.mk hbox; have hgl2 : w.heap.size < g2 := (by rw [hg2]; exact blk_lt BX1.out); clear ST1 hbox hb hg2 BX1 HB1 p0 p1 p2 p3 p4; have p0 := blk_cell BX2.out 0; have p1 := blk_cell BX2.out 1; have p2 := blk_cell BX2.out 2; have p3 := blk_cell BX2.out 3; have p4 := blk_cell BX2.out 4; have ST2 : True := trivial)
    | ((with_reducible refine gate_dst (N := 3) rfl ?_); refine box_event ?hg (N := 3) ?hd (cs := #[.int .i64 0, .int .i64 0, .int .i64 0, .int .i64 0, .int .i64 0]) (t := 39) ?hr ?_; (case hd => rfl); (case hg => first | rfl | exact wanted_on rfl rfl rfl (by first | assumption | rfl | (simp [*]; done))); (case hr => first | (go_simp; done) | (go_simp; rfl)); intro g3 hg3 w3 hbox hb; have BX3 := Aside0.mk (blk_below BX2.out hb); have HB3 := Aside0.mk (below_step HB2.out hb); have BY3 := Aside0.mk (blk_below BY2.out hb); have BZ3 := Aside0.mk hbox; have hgl3 : g2 < g3 := (by rw [hg3]; exact blk_lt BY2.out); clear ST2 hbox hb hg3 BX2 HB2 BY2 p0 p1 p2 p3 p4; have p0 := blk_cell BX3.out 0; have p1 := blk_cell BX3.out 1; have p2 := blk_cell BX3.out 2; have p3 := blk_cell BX3.out 3; have p4 := blk_cell BX3.out 4; have y0 := blk_cell BY3.out 0; have y1 := blk_cell BY3.out 1; have y2 := blk_cell BY3.out 2; have y3 := blk_cell BY3.out 3; have y4 := blk_cell BY3.out 4; have z0 := blk_cell BZ3.out 0; have z1 := blk_cell BZ3.out 1; have z2 := blk_cell BZ3.out 2; have z3 := blk_cell BZ3.out 3; have z4 := blk_cell BZ3.out 4; have u0 := blk_frozen BY3.out 0; have u1 := blk_frozen BY3.out 1; have u2 := blk_frozen BY3.out 2; have u3 := blk_frozen BY3.out 3; have u4 := blk_frozen BY3.out 4; have v0 := blk_frozen BZ3.out 0; have v1 := blk_frozen BZ3.out 1; have v2 := blk_frozen BZ3.out 2; have v3 := blk_frozen BZ3.out 3; have v4 := blk_frozen BZ3.out 4; have ne1 : ¬ g3 = g2 := (by omega); have ne2 : ¬ g2 = g3 := (by omega); have ne3 : ¬ w.heap.size = g2 := (by omega); have ne4 : ¬ w.heap.size = g3 := (by omega); have ST3 : True := trivial))
  obtain ⟨w4, hw4⟩ : ∃ W, fill5 w3 g3 (.int .i64 16) (.int .i64 0) (.int .i64 4) (.int .i64 0) (.int .i64 (z % 32768)) = W := ⟨_, rfl⟩
  have hgs2 : w.heap.size ≤ g2 := by omega
  have hgs3 : w.heap.size ≤ g3 := by omega
  have BZ4 := Aside0.mk (hw4 ▸ fill5_at BZ3.out (.int .i64 16) (.int .i64 0) (.int .i64 4) (.int .i64 0) (.int .i64 (z % 32768)))
  have BY4 := Aside0.mk (hw4 ▸ fill5_far (g := g3) BY3.out ne2 (.int .i64 16) (.int .i64 0) (.int .i64 4) (.int .i64 0) (.int .i64 (z % 32768)))
  have BX4 := Aside0.mk (hw4 ▸ fill5_far (g := g3) BX3.out ne4 (.int .i64 16) (.int .i64 0) (.int .i64 4) (.int .i64 0) (.int .i64 (z % 32768)))
  have HB4 := Aside0.mk (hw4 ▸ fill5_below HB3.out hgs3 (.int .i64 16) (.int .i64 0) (.int .i64 4) (.int .i64 0) (.int .i64 (z % 32768)))
  unfold fill5 at hw4
  rw [hw4]
  clear hw4 BZ3 BY3 BX3 HB3 p0 p1 p2 p3 p4 y0 y1 y2 y3 y4 z0 z1 z2 z3 z4 u0 u1 u2 u3 u4 v0 v1 v2 v3 v4
  have p0 := blk_cell BX4.out 0
  have p1 := blk_cell BX4.out 1
  have p3 := blk_cell BX4.out 3
  have p4 := blk_cell BX4.out 4
  have y0 := blk_cell BY4.out 0
  have y1 := blk_cell BY4.out 1
  have y2 := blk_cell BY4.out 2
  have y3 := blk_cell BY4.out 3
  have y4 := blk_cell BY4.out 4
  have z0 := blk_cell BZ4.out 0
  have z1 := blk_cell BZ4.out 1
  have z2 := blk_cell BZ4.out 2
  have z3 := blk_cell BZ4.out 3
  have z4 := blk_cell BZ4.out 4
  have u0 := blk_frozen BY4.out 0
  have u1 := blk_frozen BY4.out 1
  have u2 := blk_frozen BY4.out 2
  have u3 := blk_frozen BY4.out 3
  have u4 := blk_frozen BY4.out 4
  have v0 := blk_frozen BZ4.out 0
  have v1 := blk_frozen BZ4.out 1
  have v2 := blk_frozen BZ4.out 2
  have v3 := blk_frozen BZ4.out 3
  go_wp2
  refine bodyPost_ret (results_cell_row rfl _ _ g2 39 #[.int .i64 16, .int .i64 (1 + x % 16), .int .i64 8, .int .i64 (1 + y % 8), .int .i64 (z % 32768)] (0, 0) _ rfl (fill5_at (g := g2) (blk_far (blk_far (blk_far BY4.out ne2 (.int .i64 8)) ne2 (.int .i64 (1 + x % 16))) ne2 (.int .i64 (1 + y % 8))) _ _ _ _ _) hu39 rfl (by kernel_rfl)) rfl ?_
  exact ⟨rfl, fill5_below (below_set (below_set (below_set HB4.out hgs3) hgs3) hgs3) hgs2 _ _ _ _ _⟩
set_option maxHeartbeats 16000000 in
set_option maxRecDepth 100000 in
theorem spec_tf (x y z : Int) (w : World) :
    Calls Tryd.prog 23 #[.agg #[.int .i64 x, .int .i64 y, .int .i64 z, .bool true, .bool false]] w fun e w' => e = .returned (.agg #[.int .i64 32, .int .i64 (1 + x % 32), .int .i64 4, .int .i64 (1 + y % 4), .int .i64 (z % 32768)]) ∧ Below w.heap.size w w' := by
  have hu41 := Tryd.underlying41
  have hu39 := Tryd.underlying39
  have HB := Aside0.mk (Below.refl w.heap.size w)
  have m0 : Go.bits .and .i64 x 31 = x % 32 := i64_mask 5 (by decide) x 31 (by decide)
  have m1 : Go.bits .and .i64 y 3 = y % 4 := i64_mask 2 (by decide) y 3 (by decide)
  have m2 : Go.bits .and .i64 z 32767 = z % 32768 := i64_mask 15 (by decide) z 32767 (by decide)
  have e0 : IntKind.i64.wrap (1 + x % 32) = 1 + x % 32 := by rw [IntKind.wrap_i64]; omega
  have e1 : IntKind.i64.wrap (1 + y % 4) = 1 + y % 4 := by rw [IntKind.wrap_i64]; omega
  have ST0 : True := trivial
  go_enter Tryd.func23, Tryd.ntmps23
  go_upto_region 2 with (first
    | ((with_reducible refine gate_dst (N := 1) rfl ?_); refine box_event ?hg (N := 1) ?hd (cs := #[.int .i64 x, .int .i64 y, .int .i64 z, .bool true, .bool false]) (t := 41) ?hr ?_; (case hd => rfl); (case hg => first | rfl | exact wanted_on rfl rfl rfl (by first | assumption | rfl | (simp [*]; done))); (case hr => first | (go_simp; done) | (go_simp; rfl)); intro g1 hg1 w1 hbox hb; subst hg1; have BX1 := Aside0.mk hbox; have HB1 := Aside0.mk hb; have p0 := blk_cell BX1.out 0; have p1 := blk_cell BX1.out 1; have p2 := blk_cell BX1.out 2; have p3 := blk_cell BX1.out 3; have p4 := blk_cell BX1.out 4; clear ST0 hbox hb; have ST1 : True := trivial)
    | ((with_reducible refine gate_dst (N := 2) rfl ?_); refine box_event ?hg (N := 2) ?hd (cs := #[.int .i64 0, .int .i64 0, .int .i64 0, .int .i64 0, .int .i64 0]) (t := 39) ?hr ?_; (case hd => rfl); (case hg => first | rfl | exact wanted_on rfl rfl rfl (by first | assumption | rfl | (simp [*]; done))); (case hr => first | (go_simp; done) | (go_simp; rfl)); intro g2 hg2 w2 hbox hb; have BX2 := Aside0.mk (blk_below BX1.out hb); have HB2 := Aside0.mk (below_step HB1.out hb); have BY2 := Aside0.mk hbox; have hgl2 : w.heap.size < g2 := (by rw [hg2]; exact blk_lt BX1.out); clear ST1 hbox hb hg2 BX1 HB1 p0 p1 p2 p3 p4; have p0 := blk_cell BX2.out 0; have p1 := blk_cell BX2.out 1; have p2 := blk_cell BX2.out 2; have p3 := blk_cell BX2.out 3; have p4 := blk_cell BX2.out 4; have ST2 : True := trivial)
    | ((with_reducible refine gate_dst (N := 3) rfl ?_); refine box_event ?hg (N := 3) ?hd (cs := #[.int .i64 0, .int .i64 0, .int .i64 0, .int .i64 0, .int .i64 0]) (t := 39) ?hr ?_; (case hd => rfl); (case hg => first | rfl | exact wanted_on rfl rfl rfl (by first | assumption | rfl | (simp [*]; done))); (case hr => first | (go_simp; done) | (go_simp; rfl)); intro g3 hg3 w3 hbox hb; have BX3 := Aside0.mk (blk_below BX2.out hb); have HB3 := Aside0.mk (below_step HB2.out hb); have BY3 := Aside0.mk (blk_below BY2.out hb); have BZ3 := Aside0.mk hbox; have hgl3 : g2 < g3 := (by rw [hg3]; exact blk_lt BY2.out); clear ST2 hbox hb hg3 BX2 HB2 BY2 p0 p1 p2 p3 p4; have p0 := blk_cell BX3.out 0; have p1 := blk_cell BX3.out 1; have p2 := blk_cell BX3.out 2; have p3 := blk_cell BX3.out 3; have p4 := blk_cell BX3.out 4; have y0 := blk_cell BY3.out 0; have y1 := blk_cell BY3.out 1; have y2 := blk_cell BY3.out 2; have y3 := blk_cell BY3.out 3; have y4 := blk_cell BY3.out 4; have z0 := blk_cell BZ3.out 0; have z1 := blk_cell BZ3.out 1; have z2 := blk_cell BZ3.out 2; have z3 := blk_cell BZ3.out 3; have z4 := blk_cell BZ3.out 4; have u0 := blk_frozen BY3.out 0; have u1 := blk_frozen BY3.out 1; have u2 := blk_frozen BY3.out 2; have u3 := blk_frozen BY3.out 3; have u4 := blk_frozen BY3.out 4; have v0 := blk_frozen BZ3.out 0; have v1 := blk_frozen BZ3.out 1; have v2 := blk_frozen BZ3.out 2; have v3 := blk_frozen BZ3.out 3; have v4 := blk_frozen BZ3.out 4; have ne1 : ¬ g3 = g2 := (by omega); have ne2 : ¬ g2 = g3 := (by omega); have ne3 : ¬ w.heap.size = g2 := (by omega); have ne4 : ¬ w.heap.size = g3 := (by omega); have ST3 : True := trivial))
  obtain ⟨w4, hw4⟩ : ∃ W, fill5 w3 g3 (.int .i64 16) (.int .i64 0) (.int .i64 4) (.int .i64 0) (.int .i64 (z % 32768)) = W := ⟨_, rfl⟩
  have hgs2 : w.heap.size ≤ g2 := by omega
  have hgs3 : w.heap.size ≤ g3 := by omega
  have BZ4 := Aside0.mk (hw4 ▸ fill5_at BZ3.out (.int .i64 16) (.int .i64 0) (.int .i64 4) (.int .i64 0) (.int .i64 (z % 32768)))
  have BY4 := Aside0.mk (hw4 ▸ fill5_far (g := g3) BY3.out ne2 (.int .i64 16) (.int .i64 0) (.int .i64 4) (.int .i64 0) (.int .i64 (z % 32768)))
  have BX4 := Aside0.mk (hw4 ▸ fill5_far (g := g3) BX3.out ne4 (.int .i64 16) (.int .i64 0) (.int .i64 4) (.int .i64 0) (.int .i64 (z % 32768)))
  have HB4 := Aside0.mk (hw4 ▸ fill5_below HB3.out hgs3 (.int .i64 16) (.int .i64 0) (.int .i64 4) (.int .i64 0) (.int .i64 (z % 32768)))
  unfold fill5 at hw4
  rw [hw4]
  clear hw4 BZ3 BY3 BX3 HB3 p0 p1 p2 p3 p4 y0 y1 y2 y3 y4 z0 z1 z2 z3 z4 u0 u1 u2 u3 u4 v0 v1 v2 v3 v4
  have p0 := blk_cell BX4.out 0
  have p1 := blk_cell BX4.out 1
  have p3 := blk_cell BX4.out 3
  have p4 := blk_cell BX4.out 4
  have y0 := blk_cell BY4.out 0
  have y1 := blk_cell BY4.out 1
  have y2 := blk_cell BY4.out 2
  have y3 := blk_cell BY4.out 3
  have y4 := blk_cell BY4.out 4
  have z0 := blk_cell BZ4.out 0
  have z1 := blk_cell BZ4.out 1
  have z2 := blk_cell BZ4.out 2
  have z3 := blk_cell BZ4.out 3
  have z4 := blk_cell BZ4.out 4
  have u0 := blk_frozen BY4.out 0
  have u1 := blk_frozen BY4.out 1
  have u2 := blk_frozen BY4.out 2
  have u3 := blk_frozen BY4.out 3
  have u4 := blk_frozen BY4.out 4
  have v0 := blk_frozen BZ4.out 0
  have v1 := blk_frozen BZ4.out 1
  have v2 := blk_frozen BZ4.out 2
  have v3 := blk_frozen BZ4.out 3
  go_wp2
  refine bodyPost_ret (results_cell_row rfl _ _ g2 39 #[.int .i64 32, .int .i64 (1 + x % 32), .int .i64 4, .int .i64 (1 + y % 4), .int .i64 (z % 32768)] (0, 0) _ rfl (fill5_at (g := g2) (blk_far (blk_far (blk_far BY4.out ne2 (.int .i64 32)) ne2 (.int .i64 (1 + x % 32))) ne2 (.int .i64 (1 + y % 4))) _ _ _ _ _) hu39 rfl (by kernel_rfl)) rfl ?_
  exact ⟨rfl, fill5_below (below_set (below_set (below_set HB4.out hgs3) hgs3) hgs3) hgs2 _ _ _ _ _⟩
set_option maxHeartbeats 16000000 in
set_option maxRecDepth 100000 in
theorem spec_tt (x y z : Int) (w : World) :
    Calls Tryd.prog 23 #[.agg #[.int .i64 x, .int .i64 y, .int .i64 z, .bool true, .bool true]] w fun e w' => e = .returned (.agg #[.int .i64 32, .int .i64 (1 + x % 32), .int .i64 8, .int .i64 (1 + y % 8), .int .i64 (z % 32768)]) ∧ Below w.heap.size w w' := by
  have hu41 := Tryd.underlying41
  have hu39 := Tryd.underlying39
  have HB := Aside0.mk (Below.refl w.heap.size w)
  have m0 : Go.bits .and .i64 x 31 = x % 32 := i64_mask 5 (by decide) x 31 (by decide)
  have m1 : Go.bits .and .i64 y 7 = y % 8 := i64_mask 3 (by decide) y 7 (by decide)
  have m2 : Go.bits .and .i64 z 32767 = z % 32768 := i64_mask 15 (by decide) z 32767 (by decide)
  have e0 : IntKind.i64.wrap (1 + x % 32) = 1 + x % 32 := by rw [IntKind.wrap_i64]; omega
  have e1 : IntKind.i64.wrap (1 + y % 8) = 1 + y % 8 := by rw [IntKind.wrap_i64]; omega
  have ST0 : True := trivial
  go_enter Tryd.func23, Tryd.ntmps23
  go_upto_region 2 with (first
    | ((with_reducible refine gate_dst (N := 1) rfl ?_); refine box_event ?hg (N := 1) ?hd (cs := #[.int .i64 x, .int .i64 y, .int .i64 z, .bool true, .bool true]) (t := 41) ?hr ?_; (case hd => rfl); (case hg => first | rfl | exact wanted_on rfl rfl rfl (by first | assumption | rfl | (simp [*]; done))); (case hr => first | (go_simp; done) | (go_simp; rfl)); intro g1 hg1 w1 hbox hb; subst hg1; have BX1 := Aside0.mk hbox; have HB1 := Aside0.mk hb; have p0 := blk_cell BX1.out 0; have p1 := blk_cell BX1.out 1; have p2 := blk_cell BX1.out 2; have p3 := blk_cell BX1.out 3; have p4 := blk_cell BX1.out 4; clear ST0 hbox hb; have ST1 : True := trivial)
    | ((with_reducible refine gate_dst (N := 2) rfl ?_); refine box_event ?hg (N := 2) ?hd (cs := #[.int .i64 0, .int .i64 0, .int .i64 0, .int .i64 0, .int .i64 0]) (t := 39) ?hr ?_; (case hd => rfl); (case hg => first | rfl | exact wanted_on rfl rfl rfl (by first | assumption | rfl | (simp [*]; done))); (case hr => first | (go_simp; done) | (go_simp; rfl)); intro g2 hg2 w2 hbox hb; have BX2 := Aside0.mk (blk_below BX1.out hb); have HB2 := Aside0.mk (below_step HB1.out hb); have BY2 := Aside0.mk hbox; have hgl2 : w.heap.size < g2 := (by rw [hg2]; exact blk_lt BX1.out); clear ST1 hbox hb hg2 BX1 HB1 p0 p1 p2 p3 p4; have p0 := blk_cell BX2.out 0; have p1 := blk_cell BX2.out 1; have p2 := blk_cell BX2.out 2; have p3 := blk_cell BX2.out 3; have p4 := blk_cell BX2.out 4; have ST2 : True := trivial)
    | ((with_reducible refine gate_dst (N := 3) rfl ?_); refine box_event ?hg (N := 3) ?hd (cs := #[.int .i64 0, .int .i64 0, .int .i64 0, .int .i64 0, .int .i64 0]) (t := 39) ?hr ?_; (case hd => rfl); (case hg => first | rfl | exact wanted_on rfl rfl rfl (by first | assumption | rfl | (simp [*]; done))); (case hr => first | (go_simp; done) | (go_simp; rfl)); intro g3 hg3 w3 hbox hb; have BX3 := Aside0.mk (blk_below BX2.out hb); have HB3 := Aside0.mk (below_step HB2.out hb); have BY3 := Aside0.mk (blk_below BY2.out hb); have BZ3 := Aside0.mk hbox; have hgl3 : g2 < g3 := (by rw [hg3]; exact blk_lt BY2.out); clear ST2 hbox hb hg3 BX2 HB2 BY2 p0 p1 p2 p3 p4; have p0 := blk_cell BX3.out 0; have p1 := blk_cell BX3.out 1; have p2 := blk_cell BX3.out 2; have p3 := blk_cell BX3.out 3; have p4 := blk_cell BX3.out 4; have y0 := blk_cell BY3.out 0; have y1 := blk_cell BY3.out 1; have y2 := blk_cell BY3.out 2; have y3 := blk_cell BY3.out 3; have y4 := blk_cell BY3.out 4; have z0 := blk_cell BZ3.out 0; have z1 := blk_cell BZ3.out 1; have z2 := blk_cell BZ3.out 2; have z3 := blk_cell BZ3.out 3; have z4 := blk_cell BZ3.out 4; have u0 := blk_frozen BY3.out 0; have u1 := blk_frozen BY3.out 1; have u2 := blk_frozen BY3.out 2; have u3 := blk_frozen BY3.out 3; have u4 := blk_frozen BY3.out 4; have v0 := blk_frozen BZ3.out 0; have v1 := blk_frozen BZ3.out 1; have v2 := blk_frozen BZ3.out 2; have v3 := blk_frozen BZ3.out 3; have v4 := blk_frozen BZ3.out 4; have ne1 : ¬ g3 = g2 := (by omega); have ne2 : ¬ g2 = g3 := (by omega); have ne3 : ¬ w.heap.size = g2 := (by omega); have ne4 : ¬ w.heap.size = g3 := (by omega); have ST3 : True := trivial))
  obtain ⟨w4, hw4⟩ : ∃ W, fill5 w3 g3 (.int .i64 16) (.int .i64 0) (.int .i64 4) (.int .i64 0) (.int .i64 (z % 32768)) = W := ⟨_, rfl⟩
  have hgs2 : w.heap.size ≤ g2 := by omega
  have hgs3 : w.heap.size ≤ g3 := by omega
  have BZ4 := Aside0.mk (hw4 ▸ fill5_at BZ3.out (.int .i64 16) (.int .i64 0) (.int .i64 4) (.int .i64 0) (.int .i64 (z % 32768)))
  have BY4 := Aside0.mk (hw4 ▸ fill5_far (g := g3) BY3.out ne2 (.int .i64 16) (.int .i64 0) (.int .i64 4) (.int .i64 0) (.int .i64 (z % 32768)))
  have BX4 := Aside0.mk (hw4 ▸ fill5_far (g := g3) BX3.out ne4 (.int .i64 16) (.int .i64 0) (.int .i64 4) (.int .i64 0) (.int .i64 (z % 32768)))
  have HB4 := Aside0.mk (hw4 ▸ fill5_below HB3.out hgs3 (.int .i64 16) (.int .i64 0) (.int .i64 4) (.int .i64 0) (.int .i64 (z % 32768)))
  unfold fill5 at hw4
  rw [hw4]
  clear hw4 BZ3 BY3 BX3 HB3 p0 p1 p2 p3 p4 y0 y1 y2 y3 y4 z0 z1 z2 z3 z4 u0 u1 u2 u3 u4 v0 v1 v2 v3 v4
  have p0 := blk_cell BX4.out 0
  have p1 := blk_cell BX4.out 1
  have p3 := blk_cell BX4.out 3
  have p4 := blk_cell BX4.out 4
  have y0 := blk_cell BY4.out 0
  have y1 := blk_cell BY4.out 1
  have y2 := blk_cell BY4.out 2
  have y3 := blk_cell BY4.out 3
  have y4 := blk_cell BY4.out 4
  have z0 := blk_cell BZ4.out 0
  have z1 := blk_cell BZ4.out 1
  have z2 := blk_cell BZ4.out 2
  have z3 := blk_cell BZ4.out 3
  have z4 := blk_cell BZ4.out 4
  have u0 := blk_frozen BY4.out 0
  have u1 := blk_frozen BY4.out 1
  have u2 := blk_frozen BY4.out 2
  have u3 := blk_frozen BY4.out 3
  have u4 := blk_frozen BY4.out 4
  have v0 := blk_frozen BZ4.out 0
  have v1 := blk_frozen BZ4.out 1
  have v2 := blk_frozen BZ4.out 2
  have v3 := blk_frozen BZ4.out 3
  go_wp2
  refine bodyPost_ret (results_cell_row rfl _ _ g2 39 #[.int .i64 32, .int .i64 (1 + x % 32), .int .i64 8, .int .i64 (1 + y % 8), .int .i64 (z % 32768)] (0, 0) _ rfl (fill5_at (g := g2) (blk_far (blk_far (blk_far (blk_far BY4.out ne2 (.int .i64 32)) ne2 (.int .i64 8)) ne2 (.int .i64 (1 + x % 32))) ne2 (.int .i64 (1 + y % 8))) _ _ _ _ _) hu39 rfl (by kernel_rfl)) rfl ?_
  exact ⟨rfl, fill5_below (below_set (below_set (below_set (below_set HB4.out hgs3) hgs3) hgs3) hgs3) hgs2 _ _ _ _ _⟩
def specF (x y z : Int) (a b : Bool) : Int × Int × Int × Int × Int := (specS a, 1 + x % specS a, specB b, 1 + y % specB b, z % 32768)
theorem spec_go (x y z : Int) (a b : Bool) (w : World) :
    Calls Tryd.prog 23 #[.agg #[.int .i64 x, .int .i64 y, .int .i64 z, .bool a, .bool b]] w fun e w' => e = .returned (.agg #[.int .i64 (specS a), .int .i64 (1 + x % specS a), .int .i64 (specB b), .int .i64 (1 + y % specB b), .int .i64 (z % 32768)]) ∧ Below w.heap.size w w' := by
  cases a
  · cases b
    · exact spec_ff x y z w
    · exact spec_ft x y z w
  · cases b
    · exact spec_tf x y z w
    · exact spec_tt x y z w
def earshotlaw13_Spec_front.f (a0_0 a0_1 a0_2 : Int) (a0_3 a0_4 : Bool) : Option (Int × Int × Int × Int × Int) := some (specF a0_0 a0_1 a0_2 a0_3 a0_4)
theorem earshotlaw13_Spec_front.calls (a0_0 a0_1 a0_2 : Int) (a0_3 a0_4 : Bool) (r1 r2 r3 r4 r5 : Int) (w : World) (h : earshotlaw13_Spec_front.f a0_0 a0_1 a0_2 a0_3 a0_4 = some (r1, r2, r3, r4, r5)) :
    Calls Tryd.prog 23 #[.agg #[.int .i64 a0_0, .int .i64 a0_1, .int .i64 a0_2, .bool a0_3, .bool a0_4]] w fun e w' => e = .returned (.agg #[.int .i64 r1, .int .i64 r2, .int .i64 r3, .int .i64 r4, .int .i64 r5]) ∧ Below w.heap.size w w' := by
  have h1 := Option.some.inj h
  simp only [specF, Prod.mk.injEq] at h1
  obtain ⟨rfl, rfl, rfl, rfl, rfl⟩ := h1
  exact spec_go _ _ _ _ _ w
theorem spec_right (x y z : Int) (a b : Bool) : rightB (specS a) (1 + x % specS a) (specB b) (1 + y % specB b) (z % 32768) = true := by
  have e1 : sizeB (specS a) = true := by cases a <;> decide
  have e2 : mayB (specB b).toNat = true := by cases b <;> decide
  have p1 : 1 ≤ specS a := by cases a <;> decide
  have p2 : 1 ≤ specB b := by cases b <;> decide
  have h1 := Int.emod_nonneg x (show specS a ≠ 0 by omega)
  have h2 := Int.emod_lt_of_pos x (show 0 < specS a by omega)
  have h3 := Int.emod_nonneg y (show specB b ≠ 0 by omega)
  have h4 := Int.emod_lt_of_pos y (show 0 < specB b by omega)
  have h5 := Int.emod_nonneg z (show (32768 : Int) ≠ 0 by decide)
  have h6 := Int.emod_lt_of_pos z (show (0 : Int) < 32768 by decide)
  simp only [rightB, Bool.and_eq_true, decide_eq_true_eq]
  exact ⟨⟨⟨⟨⟨⟨⟨e1, by omega⟩, by omega⟩, e2⟩, by omega⟩, by omega⟩, by omega⟩, by omega⟩

/-! ### earshotlaw13_sound: function 28 -/
def earshotlaw13_sound.l0 : Nat → List Int → List Int → Int → Option (List Int)
  | 0, _, _, _ => none
  | k + 1, x0, x3, x4 => if x4 < (x0.length : Int) then (if x4 < 90 then (if 0 ≤ x4 then (if x3.length < 17592186044416 then (earshotlaw13_sound.l0 k x0 (x3 ++ [wrap64 (IntKind.i16.wrap (rd x0 x4))]) (wrap64 (x4 + 1))) else (none)) else (none)) else (some x3)) else (some x3)
def earshotlaw13_sound.f (k : Nat) (l0 : List Int) : Option (List Int) := earshotlaw13_sound.l0 k l0 ([] : List Int) 0
theorem earshotlaw13_sound.mono_l : ∀ k, (∀ y0 y1 y2, LeO (earshotlaw13_sound.l0 k y0 y1 y2) (earshotlaw13_sound.l0 (k + 1) y0 y1 y2))
  | 0 => fun _ _ _ r h => by simp [earshotlaw13_sound.l0] at h
  | k + 1 => by
    have ih0 := earshotlaw13_sound.mono_l k
    · intro y0 y1 y2
      unfold earshotlaw13_sound.l0
      repeat' first
      | (with_reducible exact ih0 _ _ _)
      | (with_reducible exact LeO.refl _)
      | (with_reducible exact LeO.none _)
      | (with_reducible refine LeO.ite ?_ ?_)
      | (with_reducible refine LeO.bind ?_ (fun _ => ?_))
      | exact ih0 _ _ _
      | exact LeO.none _
      | refine LeO.ite ?_ ?_
      | refine LeO.bind ?_ (fun _ => ?_)
theorem earshotlaw13_sound.mono : ∀ a0 k, LeO (earshotlaw13_sound.f k a0) (earshotlaw13_sound.f (k + 1) a0) := by
  intro a0 k
  have ih0 := earshotlaw13_sound.mono_l k
  unfold earshotlaw13_sound.f
  repeat' first
      | (with_reducible exact ih0 _ _ _)
      | (with_reducible exact LeO.refl _)
      | (with_reducible exact LeO.none _)
      | (with_reducible refine LeO.ite ?_ ?_)
      | (with_reducible refine LeO.bind ?_ (fun _ => ?_))
      | exact ih0 _ _ _
      | exact LeO.none _
      | refine LeO.ite ?_ ?_
      | refine LeO.bind ?_ (fun _ => ?_)
set_option maxHeartbeats 8000000 in
set_option maxRecDepth 100000 in
theorem earshotlaw13_sound.calls (k : Nat) (A0 : Option Addr) (c0 : Nat) (l0 : List Int) (r : List Int) (w : World) (hr0 : Kd.C (Kd.int .i64) w A0 l0.length l0) (hc0 : l0.length ≤ c0) (h : earshotlaw13_sound.f k l0 = some r) :
    Calls Tryd.prog 28 #[.slice A0 l0.length c0] w fun e w' => ∃ v0_ : Value, e = .returned (v0_) ∧ Kd.R (Kd.int .i64) 3 w' w.heap.size (fun _ => True) v0_ r ∧ Below w.heap.size w w' := by
  have HR0 := Aside0.mk hr0
  have HC0 := Aside0.mk hc0
  clear hr0 hc0
  have HB := Aside0.mk (Below.refl w.heap.size w)
  have H : (earshotlaw13_sound.l0 k l0 ([] : List Int) 0) = some r := h
  clear h
  have H' := Aside0.mk H
  clear H
  go_enter Tryd.func28, Tryd.ntmps28
  go_wp2
  go_loopg [3, 4] k (fun kq v3 v4 w' => ∃ (x3_1 : List Int) (x4_1 : Int), v4 = .int .i64 x4_1 ∧ Aside0 (earshotlaw13_sound.l0 kq l0 x3_1 x4_1 = some r) ∧ Aside0 (kq ≤ k) ∧ Aside0 (Kd.R (Kd.int .i64) 3 w' w.heap.size (fun _ => True) v3 x3_1) ∧ Aside0 (Below w.heap.size w w'))
  case atStart => exact ⟨(([] : List Int)), (0), (by first | rfl | (simp; done) | (simp [*]; done)), H', ⟨Nat.le_refl _⟩, ⟨by first | exact Kd.R_nil _ _ _ _ _ | exact Kd.N_nil _ _ _ _ _ | exact Kd.V_nil _ _ _ _ _ | exact Kd.Q_nil _ _ _ _ _ | exact Kd.S_nil _ _ _ _ _⟩, ⟨by repeat (first | (with_reducible first | exact HB.out | apply below_alloc | apply pw_below_drewN | apply below_drew1) | exact HB.out)⟩⟩
  case round =>
    clear H'
    obtain ⟨x3_1, x4_1, rfl, HA, HK1, HO_3, HB⟩ := hrel
    cases gk with
    | zero => exact absurd HA.out (by simp [earshotlaw13_sound.l0])
    | succ k1 =>
      have H := HA.out
      clear HA
      simp only [earshotlaw13_sound.l0] at H
      by_cases c2 : x4_1 < (l0.length : Int)
      · rw [if_pos c2] at H
        have c2b0 : decide (x4_1 < (l0.length : Int)) = true := decide_eq_true c2
        clear c2
        by_cases c3 : x4_1 < 90
        · rw [if_pos c3] at H
          have c3b0 : decide (x4_1 < 90) = true := decide_eq_true c3
          clear c3
          by_cases c4 : 0 ≤ x4_1
          · rw [if_pos c4] at H
            have c4b0 : decide (0 ≤ x4_1) = true := decide_eq_true c4
            clear c4
            by_cases c5 : x3_1.length < 17592186044416
            · rw [if_pos c5] at H
              have LMc5 := Aside0.mk c5
              clear c5
              obtain ⟨y121, hy121⟩ : ∃ y_ : List Int, y_ = (x3_1 ++ [wrap64 (IntKind.i16.wrap (rd l0 x4_1))]) := ⟨_, rfl⟩
              replace H : (earshotlaw13_sound.l0 k1 l0 y121 (wrap64 (x4_1 + 1))) = some r := by first | (rw [hy121]; with_reducible exact H) | (have H2_ := (Option.bind_some _ _).symm.trans H; rw [hy121]; with_reducible exact H2_) | (have H2_ := (Option.bind_some _ _).symm.trans H; with_reducible exact H2_) | with_reducible exact H | (rw [hy121]; exact H) | exact H
              have Ny121 := Aside0.mk hy121
              clear hy121
              have H' := Aside0.mk H
              clear H
              have p120 : 0 ≤ (x4_1 : Int) := of_decide_eq_true (by first | (with_reducible assumption) | assumption)
              have q120 : x4_1 < (l0.length : Int) := of_decide_eq_true (by first | (with_reducible assumption) | assumption)
              obtain ⟨ad120, e120, hx120_0⟩ := Kd.at_int HR0.out x4_1 p120 q120
              cases e120
              replace hx120_0 := (HB.out.cell (World.block_lt_of_cell? w _ hx120_0)).trans hx120_0
              replace p120 := eq_true p120
              replace q120 := eq_true q120
              go_wp2_with (first | ((with_reducible refine gate_builtin (b := .append) (xs := #[.tmp 15, .tmp 22]) rfl ?_); at_builtin; refine Kd.R_append (Kd.int .i64) (w0 := w) w.heap.size rfl (.tmp 15) (.tmp 22) 22 3 (.int .i64 0) 8 rfl Tryd.underlying22 info3 rfl (by decide) (by omega) u3 x3_1 (wrap64 (IntKind.i16.wrap (rd l0 x4_1))) [.int .i64 (wrap64 (IntKind.i16.wrap (rd l0 x4_1)))] (fun _ => True) (fun _ => False) rfl rfl ?aP (fun _ hk => hk.elim) ?aF ?aO ?aB ?aS ?aL ?_; (case aP => exact rfl); (case aB => exact (by repeat (first | (with_reducible first | exact HB.out | apply below_alloc | apply pw_below_drewN | apply below_drew1) | exact HB.out))); (case aF => exact (fun _ _ => trivial)); (case aO => exact (by (with_reducible repeat (first | apply Kd.R_alloc | apply Kd.R_drewN | apply Kd.R_drew)); (first | exact HO_3.out | exact Kd.R_mono HO_3.out (fun _ _ => trivial) | exact Kd.R_mono HO_3.out (fun _ hk => hk.1)))); (case aS => exact (below_size (by repeat (first | (with_reducible first | exact HB.out | apply below_alloc | apply pw_below_drewN | apply below_drew1) | exact HB.out)))); (case aL => have := LMc5.out; omega); intro v122 w6 ho hb hg hat; rw [← Ny121.out] at ho; have n0_ := Aside0.mk (hb); have n1_ := Aside0.mk (ho); clear HB; clear HO_3; have HB := n0_; have HO123 := n1_; clear n0_ n1_; clear ho hb hg hat))
              go_roundg k1
              case measure => have := HK1.out; omega
              case rel => exact ⟨(y121), (wrap64 (x4_1 + 1)), (by first | rfl | (simp; done) | (simp [*]; done)), H', ⟨by have := HK1.out; omega⟩, ⟨by (with_reducible repeat (first | apply Kd.R_alloc | apply Kd.R_drewN | apply Kd.R_drew)); exact HO123.out⟩, ⟨by repeat (first | (with_reducible first | exact HB.out | apply below_alloc | apply pw_below_drewN | apply below_drew1) | exact HB.out)⟩⟩
            · rw [if_neg c5] at H
              exact absurd H (by simp)
          · rw [if_neg c4] at H
            exact absurd H (by simp)
        · rw [if_neg c3] at H
          have c3b0 : decide (x4_1 < 90) = false := decide_eq_false c3
          clear c3
          obtain rfl := Option.some.inj H
          go_wp2
          go_ret
          exact ⟨_, by first | rfl | (simp [errW_none, errW_some] <;> rfl) | (simp [*, errW_none, errW_some] <;> rfl), by (with_reducible repeat (first | apply Kd.R_alloc | apply Kd.R_drewN | apply Kd.R_drew)); exact HO_3.out, by repeat (first | (with_reducible first | exact HB.out | apply below_alloc | apply pw_below_drewN | apply below_drew1) | exact HB.out)⟩
      · rw [if_neg c2] at H
        have c2b0 : decide (x4_1 < (l0.length : Int)) = false := decide_eq_false c2
        clear c2
        obtain rfl := Option.some.inj H
        go_wp2
        go_ret
        exact ⟨_, by first | rfl | (simp [errW_none, errW_some] <;> rfl) | (simp [*, errW_none, errW_some] <;> rfl), by (with_reducible repeat (first | apply Kd.R_alloc | apply Kd.R_drewN | apply Kd.R_drew)); exact HO_3.out, by repeat (first | (with_reducible first | exact HB.out | apply below_alloc | apply pw_below_drewN | apply below_drew1) | exact HB.out)⟩

/-! ### earshotref04_Same: function 16 -/
def earshotref04_Same.l0 : Nat → List Int → List Int → Int → Option (Bool)
  | 0, _, _, _ => none
  | k + 1, x0, x1, x5 => if x5 < (x0.length : Int) then (if 0 ≤ x5 then (if x5 < (x1.length : Int) then (if (rd x0 x5) = (rd x1 x5) then (earshotref04_Same.l0 k x0 x1 (wrap64 (x5 + 1))) else (some false)) else (none)) else (none)) else (some true)
def earshotref04_Same.f (k : Nat) (l0 : List Int) (l1 : List Int) : Option (Bool) := if (l0.length : Int) = (l1.length : Int) then (earshotref04_Same.l0 k l0 l1 0) else (some false)
theorem earshotref04_Same.mono_l : ∀ k, (∀ y0 y1 y2, LeO (earshotref04_Same.l0 k y0 y1 y2) (earshotref04_Same.l0 (k + 1) y0 y1 y2))
  | 0 => fun _ _ _ r h => by simp [earshotref04_Same.l0] at h
  | k + 1 => by
    have ih0 := earshotref04_Same.mono_l k
    · intro y0 y1 y2
      unfold earshotref04_Same.l0
      repeat' first
      | (with_reducible exact ih0 _ _ _)
      | (with_reducible exact LeO.refl _)
      | (with_reducible exact LeO.none _)
      | (with_reducible refine LeO.ite ?_ ?_)
      | (with_reducible refine LeO.bind ?_ (fun _ => ?_))
      | exact ih0 _ _ _
      | exact LeO.none _
      | refine LeO.ite ?_ ?_
      | refine LeO.bind ?_ (fun _ => ?_)
theorem earshotref04_Same.mono : ∀ a0 a1 k, LeO (earshotref04_Same.f k a0 a1) (earshotref04_Same.f (k + 1) a0 a1) := by
  intro a0 a1 k
  have ih0 := earshotref04_Same.mono_l k
  unfold earshotref04_Same.f
  repeat' first
      | (with_reducible exact ih0 _ _ _)
      | (with_reducible exact LeO.refl _)
      | (with_reducible exact LeO.none _)
      | (with_reducible refine LeO.ite ?_ ?_)
      | (with_reducible refine LeO.bind ?_ (fun _ => ?_))
      | exact ih0 _ _ _
      | exact LeO.none _
      | refine LeO.ite ?_ ?_
      | refine LeO.bind ?_ (fun _ => ?_)
set_option maxHeartbeats 8000000 in
set_option maxRecDepth 100000 in
theorem earshotref04_Same.calls (k : Nat) (A0 : Option Addr) (c0 : Nat) (l0 : List Int) (A1 : Option Addr) (c1 : Nat) (l1 : List Int) (r : Bool) (w : World) (hr0 : Kd.C (Kd.int .i64) w A0 l0.length l0) (hc0 : l0.length ≤ c0) (hr1 : Kd.C (Kd.int .i64) w A1 l1.length l1) (hc1 : l1.length ≤ c1) (h : earshotref04_Same.f k l0 l1 = some r) :
    Calls Tryd.prog 16 #[.slice A0 l0.length c0, .slice A1 l1.length c1] w fun e w' => e = .returned (.bool r) ∧ Drawn0 w w' := by
  have HR0 := Aside0.mk hr0
  have HC0 := Aside0.mk hc0
  clear hr0 hc0
  have HR1 := Aside0.mk hr1
  have HC1 := Aside0.mk hc1
  clear hr1 hc1
  have H : (if (l0.length : Int) = (l1.length : Int) then (earshotref04_Same.l0 k l0 l1 0) else (some false)) = some r := h
  clear h
  by_cases c3 : (l0.length : Int) = (l1.length : Int)
  · rw [if_pos c3] at H
    have c3b0 : ((l0.length : Int) == (l1.length : Int)) = true := beq_iff_eq.mpr c3
    have c3b1 : ((l0.length : Int) != (l1.length : Int)) = false := bne_eq_false_iff_eq.mpr c3
    have c3b2 : (l0.length == l1.length) = true := by first | simpa using c3 | (simp at c3 ⊢; omega)
    clear c3
    have H' := Aside0.mk H
    clear H
    go_enter Tryd.func16, Tryd.ntmps16
    go_wp2
    repeat (go_quiet (fail); try go_wp2)
    go_loopg [5] k (fun kq v5 w' => ∃ (x5_1 : Int), v5 = .int .i64 x5_1 ∧ Aside0 (earshotref04_Same.l0 kq l0 l1 x5_1 = some r) ∧ Aside0 (kq ≤ k) ∧ Drawn0 w w')
    case atStart => exact ⟨(0), (by first | rfl | (simp; done) | (simp [*]; done)), H', ⟨Nat.le_refl _⟩, by repeat (first | exact Drawn0.refl _ | apply Drawn0.step)⟩
    case round =>
      clear H'
      try clear c1
      try clear p2
      try clear c3
      try clear c3b0
      try clear c3b1
      try clear c3b2
      obtain ⟨x5_1, rfl, HA, HK1, ⟨m1, rfl⟩⟩ := hrel
      cases gk with
      | zero => exact absurd HA.out (by simp [earshotref04_Same.l0])
      | succ k1 =>
        have H := HA.out
        clear HA
        simp only [earshotref04_Same.l0] at H
        by_cases c4 : x5_1 < (l0.length : Int)
        · rw [if_pos c4] at H
          have c4b0 : decide (x5_1 < (l0.length : Int)) = true := decide_eq_true c4
          clear c4
          by_cases c5 : 0 ≤ x5_1
          · rw [if_pos c5] at H
            have c5b0 : decide (0 ≤ x5_1) = true := decide_eq_true c5
            clear c5
            by_cases c6 : x5_1 < (l1.length : Int)
            · rw [if_pos c6] at H
              have c6b0 : decide (x5_1 < (l1.length : Int)) = true := decide_eq_true c6
              clear c6
              by_cases c7 : (rd l0 x5_1) = (rd l1 x5_1)
              · rw [if_pos c7] at H
                have c7b0 : ((rd l0 x5_1) == (rd l1 x5_1)) = true := beq_iff_eq.mpr c7
                have c7b1 : ((rd l0 x5_1) != (rd l1 x5_1)) = false := bne_eq_false_iff_eq.mpr c7
                clear c7
                have H' := Aside0.mk H
                clear H
                have p124 : 0 ≤ (x5_1 : Int) := of_decide_eq_true (by first | (with_reducible assumption) | assumption)
                have q124 : x5_1 < (l0.length : Int) := of_decide_eq_true (by first | (with_reducible assumption) | assumption)
                obtain ⟨ad124, e124, hx124_0⟩ := Kd.at_int HR0.out x5_1 p124 q124
                cases e124
                replace p124 := eq_true p124
                replace q124 := eq_true q124
                have p125 : 0 ≤ (x5_1 : Int) := of_decide_eq_true (by first | (with_reducible assumption) | assumption)
                have q125 : x5_1 < (l1.length : Int) := of_decide_eq_true (by first | (with_reducible assumption) | assumption)
                obtain ⟨ad125, e125, hx125_0⟩ := Kd.at_int HR1.out x5_1 p125 q125
                cases e125
                replace p125 := eq_true p125
                replace q125 := eq_true q125
                go_wp2
                repeat (go_quiet (fail); try go_wp2)
                go_roundg k1
                case measure => have := HK1.out; omega
                case rel => exact ⟨(wrap64 (x5_1 + 1)), (by first | rfl | (simp; done) | (simp [*]; done)), H', ⟨by have := HK1.out; omega⟩, by repeat (first | exact Drawn0.refl _ | apply Drawn0.step)⟩
              · rw [if_neg c7] at H
                have c7b0 : ((rd l0 x5_1) == (rd l1 x5_1)) = false := beq_eq_false_iff_ne.mpr c7
                have c7b1 : ((rd l0 x5_1) != (rd l1 x5_1)) = true := bne_iff_ne.mpr c7
                obtain rfl := Option.some.inj H
                have p124 : 0 ≤ (x5_1 : Int) := of_decide_eq_true (by first | (with_reducible assumption) | assumption)
                have q124 : x5_1 < (l0.length : Int) := of_decide_eq_true (by first | (with_reducible assumption) | assumption)
                obtain ⟨ad124, e124, hx124_0⟩ := Kd.at_int HR0.out x5_1 p124 q124
                cases e124
                replace p124 := eq_true p124
                replace q124 := eq_true q124
                have p125 : 0 ≤ (x5_1 : Int) := of_decide_eq_true (by first | (with_reducible assumption) | assumption)
                have q125 : x5_1 < (l1.length : Int) := of_decide_eq_true (by first | (with_reducible assumption) | assumption)
                obtain ⟨ad125, e125, hx125_0⟩ := Kd.at_int HR1.out x5_1 p125 q125
                cases e125
                replace p125 := eq_true p125
                replace q125 := eq_true q125
                go_wp2
                repeat (go_quiet (fail); try go_wp2)
                go_ret
                exact ⟨by first | rfl | (simp; done) | (simp [*]; done), by repeat (first | exact Drawn0.refl _ | apply Drawn0.step)⟩
            · rw [if_neg c6] at H
              exact absurd H (by simp)
          · rw [if_neg c5] at H
            exact absurd H (by simp)
        · rw [if_neg c4] at H
          have c4b0 : decide (x5_1 < (l0.length : Int)) = false := decide_eq_false c4
          clear c4
          obtain rfl := Option.some.inj H
          go_wp2
          repeat (go_quiet (fail); try go_wp2)
          go_ret
          exact ⟨by first | rfl | (simp; done) | (simp [*]; done), by repeat (first | exact Drawn0.refl _ | apply Drawn0.step)⟩
  · rw [if_neg c3] at H
    have c3b0 : ((l0.length : Int) == (l1.length : Int)) = false := beq_eq_false_iff_ne.mpr c3
    have c3b1 : ((l0.length : Int) != (l1.length : Int)) = true := bne_iff_ne.mpr c3
    have c3b2 : (l0.length == l1.length) = false := by first | simpa using c3 | (simp at c3 ⊢; omega)
    obtain rfl := Option.some.inj H
    go_enter Tryd.func16, Tryd.ntmps16
    go_wp2
    repeat (go_quiet (fail); try go_wp2)
    go_ret
    exact ⟨by first | rfl | (simp; done) | (simp [*]; done), by repeat (first | exact Drawn0.refl _ | apply Drawn0.step)⟩

/-! ### earshotlaw13_rows: function 34 -/
def earshotlaw13_rows.l0 : Nat → List (List Int) → List (List Int) → Int → Option (Bool)
  | 0, _, _, _ => none
  | k + 1, x0, x1, x5 => if x5 < (x0.length : Int) then (if 0 ≤ x5 then (if x5 < (x1.length : Int) then ((earshotref04_Same.f k (rd_L1 x0 x5) (rd_L1 x1 x5)).bind fun t128 => (if t128 = true then (earshotlaw13_rows.l0 k x0 x1 (wrap64 (x5 + 1))) else (some false))) else (none)) else (none)) else (some true)
def earshotlaw13_rows.f (k : Nat) (l0 : List (List Int)) (l1 : List (List Int)) : Option (Bool) := if (l0.length : Int) = (l1.length : Int) then (earshotlaw13_rows.l0 k l0 l1 0) else (some false)
theorem earshotlaw13_rows.mono_l : ∀ k, (∀ y0 y1 y2, LeO (earshotlaw13_rows.l0 k y0 y1 y2) (earshotlaw13_rows.l0 (k + 1) y0 y1 y2))
  | 0 => fun _ _ _ r h => by simp [earshotlaw13_rows.l0] at h
  | k + 1 => by
    have ih0 := earshotlaw13_rows.mono_l k
    · intro y0 y1 y2
      unfold earshotlaw13_rows.l0
      repeat' first
      | (with_reducible exact ih0 _ _ _)
      | (with_reducible exact earshotref04_Same.mono _ _ _)
      | (with_reducible exact LeO.refl _)
      | (with_reducible exact LeO.none _)
      | (with_reducible refine LeO.ite ?_ ?_)
      | (with_reducible refine LeO.bind ?_ (fun _ => ?_))
      | exact ih0 _ _ _
      | exact earshotref04_Same.mono _ _ _
      | exact LeO.none _
      | refine LeO.ite ?_ ?_
      | refine LeO.bind ?_ (fun _ => ?_)
theorem earshotlaw13_rows.mono : ∀ a0 a1 k, LeO (earshotlaw13_rows.f k a0 a1) (earshotlaw13_rows.f (k + 1) a0 a1) := by
  intro a0 a1 k
  have ih0 := earshotlaw13_rows.mono_l k
  unfold earshotlaw13_rows.f
  repeat' first
      | (with_reducible exact ih0 _ _ _)
      | (with_reducible exact earshotref04_Same.mono _ _ _)
      | (with_reducible exact LeO.refl _)
      | (with_reducible exact LeO.none _)
      | (with_reducible refine LeO.ite ?_ ?_)
      | (with_reducible refine LeO.bind ?_ (fun _ => ?_))
      | exact ih0 _ _ _
      | exact earshotref04_Same.mono _ _ _
      | exact LeO.none _
      | refine LeO.ite ?_ ?_
      | refine LeO.bind ?_ (fun _ => ?_)
set_option maxHeartbeats 8000000 in
set_option maxRecDepth 100000 in
theorem earshotlaw13_rows.calls (k : Nat) (A0 : Option Addr) (c0 : Nat) (l0 : List (List Int)) (A1 : Option Addr) (c1 : Nat) (l1 : List (List Int)) (r : Bool) (w : World) (hr0 : Kd.C (Kd.slice 3 (Kd.int .i64)) w A0 l0.length l0) (hc0 : l0.length ≤ c0) (hr1 : Kd.C (Kd.slice 3 (Kd.int .i64)) w A1 l1.length l1) (hc1 : l1.length ≤ c1) (h : earshotlaw13_rows.f k l0 l1 = some r) :
    Calls Tryd.prog 34 #[.slice A0 l0.length c0, .slice A1 l1.length c1] w fun e w' => e = .returned (.bool r) ∧ Drawn0 w w' := by
  have HR0 := Aside0.mk hr0
  have HC0 := Aside0.mk hc0
  clear hr0 hc0
  have HR1 := Aside0.mk hr1
  have HC1 := Aside0.mk hc1
  clear hr1 hc1
  have H : (if (l0.length : Int) = (l1.length : Int) then (earshotlaw13_rows.l0 k l0 l1 0) else (some false)) = some r := h
  clear h
  by_cases c3 : (l0.length : Int) = (l1.length : Int)
  · rw [if_pos c3] at H
    have c3b0 : ((l0.length : Int) == (l1.length : Int)) = true := beq_iff_eq.mpr c3
    have c3b1 : ((l0.length : Int) != (l1.length : Int)) = false := bne_eq_false_iff_eq.mpr c3
    have c3b2 : (l0.length == l1.length) = true := by first | simpa using c3 | (simp at c3 ⊢; omega)
    clear c3
    have H' := Aside0.mk H
    clear H
    go_enter Tryd.func34, Tryd.ntmps34
    go_wp2
    repeat (go_quiet (fail); try go_wp2)
    go_loopg [5] k (fun kq v5 w' => ∃ (x5_1 : Int), v5 = .int .i64 x5_1 ∧ Aside0 (earshotlaw13_rows.l0 kq l0 l1 x5_1 = some r) ∧ Aside0 (kq ≤ k) ∧ Drawn0 w w')
    case atStart => exact ⟨(0), (by first | rfl | (simp; done) | (simp [*]; done)), H', ⟨Nat.le_refl _⟩, by repeat (first | exact Drawn0.refl _ | apply Drawn0.step)⟩
    case round =>
      clear H'
      try clear c1
      try clear p2
      try clear c3
      try clear c3b0
      try clear c3b1
      try clear c3b2
      obtain ⟨x5_1, rfl, HA, HK1, ⟨m1, rfl⟩⟩ := hrel
      cases gk with
      | zero => exact absurd HA.out (by simp [earshotlaw13_rows.l0])
      | succ k1 =>
        have H := HA.out
        clear HA
        simp only [earshotlaw13_rows.l0] at H
        by_cases c4 : x5_1 < (l0.length : Int)
        · rw [if_pos c4] at H
          have c4b0 : decide (x5_1 < (l0.length : Int)) = true := decide_eq_true c4
          clear c4
          by_cases c5 : 0 ≤ x5_1
          · rw [if_pos c5] at H
            have c5b0 : decide (0 ≤ x5_1) = true := decide_eq_true c5
            clear c5
            by_cases c6 : x5_1 < (l1.length : Int)
            · rw [if_pos c6] at H
              have c6b0 : decide (x5_1 < (l1.length : Int)) = true := decide_eq_true c6
              clear c6
              replace H := Option.bind_eq_some_iff.mp H
              obtain ⟨t128, A70, H⟩ := H
              replace H : (if t128 = true then (earshotlaw13_rows.l0 k1 l0 l1 (wrap64 (x5_1 + 1))) else (some false)) = some r := H
              have A7 := Aside0.mk A70
              clear A70
              by_cases c8 : t128 = true
              · subst c8
                have H1 : (earshotlaw13_rows.l0 k1 l0 l1 (wrap64 (x5_1 + 1))) = some r := by rw [if_pos rfl] at H; exact H
                clear H
                have H := H1
                clear H1
                have H' := Aside0.mk H
                clear H
                have p126 : 0 ≤ (x5_1 : Int) := of_decide_eq_true (by first | (with_reducible assumption) | assumption)
                have q126 : x5_1 < (l0.length : Int) := of_decide_eq_true (by first | (with_reducible assumption) | assumption)
                obtain ⟨ad126, A126_0, c126_0, e126, hx126_0, hl126_0, hi126_0⟩ := at_L1 HR0.out x5_1 p126 q126
                cases e126
                have HR126_0 := Aside0.mk hi126_0
                have HC126_0 := Aside0.mk hl126_0
                clear hi126_0 hl126_0
                replace p126 := eq_true p126
                replace q126 := eq_true q126
                have p127 : 0 ≤ (x5_1 : Int) := of_decide_eq_true (by first | (with_reducible assumption) | assumption)
                have q127 : x5_1 < (l1.length : Int) := of_decide_eq_true (by first | (with_reducible assumption) | assumption)
                obtain ⟨ad127, A127_0, c127_0, e127, hx127_0, hl127_0, hi127_0⟩ := at_L1 HR1.out x5_1 p127 q127
                cases e127
                have HR127_0 := Aside0.mk hi127_0
                have HC127_0 := Aside0.mk hl127_0
                clear hi127_0 hl127_0
                replace p127 := eq_true p127
                replace q127 := eq_true q127
                go_wp2_with (first | (go_at_call 16; (with_reducible refine (earshotref04_Same.calls k1 _ _ (rd_L1 l0 x5_1) _ _ (rd_L1 l1 x5_1) true _ ?side1 ?side2 ?side3 ?side4 A7.out).mono ?_); (case side1 => repeat (first | exact HR126_0.out | (with_reducible refine Kd.C_alloc ?_ _) | (with_reducible refine Kd.C_drewN ?_ _) | (with_reducible refine Kd.C_drew ?_))); (case side2 => exact HC126_0.out); (case side3 => repeat (first | exact HR127_0.out | (with_reducible refine Kd.C_alloc ?_ _) | (with_reducible refine Kd.C_drewN ?_ _) | (with_reducible refine Kd.C_drew ?_))); (case side4 => exact HC127_0.out); rintro e w' ⟨rfl, ⟨nd, rfl⟩⟩; (try first | exact ⟨rfl, _, World.drewN_drewN _ _ _⟩ | exact ⟨rfl, _, Eq.trans (World.drewN_drewN _ _ _) (congrArg (World.drewN _) (Nat.add_assoc _ _ _))⟩)))
                repeat (go_quiet (first | (go_at_call 16; (with_reducible refine (earshotref04_Same.calls k1 _ _ (rd_L1 l0 x5_1) _ _ (rd_L1 l1 x5_1) true _ ?side1 ?side2 ?side3 ?side4 A7.out).mono ?_); (case side1 => repeat (first | exact HR126_0.out | (with_reducible refine Kd.C_alloc ?_ _) | (with_reducible refine Kd.C_drewN ?_ _) | (with_reducible refine Kd.C_drew ?_))); (case side2 => exact HC126_0.out); (case side3 => repeat (first | exact HR127_0.out | (with_reducible refine Kd.C_alloc ?_ _) | (with_reducible refine Kd.C_drewN ?_ _) | (with_reducible refine Kd.C_drew ?_))); (case side4 => exact HC127_0.out); rintro e w' ⟨rfl, ⟨nd, rfl⟩⟩; (try first | exact ⟨rfl, _, World.drewN_drewN _ _ _⟩ | exact ⟨rfl, _, Eq.trans (World.drewN_drewN _ _ _) (congrArg (World.drewN _) (Nat.add_assoc _ _ _))⟩))); try go_wp2_with (first | (go_at_call 16; (with_reducible refine (earshotref04_Same.calls k1 _ _ (rd_L1 l0 x5_1) _ _ (rd_L1 l1 x5_1) true _ ?side1 ?side2 ?side3 ?side4 A7.out).mono ?_); (case side1 => repeat (first | exact HR126_0.out | (with_reducible refine Kd.C_alloc ?_ _) | (with_reducible refine Kd.C_drewN ?_ _) | (with_reducible refine Kd.C_drew ?_))); (case side2 => exact HC126_0.out); (case side3 => repeat (first | exact HR127_0.out | (with_reducible refine Kd.C_alloc ?_ _) | (with_reducible refine Kd.C_drewN ?_ _) | (with_reducible refine Kd.C_drew ?_))); (case side4 => exact HC127_0.out); rintro e w' ⟨rfl, ⟨nd, rfl⟩⟩; (try first | exact ⟨rfl, _, World.drewN_drewN _ _ _⟩ | exact ⟨rfl, _, Eq.trans (World.drewN_drewN _ _ _) (congrArg (World.drewN _) (Nat.add_assoc _ _ _))⟩))))
                go_roundg k1
                case measure => have := HK1.out; omega
                case rel => exact ⟨(wrap64 (x5_1 + 1)), (by first | rfl | (simp; done) | (simp [*]; done)), H', ⟨by have := HK1.out; omega⟩, by repeat (first | exact Drawn0.refl _ | apply Drawn0.step)⟩
              · replace c8 := Bool.eq_false_iff.mpr c8
                subst c8
                have H1 : (some false) = some r := by rw [if_neg (show ¬ (false = true) by decide)] at H; exact H
                clear H
                have H := H1
                clear H1
                obtain rfl := Option.some.inj H
                have p126 : 0 ≤ (x5_1 : Int) := of_decide_eq_true (by first | (with_reducible assumption) | assumption)
                have q126 : x5_1 < (l0.length : Int) := of_decide_eq_true (by first | (with_reducible assumption) | assumption)
                obtain ⟨ad126, A126_0, c126_0, e126, hx126_0, hl126_0, hi126_0⟩ := at_L1 HR0.out x5_1 p126 q126
                cases e126
                have HR126_0 := Aside0.mk hi126_0
                have HC126_0 := Aside0.mk hl126_0
                clear hi126_0 hl126_0
                replace p126 := eq_true p126
                replace q126 := eq_true q126
                have p127 : 0 ≤ (x5_1 : Int) := of_decide_eq_true (by first | (with_reducible assumption) | assumption)
                have q127 : x5_1 < (l1.length : Int) := of_decide_eq_true (by first | (with_reducible assumption) | assumption)
                obtain ⟨ad127, A127_0, c127_0, e127, hx127_0, hl127_0, hi127_0⟩ := at_L1 HR1.out x5_1 p127 q127
                cases e127
                have HR127_0 := Aside0.mk hi127_0
                have HC127_0 := Aside0.mk hl127_0
                clear hi127_0 hl127_0
                replace p127 := eq_true p127
                replace q127 := eq_true q127
                go_wp2_with (first | (go_at_call 16; (with_reducible refine (earshotref04_Same.calls k1 _ _ (rd_L1 l0 x5_1) _ _ (rd_L1 l1 x5_1) false _ ?side1 ?side2 ?side3 ?side4 A7.out).mono ?_); (case side1 => repeat (first | exact HR126_0.out | (with_reducible refine Kd.C_alloc ?_ _) | (with_reducible refine Kd.C_drewN ?_ _) | (with_reducible refine Kd.C_drew ?_))); (case side2 => exact HC126_0.out); (case side3 => repeat (first | exact HR127_0.out | (with_reducible refine Kd.C_alloc ?_ _) | (with_reducible refine Kd.C_drewN ?_ _) | (with_reducible refine Kd.C_drew ?_))); (case side4 => exact HC127_0.out); rintro e w' ⟨rfl, ⟨nd, rfl⟩⟩; (try first | exact ⟨rfl, _, World.drewN_drewN _ _ _⟩ | exact ⟨rfl, _, Eq.trans (World.drewN_drewN _ _ _) (congrArg (World.drewN _) (Nat.add_assoc _ _ _))⟩)))
                repeat (go_quiet (first | (go_at_call 16; (with_reducible refine (earshotref04_Same.calls k1 _ _ (rd_L1 l0 x5_1) _ _ (rd_L1 l1 x5_1) false _ ?side1 ?side2 ?side3 ?side4 A7.out).mono ?_); (case side1 => repeat (first | exact HR126_0.out | (with_reducible refine Kd.C_alloc ?_ _) | (with_reducible refine Kd.C_drewN ?_ _) | (with_reducible refine Kd.C_drew ?_))); (case side2 => exact HC126_0.out); (case side3 => repeat (first | exact HR127_0.out | (with_reducible refine Kd.C_alloc ?_ _) | (with_reducible refine Kd.C_drewN ?_ _) | (with_reducible refine Kd.C_drew ?_))); (case side4 => exact HC127_0.out); rintro e w' ⟨rfl, ⟨nd, rfl⟩⟩; (try first | exact ⟨rfl, _, World.drewN_drewN _ _ _⟩ | exact ⟨rfl, _, Eq.trans (World.drewN_drewN _ _ _) (congrArg (World.drewN _) (Nat.add_assoc _ _ _))⟩))); try go_wp2_with (first | (go_at_call 16; (with_reducible refine (earshotref04_Same.calls k1 _ _ (rd_L1 l0 x5_1) _ _ (rd_L1 l1 x5_1) false _ ?side1 ?side2 ?side3 ?side4 A7.out).mono ?_); (case side1 => repeat (first | exact HR126_0.out | (with_reducible refine Kd.C_alloc ?_ _) | (with_reducible refine Kd.C_drewN ?_ _) | (with_reducible refine Kd.C_drew ?_))); (case side2 => exact HC126_0.out); (case side3 => repeat (first | exact HR127_0.out | (with_reducible refine Kd.C_alloc ?_ _) | (with_reducible refine Kd.C_drewN ?_ _) | (with_reducible refine Kd.C_drew ?_))); (case side4 => exact HC127_0.out); rintro e w' ⟨rfl, ⟨nd, rfl⟩⟩; (try first | exact ⟨rfl, _, World.drewN_drewN _ _ _⟩ | exact ⟨rfl, _, Eq.trans (World.drewN_drewN _ _ _) (congrArg (World.drewN _) (Nat.add_assoc _ _ _))⟩))))
                go_ret
                exact ⟨by first | rfl | (simp; done) | (simp [*]; done), by repeat (first | exact Drawn0.refl _ | apply Drawn0.step)⟩
            · rw [if_neg c6] at H
              exact absurd H (by simp)
          · rw [if_neg c5] at H
            exact absurd H (by simp)
        · rw [if_neg c4] at H
          have c4b0 : decide (x5_1 < (l0.length : Int)) = false := decide_eq_false c4
          clear c4
          obtain rfl := Option.some.inj H
          go_wp2
          repeat (go_quiet (fail); try go_wp2)
          go_ret
          exact ⟨by first | rfl | (simp; done) | (simp [*]; done), by repeat (first | exact Drawn0.refl _ | apply Drawn0.step)⟩
  · rw [if_neg c3] at H
    have c3b0 : ((l0.length : Int) == (l1.length : Int)) = false := beq_eq_false_iff_ne.mpr c3
    have c3b1 : ((l0.length : Int) != (l1.length : Int)) = true := bne_iff_ne.mpr c3
    have c3b2 : (l0.length == l1.length) = false := by first | simpa using c3 | (simp at c3 ⊢; omega)
    obtain rfl := Option.some.inj H
    go_enter Tryd.func34, Tryd.ntmps34
    go_wp2
    repeat (go_quiet (fail); try go_wp2)
    go_ret
    exact ⟨by first | rfl | (simp; done) | (simp [*]; done), by repeat (first | exact Drawn0.refl _ | apply Drawn0.step)⟩

-- NOT PRINTED: function 35 (front_Stream_Reset)

end Go.Proofs.YtmhacdnnnebpdaaDoor.PFrontCuts
