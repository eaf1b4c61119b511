-- Written by a program of this work (wip/tools) for this claim; Lean checks it.
import Derived.Test.YtmhacdnnnebpdaaDoorPFrontTailsx0
import Derived.Test.YtmhacdnnnebpdaaDoorPFrontTailsx2
import Derived.Test.YtmhacdnnnebpdaaDoorPFrontTailsx3
namespace Go.Proofs.YtmhacdnnnebpdaaDoor.PFrontTails
open Go.RowKit Go.Proofs.YtmhacdnnnebpdaaDoorW.PrintWords Go.Proofs.YtmhacdnnnebpdaaDoorW.PrintLast Go.Proofs.YtmhacdnnnebpdaaDoorW.PrintMore
attribute [local go_sem] max2_int min2_int max_two min_two max_three min_three max_four min_four   -- for this text's walks alone
set_option linter.unusedVariables false
set_option linter.unusedSimpArgs false

/-! ### earshotlaw13_Spec_front: function 23 -/
theorem i64_mask (i : Nat) (hi : i ≤ 62) (n m : Int) (hm : m = ((2 ^ i - 1 : Nat) : Int)) : Go.bits .and .i64 n m = n % ((2 ^ i : Nat) : Int) := by
  have hp : 0 < 2 ^ i := Nat.two_pow_pos i
  have hle : 2 ^ i ≤ 4611686018427387904 := Nat.pow_le_pow_right (n := 2) (by decide) hi
  have h1 : (BitVec.ofInt 64 m).toNat = 2 ^ i - 1 := by
    subst hm
    rw [BitVec.ofInt_natCast, BitVec.toNat_ofNat]
    exact Nat.mod_eq_of_lt (by omega)
  have key : (BitVec.ofInt 64 n &&& BitVec.ofInt 64 m).toNat = (n % ((2 ^ 64 : Nat) : Int)).toNat % 2 ^ i := by
    rw [BitVec.toNat_and, BitVec.toNat_ofInt, h1, Nat.and_two_pow_sub_one_eq_mod]
  show IntKind.i64.wrap ((BitVec.ofInt 64 n &&& BitVec.ofInt 64 m).toNat : Nat) = n % _
  rw [key, IntKind.wrap_i64]
  have r0 : 0 ≤ n % ((2 ^ 64 : Nat) : Int) := Int.emod_nonneg _ (by decide)
  have e : (((n % ((2 ^ 64 : Nat) : Int)).toNat % 2 ^ i : Nat) : Int) = n % ((2 ^ i : Nat) : Int) := by
    rw [Int.natCast_emod, Int.toNat_of_nonneg r0]
    refine Int.emod_emod_of_dvd _ ?_
    exact Int.natCast_dvd_natCast.2 (Nat.pow_dvd_pow 2 (by omega))
  rw [e]
  generalize hz : n % ((2 ^ i : Nat) : Int) = z
  have m0 : 0 ≤ z := hz ▸ Int.emod_nonneg _ (by omega)
  have m1 : z < ((2 ^ i : Nat) : Int) := hz ▸ Int.emod_lt_of_pos _ (by omega)
  have hle' : ((2 ^ i : Nat) : Int) ≤ 4611686018427387904 := Int.ofNat_le.2 hle
  have m2 : z < 4611686018427387904 := Int.lt_of_lt_of_le m1 hle'
  clear m1 hle' hle hz e key h1
  omega

def specS (wide : Bool) : Int := if wide = true then 32 else 16
def specB (many : Bool) : Int := if many = true then 8 else 4
def fill5 (W : World) (g : Nat) (a0 a1 a2 a3 a4 : Value) : World := ((((W.setCell ⟨g, 0, none⟩ a0).setCell ⟨g, 1, none⟩ a1).setCell ⟨g, 2, none⟩ a2).setCell ⟨g, 3, none⟩ a3).setCell ⟨g, 4, none⟩ a4
theorem fill5_at {W : World} {g t : Nat} {b0 b1 b2 b3 b4 : Value} (h : W.heap[g]? = some (.cells #[b0, b1, b2, b3, b4] t (0, 0))) (a0 a1 a2 a3 a4 : Value) : (fill5 W g a0 a1 a2 a3 a4).heap[g]? = some (.cells #[a0, a1, a2, a3, a4] t (0, 0)) :=
  (blk_set (blk_set (blk_set (blk_set (blk_set h 0 a0) 1 a1) 2 a2) 3 a3) 4 a4).trans rfl
theorem blk_far {W : World} {g j k : Nat} {o : Obj} (h : W.heap[k]? = some o) (hne : k ≠ g) (u : Value) : (W.setCell ⟨g, j, none⟩ u).heap[k]? = some o := (Below.heap_setCell W ⟨g, j, none⟩ u k hne).trans h
theorem fill5_far {W : World} {g k : Nat} {o : Obj} (h : W.heap[k]? = some o) (hne : k ≠ g) (a0 a1 a2 a3 a4 : Value) : (fill5 W g a0 a1 a2 a3 a4).heap[k]? = some o :=
  blk_far (blk_far (blk_far (blk_far (blk_far h hne _) hne _) hne _) hne _) hne _
theorem fill5_below {w W : World} {g : Nat} (h : Below w.heap.size w W) (hg : w.heap.size ≤ g) (a0 a1 a2 a3 a4 : Value) : Below w.heap.size w (fill5 W g a0 a1 a2 a3 a4) :=
  below_set (below_set (below_set (below_set (below_set h hg) hg) hg) hg) hg
set_option maxHeartbeats 16000000 in
set_option maxRecDepth 100000 in
theorem spec_ff (x y z : Int) (w : World) :
    Calls Tryd.prog 23 #[.agg #[.int .i64 x, .int .i64 y, .int .i64 z, .bool false, .bool false]] w fun e w' => e = .returned (.agg #[.int .i64 16, .int .i64 (1 + x % 16), .int .i64 4, .int .i64 (1 + y % 4), .int .i64 (z % 32768)]) ∧ Below w.heap.size w w' := by
  have hu41 := Tryd.underlying41
  have hu39 := Tryd.underlying39
  have HB := Aside0.mk (Below.refl w.heap.size w)
  have m0 : Go.bits .and .i64 x 15 = x % 16 := i64_mask 4 (by decide) x 15 (by decide)
  have m1 : Go.bits .and .i64 y 3 = y % 4 := i64_mask 2 (by decide) y 3 (by decide)
  have m2 : Go.bits .and .i64 z 32767 = z % 32768 := i64_mask 15 (by decide) z 32767 (by decide)
  have e0 : IntKind.i64.wrap (1 + x % 16) = 1 + x % 16 := by rw [IntKind.wrap_i64]; omega
  have e1 : IntKind.i64.wrap (1 + y % 4) = 1 + y % 4 := by rw [IntKind.wrap_i64]; omega
  have ST0 : True := trivial
  go_enter Tryd.func23, Tryd.ntmps23
  go_upto_region 2 with (first
    | ((with_reducible refine gate_dst (N := 1) rfl ?_); refine box_event ?hg (N := 1) ?hd (cs := #[.int .i64 x, .int .i64 y, .int .i64 z, .bool false, .bool false]) (t := 41) ?hr ?_; (case hd => rfl); (case hg => first | rfl | exact wanted_on rfl rfl rfl (by first | assumption | rfl | (simp [*]; done))); (case hr => first | (go_simp; done) | (go_simp; rfl)); intro g1 hg1 w1 hbox hb; subst hg1; have BX1 := Aside0.mk hbox; have HB1 := Aside0.mk hb; have p0 := blk_cell BX1.out 0; have p1 := blk_cell BX1.out 1; have p2 := blk_cell BX1.out 2; have p3 := blk_cell BX1.out 3; have p4 := blk_cell BX1.out 4; clear ST0 hbox hb; have ST1 : True := trivial)
    | ((with_reducible refine gate_dst (N := 2) rfl ?_); refine box_event ?hg (N := 2) ?hd (cs := #[.int .i64 0, .int .i64 0, .int .i64 0, .int .i64 0, .int .i64 0]) (t := 39) ?hr ?_; (case hd => rfl); (case hg => first | rfl | exact wanted_on rfl rfl rfl (by first | assumption | rfl | (simp [*]; done))); (case hr => first | (go_simp; done) | (go_simp; rfl)); intro g2 hg2 w2 hbox hb; have BX2 := Aside0.mk (blk_below BX1.out hb); have HB2 := Aside0.mk (below_step HB1.out hb); have BY2 := Aside0.mk hbox; have hgl2 : w.heap.size < g2 := (by rw [hg2]; exact blk_lt BX1.out); clear ST1 hbox hb hg2 BX1 HB1 p0 p1 p2 p3 p4; have p0 := blk_cell BX2.out 0; have p1 := blk_cell BX2.out 1; have p2 := blk_cell BX2.out 2; have p3 := blk_cell BX2.out 3; have p4 := blk_cell BX2.out 4; have ST2 : True := trivial)
    | ((with_reducible refine gate_dst (N := 3) rfl ?_); refine box_event ?hg (N := 3) ?hd (cs := #[.int .i64 0, .int .i64 0, .int .i64 0, .int .i64 0, .int .i64 0]) (t := 39) ?hr ?_; (case hd => rfl); (case hg => first | rfl | exact wanted_on rfl rfl rfl (by first | assumption | rfl | (simp [*]; done))); (case hr => first | (go_simp; done) | (go_simp; rfl)); intro g3 hg3 w3 hbox hb; have BX3 := Aside0.mk (blk_below BX2.out hb); have HB3 := Aside0.mk (below_step HB2.out hb); have BY3 := Aside0.mk (blk_below BY2.out hb); have BZ3 := Aside0.mk hbox; have hgl3 : g2 < g3 := (by rw [hg3]; exact blk_lt BY2.out); clear ST2 hbox hb hg3 BX2 HB2 BY2 p0 p1 p2 p3 p4; have p0 := blk_cell BX3.out 0; have p1 := blk_cell BX3.out 1; have p2 := blk_cell BX3.out 2; have p3 := blk_cell BX3.out 3; have p4 := blk_cell BX3.out 4; have y0 := blk_cell BY3.out 0; have y1 := blk_cell BY3.out 1; have y2 := blk_cell BY3.out 2; have y3 := blk_cell BY3.out 3; have y4 := blk_cell BY3.out 4; have z0 := blk_cell BZ3.out 0; have z1 := blk_cell BZ3.out 1; have z2 := blk_cell BZ3.out 2; have z3 := blk_cell BZ3.out 3; have z4 := blk_cell BZ3.out 4; have u0 := blk_frozen BY3.out 0; have u1 := blk_frozen BY3.out 1; have u2 := blk_frozen BY3.out 2; have u3 := blk_frozen BY3.out 3; have u4 := blk_frozen BY3.out 4; have v0 := blk_frozen BZ3.out 0; have v1 := blk_frozen BZ3.out 1; have v2 := blk_frozen BZ3.out 2; have v3 := blk_frozen BZ3.out 3; have v4 := blk_frozen BZ3.out 4; have ne1 : ¬ g3 = g2 := (by omega); have ne2 : ¬ g2 = g3 := (by omega); have ne3 : ¬ w.heap.size = g2 := (by omega); have ne4 : ¬ w.heap.size = g3 := (by omega); have ST3 : True := trivial))
  obtain ⟨w4, hw4⟩ : ∃ W, fill5 w3 g3 (.int .i64 16) (.int .i64 0) (.int .i64 4) (.int .i64 0) (.int .i64 (z % 32768)) = W := ⟨_, rfl⟩
  have hgs2 : w.heap.size ≤ g2 := by omega
  have hgs3 : w.heap.size ≤ g3 := by omega
  have BZ4 := Aside0.mk (hw4 ▸ fill5_at BZ3.out (.int .i64 16) (.int .i64 0) (.int .i64 4) (.int .i64 0) (.int .i64 (z % 32768)))
  have BY4 := Aside0.mk (hw4 ▸ fill5_far (g := g3) BY3.out ne2 (.int .i64 16) (.int .i64 0) (.int .i64 4) (.int .i64 0) (.int .i64 (z % 32768)))
  have BX4 := Aside0.mk (hw4 ▸ fill5_far (g := g3) BX3.out ne4 (.int .i64 16) (.int .i64 0) (.int .i64 4) (.int .i64 0) (.int .i64 (z % 32768)))
  have HB4 := Aside0.mk (hw4 ▸ fill5_below HB3.out hgs3 (.int .i64 16) (.int .i64 0) (.int .i64 4) (.int .i64 0) (.int .i64 (z % 32768)))
  unfold fill5 at hw4
  rw [hw4]
  clear hw4 BZ3 BY3 BX3 HB3 p0 p1 p2 p3 p4 y0 y1 y2 y3 y4 z0 z1 z2 z3 z4 u0 u1 u2 u3 u4 v0 v1 v2 v3 v4
  have p0 := blk_cell BX4.out 0
  have p1 := blk_cell BX4.out 1
  have p3 := blk_cell BX4.out 3
  have p4 := blk_cell BX4.out 4
  have y0 := blk_cell BY4.out 0
  have y1 := blk_cell BY4.out 1
  have y2 := blk_cell BY4.out 2
  have y3 := blk_cell BY4.out 3
  have y4 := blk_cell BY4.out 4
  have z0 := blk_cell BZ4.out 0
  have z1 := blk_cell BZ4.out 1
  have z2 := blk_cell BZ4.out 2
  have z3 := blk_cell BZ4.out 3
  have z4 := blk_cell BZ4.out 4
  have u0 := blk_frozen BY4.out 0
  have u1 := blk_frozen BY4.out 1
  have u2 := blk_frozen BY4.out 2
  have u3 := blk_frozen BY4.out 3
  have u4 := blk_frozen BY4.out 4
  have v0 := blk_frozen BZ4.out 0
  have v1 := blk_frozen BZ4.out 1
  have v2 := blk_frozen BZ4.out 2
  have v3 := blk_frozen BZ4.out 3
  go_wp2
  refine bodyPost_ret (results_cell_row rfl _ _ g2 39 #[.int .i64 16, .int .i64 (1 + x % 16), .int .i64 4, .int .i64 (1 + y % 4), .int .i64 (z % 32768)] (0, 0) _ rfl (fill5_at (g := g2) (blk_far (blk_far BY4.out ne2 (.int .i64 (1 + x % 16))) ne2 (.int .i64 (1 + y % 4))) _ _ _ _ _) hu39 rfl (by kernel_rfl)) rfl ?_
  exact ⟨rfl, fill5_below (below_set (below_set HB4.out hgs3) hgs3) hgs2 _ _ _ _ _⟩
set_option maxHeartbeats 16000000 in
set_option maxRecDepth 100000 in
theorem spec_ft (x y z : Int) (w : World) :
    Calls Tryd.prog 23 #[.agg #[.int .i64 x, .int .i64 y, .int .i64 z, .bool false, .bool true]] w fun e w' => e = .returned (.agg #[.int .i64 16, .int .i64 (1 + x % 16), .int .i64 8, .int .i64 (1 + y % 8), .int .i64 (z % 32768)]) ∧ Below w.heap.size w w' := by
  have hu41 := Tryd.underlying41
  have hu39 := Tryd.underlying39
  have HB := Aside0.mk (Below.refl w.heap.size w)
  have m0 : Go.bits .and .i64 x 15 = x % 16 := i64_mask 4 (by decide) x 15 (by decide)
  have m1 : Go.bits .and .i64 y 7 = y % 8 := i64_mask 3 (by decide) y 7 (by decide)
  have m2 : Go.bits .and .i64 z 32767 = z % 32768 := i64_mask 15 (by decide) z 32767 (by decide)
  have e0 : IntKind.i64.wrap (1 + x % 16) = 1 + x % 16 := by rw [IntKind.wrap_i64]; omega
  have e1 : IntKind.i64.wrap (1 + y % 8) = 1 + y % 8 := by rw [IntKind.wrap_i64]; omega
  have ST0 : True := trivial
  go_enter Tryd.func23, Tryd.ntmps23
  go_upto_region 2 with (first
    | ((with_reducible refine gate_dst (N := 1) rfl ?_); refine box_event ?hg (N := 1) ?hd (cs := #[.int .i64 x, .int .i64 y, .int .i64 z, .bool false, .bool true]) (t := 41) ?hr ?_; (case hd => rfl); (case hg => first | rfl | exact wanted_on rfl rfl rfl (by first | assumption | rfl | (simp [*]; done))); (case hr => first | (go_simp; done) | (go_simp; rfl)); intro g1 hg1 w1 hbox hb; subst hg1; have BX1 := Aside0.mk hbox; have HB1 := Aside0.mk hb; have p0 := blk_cell BX1.out 0; have p1 := blk_cell BX1.out 1; have p2 := blk_cell BX1.out 2; have p3 := blk_cell BX1.out 3; have p4 := blk_cell BX1.out 4; clear ST0 hbox hb; have ST1 : True := trivial)
    | ((with_reducible refine gate_dst (N := 2) rfl ?_); refine box_event ?hg (N := 2) ?hd (cs := #[.int .i64 0, .int .i64 0, .int .i64 0, .int .i64 0, .int .i64 0]) (t := 39) ?hr ?_; (case hd => rfl); (case hg => first | rfl | exact wanted_on rfl rfl rfl (by first | assumption | rfl | (simp [*]; done))); (case hr => first | (go_simp; done) | (go_simp; rfl)); intro g2 hg2 w2 hbox hb; have BX2 := Aside0.mk (blk_below BX1.out hb); have HB2 := Aside0.mk (below_step HB1.out hb); have BY2 := Aside0.mk hbox; have hgl2 : w.heap.size < g2 := (by rw [hg2]; exact blk_lt BX1.out); clear ST1 hbox hb hg2 BX1 HB1 p0 p1 p2 p3 p4; have p0 := blk_cell BX2.out 0; have p1 := blk_cell BX2.out 1; have p2 := blk_cell BX2.out 2; have p3 := blk_cell BX2.out 3; have p4 := blk_cell BX2.out 4; have ST2 : True := trivial)
    | ((with_reducible refine gate_dst (N := 3) rfl ?_); refine box_event ?hg (N := 3) ?hd (cs := #[.int .i64 0, .int .i64 0, .int .i64 0, .int .i64 0, .int .i64 0]) (t := 39) ?hr ?_; (case hd => rfl); (case hg => first | rfl | exact wanted_on rfl rfl rfl (by first | assumption | rfl | (simp [*]; done))); (case hr => first | (go_simp; done) | (go_simp; rfl)); intro g3 hg3 w3 hbox hb; have BX3 := Aside0.mk (blk_below BX2.out hb); have HB3 := Aside0.mk (below_step HB2.out hb); have BY3 := Aside0.mk (blk_below BY2.out hb); have BZ3 := Aside0.mk hbox; have hgl3 : g2 < g3 := (by rw [hg3]; exact blk_lt BY2.out); clear ST2 hbox hb hg3 BX2 HB2 BY2 p0 p1 p2 p3 p4; have p0 := blk_cell BX3.out 0; have p1 := blk_cell BX3.out 1; have p2 := blk_cell BX3.out 2; have p3 := blk_cell BX3.out 3; have p4 := blk_cell BX3.out 4; have y0 := blk_cell BY3.out 0; have y1 := blk_cell BY3.out 1; have y2 := blk_cell BY3.out 2; have y3 := blk_cell BY3.out 3; have y4 := blk_cell BY3.out 4; have z0 := blk_cell BZ3.out 0; have z1 := blk_cell BZ3.out 1; have z2 := blk_cell BZ3.out 2; have z3 := blk_cell BZ3.out 3; have z4 := blk_cell BZ3.out 4; have u0 := blk_frozen BY3.out 0; have u1 := blk_frozen BY3.out 1; have u2 := blk_frozen BY3.out 2; have u3 := blk_frozen BY3.out 3; have u4 := blk_frozen BY3.out 4; have v0 := blk_frozen BZ3.out 0; have v1 := blk_frozen BZ3.out 1; have v2 := blk_frozen BZ3.out 2; have v3 := blk_frozen BZ3.out 3; have v4 := blk_frozen BZ3.out 4; have ne1 : ¬ g3 = g2 := (by omega); have ne2 : ¬ g2 = g3 := (by omega); have ne3 : ¬ w.heap.size = g2 := (by omega); have ne4 : ¬ w.heap.size = g3 := (by omega); have ST3 : True := trivial))
  obtain ⟨w4, hw4⟩ : ∃ W, fill5 w3 g3 (.int .i64 16) (.int .i64 0) (.int .i64 4) (.int .i64 0) (.int .i64 (z % 32768)) = W := ⟨_, rfl⟩
  have hgs2 : w.heap.size ≤ g2 := by omega
  have hgs3 : w.heap.size ≤ g3 := by omega
  have BZ4 := Aside0.mk (hw4 ▸ fill5_at BZ3.out (.int .i64 16) (.int .i64 0) (.int .i64 4) (.int .i64 0) (.int .i64 (z % 32768)))
  have BY4 := Aside0.mk (hw4 ▸ fill5_far (g := g3) BY3.out ne2 (.int .i64 16) (.int .i64 0) (.int .i64 4) (.int .i64 0) (.int .i64 (z % 32768)))
  have BX4 := Aside0.mk (hw4 ▸ fill5_far (g := g3) BX3.out ne4 (.int .i64 16) (.int .i64 0) (.int .i64 4) (.int .i64 0) (.int .i64 (z % 32768)))
  have HB4 := Aside0.mk (hw4 ▸ fill5_below HB3.out hgs3 (.int .i64 16) (.int .i64 0) (.int .i64 4) (.int .i64 0) (.int .i64 (z % 32768)))
  unfold fill5 at hw4
  rw [hw4]
  clear hw4 BZ3 BY3 BX3 HB3 p0 p1 p2 p3 p4 y0 y1 y2 y3 y4 z0 z1 z2 z3 z4 u0 u1 u2 u3 u4 v0 v1 v2 v3 v4
  have p0 := blk_cell BX4.out 0
  have p1 := blk_cell BX4.out 1
  have p3 := blk_cell BX4.out 3
  have p4 := blk_cell BX4.out 4
  have y0 := blk_cell BY4.out 0
  have y1 := blk_cell BY4.out 1
  have y2 := blk_cell BY4.out 2
  have y3 := blk_cell BY4.out 3
  have y4 := blk_cell BY4.out 4
  have z0 := blk_cell BZ4.out 0
  have z1 := blk_cell BZ4.out 1
  have z2 := blk_cell BZ4.out 2
  have z3 := blk_cell BZ4.out 3
  have z4 := blk_cell BZ4.out 4
  have u0 := blk_frozen BY4.out 0
  have u1 := blk_frozen BY4.out 1
  have u2 := blk_frozen BY4.out 2
  have u3 := blk_frozen BY4.out 3
  have u4 := blk_frozen BY4.out 4
  have v0 := blk_frozen BZ4.out 0
  have v1 := blk_frozen BZ4.out 1
  have v2 := blk_frozen BZ4.out 2
  have v3 := blk_frozen BZ4.out 3
  go_wp2
  refine bodyPost_ret (results_cell_row rfl _ _ g2 39 #[.int .i64 16, .int .i64 (1 + x % 16), .int .i64 8, .int .i64 (1 + y % 8), .int .i64 (z % 32768)] (0, 0) _ rfl (fill5_at (g := g2) (blk_far (blk_far (blk_far BY4.out ne2 (.int .i64 8)) ne2 (.int .i64 (1 + x % 16))) ne2 (.int .i64 (1 + y % 8))) _ _ _ _ _) hu39 rfl (by kernel_rfl)) rfl ?_
  exact ⟨rfl, fill5_below (below_set (below_set (below_set HB4.out hgs3) hgs3) hgs3) hgs2 _ _ _ _ _⟩
set_option maxHeartbeats 16000000 in
set_option maxRecDepth 100000 in
theorem spec_tf (x y z : Int) (w : World) :
    Calls Tryd.prog 23 #[.agg #[.int .i64 x, .int .i64 y, .int .i64 z, .bool true, .bool false]] w fun e w' => e = .returned (.agg #[.int .i64 32, .int .i64 (1 + x % 32), .int .i64 4, .int .i64 (1 + y % 4), .int .i64 (z % 32768)]) ∧ Below w.heap.size w w' := by
  have hu41 := Tryd.underlying41
  have hu39 := Tryd.underlying39
  have HB := Aside0.mk (Below.refl w.heap.size w)
  have m0 : Go.bits .and .i64 x 31 = x % 32 := i64_mask 5 (by decide) x 31 (by decide)
  have m1 : Go.bits .and .i64 y 3 = y % 4 := i64_mask 2 (by decide) y 3 (by decide)
  have m2 : Go.bits .and .i64 z 32767 = z % 32768 := i64_mask 15 (by decide) z 32767 (by decide)
  have e0 : IntKind.i64.wrap (1 + x % 32) = 1 + x % 32 := by rw [IntKind.wrap_i64]; omega
  have e1 : IntKind.i64.wrap (1 + y % 4) = 1 + y % 4 := by rw [IntKind.wrap_i64]; omega
  have ST0 : True := trivial
  go_enter Tryd.func23, Tryd.ntmps23
  go_upto_region 2 with (first
    | ((with_reducible refine gate_dst (N := 1) rfl ?_); refine box_event ?hg (N := 1) ?hd (cs := #[.int .i64 x, .int .i64 y, .int .i64 z, .bool true, .bool false]) (t := 41) ?hr ?_; (case hd => rfl); (case hg => first | rfl | exact wanted_on rfl rfl rfl (by first | assumption | rfl | (simp [*]; done))); (case hr => first | (go_simp; done) | (go_simp; rfl)); intro g1 hg1 w1 hbox hb; subst hg1; have BX1 := Aside0.mk hbox; have HB1 := Aside0.mk hb; have p0 := blk_cell BX1.out 0; have p1 := blk_cell BX1.out 1; have p2 := blk_cell BX1.out 2; have p3 := blk_cell BX1.out 3; have p4 := blk_cell BX1.out 4; clear ST0 hbox hb; have ST1 : True := trivial)
    | ((with_reducible refine gate_dst (N := 2) rfl ?_); refine box_event ?hg (N := 2) ?hd (cs := #[.int .i64 0, .int .i64 0, .int .i64 0, .int .i64 0, .int .i64 0]) (t := 39) ?hr ?_; (case hd => rfl); (case hg => first | rfl | exact wanted_on rfl rfl rfl (by first | assumption | rfl | (simp [*]; done))); (case hr => first | (go_simp; done) | (go_simp; rfl)); intro g2 hg2 w2 hbox hb; have BX2 := Aside0.mk (blk_below BX1.out hb); have HB2 := Aside0.mk (below_step HB1.out hb); have BY2 := Aside0.mk hbox; have hgl2 : w.heap.size < g2 := (by rw [hg2]; exact blk_lt BX1.out); clear ST1 hbox hb hg2 BX1 HB1 p0 p1 p2 p3 p4; have p0 := blk_cell BX2.out 0; have p1 := blk_cell BX2.out 1; have p2 := blk_cell BX2.out 2; have p3 := blk_cell BX2.out 3; have p4 := blk_cell BX2.out 4; have ST2 : True := trivial)
    | ((with_reducible refine gate_dst (N := 3) rfl ?_); refine box_event ?hg (N := 3) ?hd (cs := #[.int .i64 0, .int .i64 0, .int .i64 0, .int .i64 0, .int .i64 0]) (t := 39) ?hr ?_; (case hd => rfl); (case hg => first | rfl | exact wanted_on rfl rfl rfl (by first | assumption | rfl | (simp [*]; done))); (case hr => first | (go_simp; done) | (go_simp; rfl)); intro g3 hg3 w3 hbox hb; have BX3 := Aside0.mk (blk_below BX2.out hb); have HB3 := Aside0.mk (below_step HB2.out hb); have BY3 := Aside0.mk (blk_below BY2.out hb); have BZ3 := Aside0.mk hbox; have hgl3 : g2 < g3 := (by rw [hg3]; exact blk_lt BY2.out); clear ST2 hbox hb hg3 BX2 HB2 BY2 p0 p1 p2 p3 p4; have p0 := blk_cell BX3.out 0; have p1 := blk_cell BX3.out 1; have p2 := blk_cell BX3.out 2; have p3 := blk_cell BX3.out 3; have p4 := blk_cell BX3.out 4; have y0 := blk_cell BY3.out 0; have y1 := blk_cell BY3.out 1; have y2 := blk_cell BY3.out 2; have y3 := blk_cell BY3.out 3; have y4 := blk_cell BY3.out 4; have z0 := blk_cell BZ3.out 0; have z1 := blk_cell BZ3.out 1; have z2 := blk_cell BZ3.out 2; have z3 := blk_cell BZ3.out 3; have z4 := blk_cell BZ3.out 4; have u0 := blk_frozen BY3.out 0; have u1 := blk_frozen BY3.out 1; have u2 := blk_frozen BY3.out 2; have u3 := blk_frozen BY3.out 3; have u4 := blk_frozen BY3.out 4; have v0 := blk_frozen BZ3.out 0; have v1 := blk_frozen BZ3.out 1; have v2 := blk_frozen BZ3.out 2; have v3 := blk_frozen BZ3.out 3; have v4 := blk_frozen BZ3.out 4; have ne1 : ¬ g3 = g2 := (by omega); have ne2 : ¬ g2 = g3 := (by omega); have ne3 : ¬ w.heap.size = g2 := (by omega); have ne4 : ¬ w.heap.size = g3 := (by omega); have ST3 : True := trivial))
  obtain ⟨w4, hw4⟩ : ∃ W, fill5 w3 g3 (.int .i64 16) (.int .i64 0) (.int .i64 4) (.int .i64 0) (.int .i64 (z % 32768)) = W := ⟨_, rfl⟩
  have hgs2 : w.heap.size ≤ g2 := by omega
  have hgs3 : w.heap.size ≤ g3 := by omega
  have BZ4 := Aside0.mk (hw4 ▸ fill5_at BZ3.out (.int .i64 16) (.int .i64 0) (.int .i64 4) (.int .i64 0) (.int .i64 (z % 32768)))
  have BY4 := Aside0.mk (hw4 ▸ fill5_far (g := g3) BY3.out ne2 (.int .i64 16) (.int .i64 0) (.int .i64 4) (.int .i64 0) (.int .i64 (z % 32768)))
  have BX4 := Aside0.mk (hw4 ▸ fill5_far (g := g3) BX3.out ne4 (.int .i64 16) (.int .i64 0) (.int .i64 4) (.int .i64 0) (.int .i64 (z % 32768)))
  have HB4 := Aside0.mk (hw4 ▸ fill5_below HB3.out hgs3 (.int .i64 16) (.int .i64 0) (.int .i64 4) (.int .i64 0) (.int .i64 (z % 32768)))
  unfold fill5 at hw4
  rw [hw4]
  clear hw4 BZ3 BY3 BX3 HB3 p0 p1 p2 p3 p4 y0 y1 y2 y3 y4 z0 z1 z2 z3 z4 u0 u1 u2 u3 u4 v0 v1 v2 v3 v4
  have p0 := blk_cell BX4.out 0
  have p1 := blk_cell BX4.out 1
  have p3 := blk_cell BX4.out 3
  have p4 := blk_cell BX4.out 4
  have y0 := blk_cell BY4.out 0
  have y1 := blk_cell BY4.out 1
  have y2 := blk_cell BY4.out 2
  have y3 := blk_cell BY4.out 3
  have y4 := blk_cell BY4.out 4
  have z0 := blk_cell BZ4.out 0
  have z1 := blk_cell BZ4.out 1
  have z2 := blk_cell BZ4.out 2
  have z3 := blk_cell BZ4.out 3
  have z4 := blk_cell BZ4.out 4
  have u0 := blk_frozen BY4.out 0
  have u1 := blk_frozen BY4.out 1
  have u2 := blk_frozen BY4.out 2
  have u3 := blk_frozen BY4.out 3
  have u4 := blk_frozen BY4.out 4
  have v0 := blk_frozen BZ4.out 0
  have v1 := blk_frozen BZ4.out 1
  have v2 := blk_frozen BZ4.out 2
  have v3 := blk_frozen BZ4.out 3
  go_wp2
  refine bodyPost_ret (results_cell_row rfl _ _ g2 39 #[.int .i64 32, .int .i64 (1 + x % 32), .int .i64 4, .int .i64 (1 + y % 4), .int .i64 (z % 32768)] (0, 0) _ rfl (fill5_at (g := g2) (blk_far (blk_far (blk_far BY4.out ne2 (.int .i64 32)) ne2 (.int .i64 (1 + x % 32))) ne2 (.int .i64 (1 + y % 4))) _ _ _ _ _) hu39 rfl (by kernel_rfl)) rfl ?_
  exact ⟨rfl, fill5_below (below_set (below_set (below_set HB4.out hgs3) hgs3) hgs3) hgs2 _ _ _ _ _⟩
set_option maxHeartbeats 16000000 in
set_option maxRecDepth 100000 in
theorem spec_tt (x y z : Int) (w : World) :
    Calls Tryd.prog 23 #[.agg #[.int .i64 x, .int .i64 y, .int .i64 z, .bool true, .bool true]] w fun e w' => e = .returned (.agg #[.int .i64 32, .int .i64 (1 + x % 32), .int .i64 8, .int .i64 (1 + y % 8), .int .i64 (z % 32768)]) ∧ Below w.heap.size w w' := by
  have hu41 := Tryd.underlying41
  have hu39 := Tryd.underlying39
  have HB := Aside0.mk (Below.refl w.heap.size w)
  have m0 : Go.bits .and .i64 x 31 = x % 32 := i64_mask 5 (by decide) x 31 (by decide)
  have m1 : Go.bits .and .i64 y 7 = y % 8 := i64_mask 3 (by decide) y 7 (by decide)
  have m2 : Go.bits .and .i64 z 32767 = z % 32768 := i64_mask 15 (by decide) z 32767 (by decide)
  have e0 : IntKind.i64.wrap (1 + x % 32) = 1 + x % 32 := by rw [IntKind.wrap_i64]; omega
  have e1 : IntKind.i64.wrap (1 + y % 8) = 1 + y % 8 := by rw [IntKind.wrap_i64]; omega
  have ST0 : True := trivial
  go_enter Tryd.func23, Tryd.ntmps23
  go_upto_region 2 with (first
    | ((with_reducible refine gate_dst (N := 1) rfl ?_); refine box_event ?hg (N := 1) ?hd (cs := #[.int .i64 x, .int .i64 y, .int .i64 z, .bool true, .bool true]) (t := 41) ?hr ?_; (case hd => rfl); (case hg => first | rfl | exact wanted_on rfl rfl rfl (by first | assumption | rfl | (simp [*]; done))); (case hr => first | (go_simp; done) | (go_simp; rfl)); intro g1 hg1 w1 hbox hb; subst hg1; have BX1 := Aside0.mk hbox; have HB1 := Aside0.mk hb; have p0 := blk_cell BX1.out 0; have p1 := blk_cell BX1.out 1; have p2 := blk_cell BX1.out 2; have p3 := blk_cell BX1.out 3; have p4 := blk_cell BX1.out 4; clear ST0 hbox hb; have ST1 : True := trivial)
    | ((with_reducible refine gate_dst (N := 2) rfl ?_); refine box_event ?hg (N := 2) ?hd (cs := #[.int .i64 0, .int .i64 0, .int .i64 0, .int .i64 0, .int .i64 0]) (t := 39) ?hr ?_; (case hd => rfl); (case hg => first | rfl | exact wanted_on rfl rfl rfl (by first | assumption | rfl | (simp [*]; done))); (case hr => first | (go_simp; done) | (go_simp; rfl)); intro g2 hg2 w2 hbox hb; have BX2 := Aside0.mk (blk_below BX1.out hb); have HB2 := Aside0.mk (below_step HB1.out hb); have BY2 := Aside0.mk hbox; have hgl2 : w.heap.size < g2 := (by rw [hg2]; exact blk_lt BX1.out); clear ST1 hbox hb hg2 BX1 HB1 p0 p1 p2 p3 p4; have p0 := blk_cell BX2.out 0; have p1 := blk_cell BX2.out 1; have p2 := blk_cell BX2.out 2; have p3 := blk_cell BX2.out 3; have p4 := blk_cell BX2.out 4; have ST2 : True := trivial)
    | ((with_reducible refine gate_dst (N := 3) rfl ?_); refine box_event ?hg (N := 3) ?hd (cs := #[.int .i64 0, .int .i64 0, .int .i64 0, .int .i64 0, .int .i64 0]) (t := 39) ?hr ?_; (case hd => rfl); (case hg => first | rfl | exact wanted_on rfl rfl rfl (by first | assumption | rfl | (simp [*]; done))); (case hr => first | (go_simp; done) | (go_simp; rfl)); intro g3 hg3 w3 hbox hb; have BX3 := Aside0.mk (blk_below BX2.out hb); have HB3 := Aside0.mk (below_step HB2.out hb); have BY3 := Aside0.mk (blk_below BY2.out hb); have BZ3 := Aside0.mk hbox; have hgl3 : g2 < g3 := (by rw [hg3]; exact blk_lt BY2.out); clear ST2 hbox hb hg3 BX2 HB2 BY2 p0 p1 p2 p3 p4; have p0 := blk_cell BX3.out 0; have p1 := blk_cell BX3.out 1; have p2 := blk_cell BX3.out 2; have p3 := blk_cell BX3.out 3; have p4 := blk_cell BX3.out 4; have y0 := blk_cell BY3.out 0; have y1 := blk_cell BY3.out 1; have y2 := blk_cell BY3.out 2; have y3 := blk_cell BY3.out 3; have y4 := blk_cell BY3.out 4; have z0 := blk_cell BZ3.out 0; have z1 := blk_cell BZ3.out 1; have z2 := blk_cell BZ3.out 2; have z3 := blk_cell BZ3.out 3; have z4 := blk_cell BZ3.out 4; have u0 := blk_frozen BY3.out 0; have u1 := blk_frozen BY3.out 1; have u2 := blk_frozen BY3.out 2; have u3 := blk_frozen BY3.out 3; have u4 := blk_frozen BY3.out 4; have v0 := blk_frozen BZ3.out 0; have v1 := blk_frozen BZ3.out 1; have v2 := blk_frozen BZ3.out 2; have v3 := blk_frozen BZ3.out 3; have v4 := blk_frozen BZ3.out 4; have ne1 : ¬ g3 = g2 := (by omega); have ne2 : ¬ g2 = g3 := (by omega); have ne3 : ¬ w.heap.size = g2 := (by omega); have ne4 : ¬ w.heap.size = g3 := (by omega); have ST3 : True := trivial))
  obtain ⟨w4, hw4⟩ : ∃ W, fill5 w3 g3 (.int .i64 16) (.int .i64 0) (.int .i64 4) (.int .i64 0) (.int .i64 (z % 32768)) = W := ⟨_, rfl⟩
  have hgs2 : w.heap.size ≤ g2 := by omega
  have hgs3 : w.heap.size ≤ g3 := by omega
  have BZ4 := Aside0.mk (hw4 ▸ fill5_at BZ3.out (.int .i64 16) (.int .i64 0) (.int .i64 4) (.int .i64 0) (.int .i64 (z % 32768)))
  have BY4 := Aside0.mk (hw4 ▸ fill5_far (g := g3) BY3.out ne2 (.int .i64 16) (.int .i64 0) (.int .i64 4) (.int .i64 0) (.int .i64 (z % 32768)))
  have BX4 := Aside0.mk (hw4 ▸ fill5_far (g := g3) BX3.out ne4 (.int .i64 16) (.int .i64 0) (.int .i64 4) (.int .i64 0) (.int .i64 (z % 32768)))
  have HB4 := Aside0.mk (hw4 ▸ fill5_below HB3.out hgs3 (.int .i64 16) (.int .i64 0) (.int .i64 4) (.int .i64 0) (.int .i64 (z % 32768)))
  unfold fill5 at hw4
  rw [hw4]
  clear hw4 BZ3 BY3 BX3 HB3 p0 p1 p2 p3 p4 y0 y1 y2 y3 y4 z0 z1 z2 z3 z4 u0 u1 u2 u3 u4 v0 v1 v2 v3 v4
  have p0 := blk_cell BX4.out 0
  have p1 := blk_cell BX4.out 1
  have p3 := blk_cell BX4.out 3
  have p4 := blk_cell BX4.out 4
  have y0 := blk_cell BY4.out 0
  have y1 := blk_cell BY4.out 1
  have y2 := blk_cell BY4.out 2
  have y3 := blk_cell BY4.out 3
  have y4 := blk_cell BY4.out 4
  have z0 := blk_cell BZ4.out 0
  have z1 := blk_cell BZ4.out 1
  have z2 := blk_cell BZ4.out 2
  have z3 := blk_cell BZ4.out 3
  have z4 := blk_cell BZ4.out 4
  have u0 := blk_frozen BY4.out 0
  have u1 := blk_frozen BY4.out 1
  have u2 := blk_frozen BY4.out 2
  have u3 := blk_frozen BY4.out 3
  have u4 := blk_frozen BY4.out 4
  have v0 := blk_frozen BZ4.out 0
  have v1 := blk_frozen BZ4.out 1
  have v2 := blk_frozen BZ4.out 2
  have v3 := blk_frozen BZ4.out 3
  go_wp2
  refine bodyPost_ret (results_cell_row rfl _ _ g2 39 #[.int .i64 32, .int .i64 (1 + x % 32), .int .i64 8, .int .i64 (1 + y % 8), .int .i64 (z % 32768)] (0, 0) _ rfl (fill5_at (g := g2) (blk_far (blk_far (blk_far (blk_far BY4.out ne2 (.int .i64 32)) ne2 (.int .i64 8)) ne2 (.int .i64 (1 + x % 32))) ne2 (.int .i64 (1 + y % 8))) _ _ _ _ _) hu39 rfl (by kernel_rfl)) rfl ?_
  exact ⟨rfl, fill5_below (below_set (below_set (below_set (below_set HB4.out hgs3) hgs3) hgs3) hgs3) hgs2 _ _ _ _ _⟩
def specF (x y z : Int) (a b : Bool) : Int × Int × Int × Int × Int := (specS a, 1 + x % specS a, specB b, 1 + y % specB b, z % 32768)
theorem spec_go (x y z : Int) (a b : Bool) (w : World) :
    Calls Tryd.prog 23 #[.agg #[.int .i64 x, .int .i64 y, .int .i64 z, .bool a, .bool b]] w fun e w' => e = .returned (.agg #[.int .i64 (specS a), .int .i64 (1 + x % specS a), .int .i64 (specB b), .int .i64 (1 + y % specB b), .int .i64 (z % 32768)]) ∧ Below w.heap.size w w' := by
  cases a
  · cases b
    · exact spec_ff x y z w
    · exact spec_ft x y z w
  · cases b
    · exact spec_tf x y z w
    · exact spec_tt x y z w
def earshotlaw13_Spec_front.f (a0_0 a0_1 a0_2 : Int) (a0_3 a0_4 : Bool) : Option (Int × Int × Int × Int × Int) := some (specF a0_0 a0_1 a0_2 a0_3 a0_4)
theorem earshotlaw13_Spec_front.calls (a0_0 a0_1 a0_2 : Int) (a0_3 a0_4 : Bool) (r1 r2 r3 r4 r5 : Int) (w : World) (h : earshotlaw13_Spec_front.f a0_0 a0_1 a0_2 a0_3 a0_4 = some (r1, r2, r3, r4, r5)) :
    Calls Tryd.prog 23 #[.agg #[.int .i64 a0_0, .int .i64 a0_1, .int .i64 a0_2, .bool a0_3, .bool a0_4]] w fun e w' => e = .returned (.agg #[.int .i64 r1, .int .i64 r2, .int .i64 r3, .int .i64 r4, .int .i64 r5]) ∧ Below w.heap.size w w' := by
  have h1 := Option.some.inj h
  simp only [specF, Prod.mk.injEq] at h1
  obtain ⟨rfl, rfl, rfl, rfl, rfl⟩ := h1
  exact spec_go _ _ _ _ _ w
theorem spec_right (x y z : Int) (a b : Bool) : rightB (specS a) (1 + x % specS a) (specB b) (1 + y % specB b) (z % 32768) = true := by
  have e1 : sizeB (specS a) = true := by cases a <;> decide
  have e2 : mayB (specB b).toNat = true := by cases b <;> decide
  have p1 : 1 ≤ specS a := by cases a <;> decide
  have p2 : 1 ≤ specB b := by cases b <;> decide
  have h1 := Int.emod_nonneg x (show specS a ≠ 0 by omega)
  have h2 := Int.emod_lt_of_pos x (show 0 < specS a by omega)
  have h3 := Int.emod_nonneg y (show specB b ≠ 0 by omega)
  have h4 := Int.emod_lt_of_pos y (show 0 < specB b by omega)
  have h5 := Int.emod_nonneg z (show (32768 : Int) ≠ 0 by decide)
  have h6 := Int.emod_lt_of_pos z (show (0 : Int) < 32768 by decide)
  simp only [rightB, Bool.and_eq_true, decide_eq_true_eq]
  exact ⟨⟨⟨⟨⟨⟨⟨e1, by omega⟩, by omega⟩, e2⟩, by omega⟩, by omega⟩, by omega⟩, by omega⟩

/-! ### earshotref13_Frames: function 32 -/
def earshotref13_Frames.f (a0_0 : Int) (a0_1 : Int) (a0_2 : Int) (a0_3 : Int) (a0_4 : Int) (a1 : Int) : Option (Int) := if a1 < a0_0 then (some 0) else (if a0_1 = 0 then (none) else (some (wrap64 ((wrap64 (Int.tdiv (wrap64 (a1 - a0_0)) a0_1)) + 1))))
set_option maxHeartbeats 8000000 in
set_option maxRecDepth 100000 in
theorem earshotref13_Frames.calls (a0_0 : Int) (a0_1 : Int) (a0_2 : Int) (a0_3 : Int) (a0_4 : Int) (a1 : Int) (r : Int) (w : World) (h : earshotref13_Frames.f a0_0 a0_1 a0_2 a0_3 a0_4 a1 = some r) :
    Calls Tryd.prog 32 #[.agg #[.int .i64 a0_0, .int .i64 a0_1, .int .i64 a0_2, .int .i64 a0_3, .int .i64 a0_4], .int .i64 a1] w fun e w' => e = .returned (.int .i64 r) ∧ Below w.heap.size w w' := by
  have hu39 := Tryd.underlying39
  have HB := Aside0.mk (Below.refl w.heap.size w)
  have H : (if a1 < a0_0 then (some 0) else (if a0_1 = 0 then (none) else (some (wrap64 ((wrap64 (Int.tdiv (wrap64 (a1 - a0_0)) a0_1)) + 1))))) = some r := h
  clear h
  by_cases c3 : a1 < a0_0
  · rw [if_pos c3] at H
    have c3b0 : decide (a1 < a0_0) = true := decide_eq_true c3
    clear c3
    obtain rfl := Option.some.inj H
    go_enter Tryd.func32, Tryd.ntmps32
    go_wp2_with (first | ((with_reducible refine gate_dst (N := 2) rfl ?_); refine box_event ?hg (N := 2) ?hd (cs := #[.int .i64 a0_0, .int .i64 a0_1, .int .i64 a0_2, .int .i64 a0_3, .int .i64 a0_4]) (t := 39) ?hr ?_; (case hd => rfl); (case hg => first | rfl | exact wanted_on rfl rfl rfl (by first | assumption | rfl | (simp [*]; done))); (case hr => first | (go_simp; done) | (go_simp; rfl)); intro gb122 hg w4 hbox hb; have n0_ := Aside0.mk (below_step (by repeat (first | (with_reducible first | exact HB.out | apply below_alloc | apply pw_below_drewN | apply below_drew1) | exact HB.out)) hb); have n1_ := Aside0.mk (hbox); have n2_ := Aside0.mk ((by rw [hg]; exact (below_size (by repeat (first | (with_reducible first | exact HB.out | apply below_alloc | apply pw_below_drewN | apply below_drew1) | exact HB.out))) : w.heap.size ≤ gb122)); have n3_ := Aside0.mk ((by rw [hg]; exact (below_size (by repeat (first | (with_reducible first | exact HB.out | apply below_alloc | apply pw_below_drewN | apply below_drew1) | exact HB.out))) : w.heap.size ≤ gb122)); clear HB; have HB := n0_; have BK122 := n1_; have GW122 := n2_; have GE122 := n3_; clear n0_ n1_ n2_ n3_; clear hb hbox hg; have hcz5_0 : w4.cell? ⟨gb122, 0, none⟩ = some (.int .i64 a0_0) := (blk_cell BK122.out 0).trans rfl; have hcz5_1 : w4.cell? ⟨gb122, 1, none⟩ = some (.int .i64 a0_1) := (blk_cell BK122.out 1).trans rfl; have hcz5_2 : w4.cell? ⟨gb122, 2, none⟩ = some (.int .i64 a0_2) := (blk_cell BK122.out 2).trans rfl; have hcz5_3 : w4.cell? ⟨gb122, 3, none⟩ = some (.int .i64 a0_3) := (blk_cell BK122.out 3).trans rfl; have hcz5_4 : w4.cell? ⟨gb122, 4, none⟩ = some (.int .i64 a0_4) := (blk_cell BK122.out 4).trans rfl; have hfz5_0 := blk_frozen BK122.out 0; have hfz5_1 := blk_frozen BK122.out 1; have hfz5_2 := blk_frozen BK122.out 2; have hfz5_3 := blk_frozen BK122.out 3; have hfz5_4 := blk_frozen BK122.out 4))
    go_ret
    exact ⟨by first | rfl | (simp [errW_none, errW_some] <;> rfl) | (simp [*, errW_none, errW_some] <;> rfl), by repeat (first | (with_reducible first | exact HB.out | apply below_alloc | apply pw_below_drewN | apply below_drew1 | refine below_set ?_ GE122.out) | exact HB.out)⟩
  · rw [if_neg c3] at H
    have c3b0 : decide (a1 < a0_0) = false := decide_eq_false c3
    clear c3
    by_cases c6 : a0_1 = 0
    · rw [if_pos c6] at H
      exact absurd H (by simp)
    · rw [if_neg c6] at H
      have c6b0 : (a0_1 == 0) = false := beq_eq_false_iff_ne.mpr c6
      have c6b1 : (a0_1 != 0) = true := bne_iff_ne.mpr c6
      obtain rfl := Option.some.inj H
      go_enter Tryd.func32, Tryd.ntmps32
      go_wp2_with (first | ((with_reducible refine gate_dst (N := 2) rfl ?_); refine box_event ?hg (N := 2) ?hd (cs := #[.int .i64 a0_0, .int .i64 a0_1, .int .i64 a0_2, .int .i64 a0_3, .int .i64 a0_4]) (t := 39) ?hr ?_; (case hd => rfl); (case hg => first | rfl | exact wanted_on rfl rfl rfl (by first | assumption | rfl | (simp [*]; done))); (case hr => first | (go_simp; done) | (go_simp; rfl)); intro gb122 hg w7 hbox hb; have n0_ := Aside0.mk (below_step (by repeat (first | (with_reducible first | exact HB.out | apply below_alloc | apply pw_below_drewN | apply below_drew1) | exact HB.out)) hb); have n1_ := Aside0.mk (hbox); have n2_ := Aside0.mk ((by rw [hg]; exact (below_size (by repeat (first | (with_reducible first | exact HB.out | apply below_alloc | apply pw_below_drewN | apply below_drew1) | exact HB.out))) : w.heap.size ≤ gb122)); have n3_ := Aside0.mk ((by rw [hg]; exact (below_size (by repeat (first | (with_reducible first | exact HB.out | apply below_alloc | apply pw_below_drewN | apply below_drew1) | exact HB.out))) : w.heap.size ≤ gb122)); clear HB; have HB := n0_; have BK122 := n1_; have GW122 := n2_; have GE122 := n3_; clear n0_ n1_ n2_ n3_; clear hb hbox hg; have hcz8_0 : w7.cell? ⟨gb122, 0, none⟩ = some (.int .i64 a0_0) := (blk_cell BK122.out 0).trans rfl; have hcz8_1 : w7.cell? ⟨gb122, 1, none⟩ = some (.int .i64 a0_1) := (blk_cell BK122.out 1).trans rfl; have hcz8_2 : w7.cell? ⟨gb122, 2, none⟩ = some (.int .i64 a0_2) := (blk_cell BK122.out 2).trans rfl; have hcz8_3 : w7.cell? ⟨gb122, 3, none⟩ = some (.int .i64 a0_3) := (blk_cell BK122.out 3).trans rfl; have hcz8_4 : w7.cell? ⟨gb122, 4, none⟩ = some (.int .i64 a0_4) := (blk_cell BK122.out 4).trans rfl; have hfz8_0 := blk_frozen BK122.out 0; have hfz8_1 := blk_frozen BK122.out 1; have hfz8_2 := blk_frozen BK122.out 2; have hfz8_3 := blk_frozen BK122.out 3; have hfz8_4 := blk_frozen BK122.out 4))
      go_ret
      exact ⟨by first | rfl | (simp [errW_none, errW_some] <;> rfl) | (simp [*, errW_none, errW_some] <;> rfl), by repeat (first | (with_reducible first | exact HB.out | apply below_alloc | apply pw_below_drewN | apply below_drew1 | refine below_set ?_ GE122.out) | exact HB.out)⟩

-- NOT PRINTED: function 36 (front_Stream_Tail)

-- NOT PRINTED: function 38 (front_Stream_Set)

/-! ### earshotref13_in: function 68 -/
def earshotref13_in.f (a0 : Int) (a1 : Int) (a2 : Int) : Option (Bool) := if a0 ≥ a1 then (some (decide (a0 ≤ a2))) else (some false)
set_option maxHeartbeats 8000000 in
set_option maxRecDepth 100000 in
theorem earshotref13_in.calls (a0 : Int) (a1 : Int) (a2 : Int) (r : Bool) (w : World) (h : earshotref13_in.f a0 a1 a2 = some r) :
    Calls Tryd.prog 68 #[.int .i64 a0, .int .i64 a1, .int .i64 a2] w fun e w' => e = .returned (.bool r) ∧ Drawn0 w w' := by
  have H : (if a0 ≥ a1 then (some (decide (a0 ≤ a2))) else (some false)) = some r := h
  clear h
  by_cases c4 : a0 ≥ a1
  · rw [if_pos c4] at H
    have c4b0 : decide (a1 ≤ a0) = true := decide_eq_true c4
    clear c4
    obtain rfl := Option.some.inj H
    go_enter Tryd.func68, Tryd.ntmps68
    go_wp2
    go_ret
    exact ⟨by first | rfl | (simp; done) | (simp [*]; done), by repeat (first | exact Drawn0.refl _ | apply Drawn0.step)⟩
  · rw [if_neg c4] at H
    have c4b0 : decide (a1 ≤ a0) = false := decide_eq_false c4
    clear c4
    obtain rfl := Option.some.inj H
    go_enter Tryd.func68, Tryd.ntmps68
    go_wp2
    go_ret
    exact ⟨by first | rfl | (simp; done) | (simp [*]; done), by repeat (first | exact Drawn0.refl _ | apply Drawn0.step)⟩

/-! ### earshotref13_All: function 54 -/
def earshotref13_All.l0 : Nat → List Int → Int → Int → Int → Option (Bool)
  | 0, _, _, _, _ => none
  | k + 1, x0, x1, x2, x7 => if x7 < (x0.length : Int) then (if 0 ≤ x7 then ((earshotref13_in.f (rd x0 x7) x1 x2).bind fun t126 => (if t126 = true then (earshotref13_All.l0 k x0 x1 x2 (wrap64 (x7 + 1))) else (some false))) else (none)) else (some true)
def earshotref13_All.f (k : Nat) (l0 : List Int) (a1 : Int) (a2 : Int) : Option (Bool) := earshotref13_All.l0 k l0 a1 a2 0
theorem earshotref13_All.mono_l : ∀ k, (∀ y0 y1 y2 y3, LeO (earshotref13_All.l0 k y0 y1 y2 y3) (earshotref13_All.l0 (k + 1) y0 y1 y2 y3))
  | 0 => fun _ _ _ _ r h => by simp [earshotref13_All.l0] at h
  | k + 1 => by
    have ih0 := earshotref13_All.mono_l k
    · intro y0 y1 y2 y3
      unfold earshotref13_All.l0
      repeat' first
      | (with_reducible exact ih0 _ _ _ _)
      | (with_reducible exact LeO.refl _)
      | (with_reducible exact LeO.none _)
      | (with_reducible refine LeO.ite ?_ ?_)
      | (with_reducible refine LeO.bind ?_ (fun _ => ?_))
      | exact ih0 _ _ _ _
      | exact LeO.none _
      | refine LeO.ite ?_ ?_
      | refine LeO.bind ?_ (fun _ => ?_)
theorem earshotref13_All.mono : ∀ a0 a1 a2 k, LeO (earshotref13_All.f k a0 a1 a2) (earshotref13_All.f (k + 1) a0 a1 a2) := by
  intro a0 a1 a2 k
  have ih0 := earshotref13_All.mono_l k
  unfold earshotref13_All.f
  repeat' first
      | (with_reducible exact ih0 _ _ _ _)
      | (with_reducible exact LeO.refl _)
      | (with_reducible exact LeO.none _)
      | (with_reducible refine LeO.ite ?_ ?_)
      | (with_reducible refine LeO.bind ?_ (fun _ => ?_))
      | exact ih0 _ _ _ _
      | exact LeO.none _
      | refine LeO.ite ?_ ?_
      | refine LeO.bind ?_ (fun _ => ?_)
set_option maxHeartbeats 8000000 in
set_option maxRecDepth 100000 in
theorem earshotref13_All.calls (k : Nat) (A0 : Option Addr) (c0 : Nat) (l0 : List Int) (a1 : Int) (a2 : Int) (r : Bool) (w : World) (hr0 : Kd.C (Kd.int .i64) w A0 l0.length l0) (hc0 : l0.length ≤ c0) (h : earshotref13_All.f k l0 a1 a2 = some r) :
    Calls Tryd.prog 54 #[.slice A0 l0.length c0, .int .i64 a1, .int .i64 a2] w fun e w' => e = .returned (.bool r) ∧ Drawn0 w w' := by
  have HR0 := Aside0.mk hr0
  have HC0 := Aside0.mk hc0
  clear hr0 hc0
  have H : (earshotref13_All.l0 k l0 a1 a2 0) = some r := h
  clear h
  have H' := Aside0.mk H
  clear H
  go_enter Tryd.func54, Tryd.ntmps54
  go_wp2
  go_loopg [7] k (fun kq v7 w' => ∃ (x7_1 : Int), v7 = .int .i64 x7_1 ∧ Aside0 (earshotref13_All.l0 kq l0 a1 a2 x7_1 = some r) ∧ Aside0 (kq ≤ k) ∧ Drawn0 w w')
  case atStart => exact ⟨(0), (by first | rfl | (simp; done) | (simp [*]; done)), H', ⟨Nat.le_refl _⟩, by repeat (first | exact Drawn0.refl _ | apply Drawn0.step)⟩
  case round =>
    clear H'
    try clear p2
    obtain ⟨x7_1, rfl, HA, HK1, ⟨m1, rfl⟩⟩ := hrel
    cases gk with
    | zero => exact absurd HA.out (by simp [earshotref13_All.l0])
    | succ k1 =>
      have H := HA.out
      clear HA
      simp only [earshotref13_All.l0] at H
      by_cases c4 : x7_1 < (l0.length : Int)
      · rw [if_pos c4] at H
        have c4b0 : decide (x7_1 < (l0.length : Int)) = true := decide_eq_true c4
        clear c4
        by_cases c5 : 0 ≤ x7_1
        · rw [if_pos c5] at H
          have c5b0 : decide (0 ≤ x7_1) = true := decide_eq_true c5
          clear c5
          replace H := Option.bind_eq_some_iff.mp H
          obtain ⟨t126, A60, H⟩ := H
          replace H : (if t126 = true then (earshotref13_All.l0 k1 l0 a1 a2 (wrap64 (x7_1 + 1))) else (some false)) = some r := H
          have A6 := Aside0.mk A60
          clear A60
          by_cases c7 : t126 = true
          · subst c7
            have H1 : (earshotref13_All.l0 k1 l0 a1 a2 (wrap64 (x7_1 + 1))) = some r := by rw [if_pos rfl] at H; exact H
            clear H
            have H := H1
            clear H1
            have H' := Aside0.mk H
            clear H
            have p125 : 0 ≤ (x7_1 : Int) := of_decide_eq_true (by first | (with_reducible assumption) | assumption)
            have q125 : x7_1 < (l0.length : Int) := of_decide_eq_true (by first | (with_reducible assumption) | assumption)
            obtain ⟨ad125, e125, hx125_0⟩ := Kd.at_int HR0.out x7_1 p125 q125
            cases e125
            replace p125 := eq_true p125
            replace q125 := eq_true q125
            go_wp2_with (first | ((with_reducible refine gate_callee (f := 68) rfl ?_); refine goesL_ (some 21) rfl rfl Tryd.func68 (by kernel_rfl) rfl #[.int .i64 (rd l0 x7_1), .int .i64 a1, .int .i64 a2] rfl (by (try simp only [List.map_toArray, List.map_cons, List.map_nil]); first | done | rfl | (simp only [List.length_drop, List.length_take]; rfl)) ?_; (with_reducible refine (earshotref13_in.calls (rd l0 x7_1) a1 a2 true _ A6.out).mono ?_); rintro e w' ⟨rfl, ⟨nd, rfl⟩⟩; refine ⟨_, rfl, ?_⟩))
            go_roundg k1
            case measure => have := HK1.out; omega
            case rel => exact ⟨(wrap64 (x7_1 + 1)), (by first | rfl | (simp; done) | (simp [*]; done)), H', ⟨by have := HK1.out; omega⟩, by repeat (first | exact Drawn0.refl _ | apply Drawn0.step)⟩
          · replace c7 := Bool.eq_false_iff.mpr c7
            subst c7
            have H1 : (some false) = some r := by rw [if_neg (show ¬ (false = true) by decide)] at H; exact H
            clear H
            have H := H1
            clear H1
            obtain rfl := Option.some.inj H
            have p125 : 0 ≤ (x7_1 : Int) := of_decide_eq_true (by first | (with_reducible assumption) | assumption)
            have q125 : x7_1 < (l0.length : Int) := of_decide_eq_true (by first | (with_reducible assumption) | assumption)
            obtain ⟨ad125, e125, hx125_0⟩ := Kd.at_int HR0.out x7_1 p125 q125
            cases e125
            replace p125 := eq_true p125
            replace q125 := eq_true q125
            go_wp2_with (first | ((with_reducible refine gate_callee (f := 68) rfl ?_); refine goesL_ (some 21) rfl rfl Tryd.func68 (by kernel_rfl) rfl #[.int .i64 (rd l0 x7_1), .int .i64 a1, .int .i64 a2] rfl (by (try simp only [List.map_toArray, List.map_cons, List.map_nil]); first | done | rfl | (simp only [List.length_drop, List.length_take]; rfl)) ?_; (with_reducible refine (earshotref13_in.calls (rd l0 x7_1) a1 a2 false _ A6.out).mono ?_); rintro e w' ⟨rfl, ⟨nd, rfl⟩⟩; refine ⟨_, rfl, ?_⟩))
            go_ret
            exact ⟨by first | rfl | (simp; done) | (simp [*]; done), by repeat (first | exact Drawn0.refl _ | apply Drawn0.step)⟩
        · rw [if_neg c5] at H
          exact absurd H (by simp)
      · rw [if_neg c4] at H
        have c4b0 : decide (x7_1 < (l0.length : Int)) = false := decide_eq_false c4
        clear c4
        obtain rfl := Option.some.inj H
        go_wp2
        go_ret
        exact ⟨by first | rfl | (simp; done) | (simp [*]; done), by repeat (first | exact Drawn0.refl _ | apply Drawn0.step)⟩

end Go.Proofs.YtmhacdnnnebpdaaDoor.PFrontTails
