-- Written by a program of this work (wip/tools) for this claim; Lean checks it.
import Derived.Test.YtmhacdnnnebpdaaDoorPFrontStreamx8
namespace Go.Proofs.YtmhacdnnnebpdaaDoor.PFrontStream
open Go.RowKit Go.Proofs.YtmhacdnnnebpdaaDoorW.PrintWords Go.Proofs.YtmhacdnnnebpdaaDoorW.PrintLast Go.Proofs.YtmhacdnnnebpdaaDoorW.PrintMore
attribute [local go_sem] max2_int min2_int max_two min_two max_three min_three max_four min_four   -- for this text's walks alone
set_option linter.unusedVariables false
set_option linter.unusedSimpArgs false
theorem i64_mask (i : Nat) (hi : i ≤ 62) (n m : Int) (hm : m = ((2 ^ i - 1 : Nat) : Int)) : Go.bits .and .i64 n m = n % ((2 ^ i : Nat) : Int) := by
 have hp : 0 < 2 ^ i := Nat.two_pow_pos i
 have hle : 2 ^ i ≤ 4611686018427387904 := Nat.pow_le_pow_right (n := 2) (by decide) hi
 have h1 : (BitVec.ofInt 64 m).toNat = 2 ^ i - 1 := by
  subst hm
  rw [BitVec.ofInt_natCast, BitVec.toNat_ofNat]
  exact Nat.mod_eq_of_lt (by omega)
 have key : (BitVec.ofInt 64 n &&& BitVec.ofInt 64 m).toNat = (n % ((2 ^ 64 : Nat) : Int)).toNat % 2 ^ i := by
  rw [BitVec.toNat_and, BitVec.toNat_ofInt, h1, Nat.and_two_pow_sub_one_eq_mod]
 show IntKind.i64.wrap ((BitVec.ofInt 64 n &&& BitVec.ofInt 64 m).toNat : Nat) = n % _
 rw [key, IntKind.wrap_i64]
 have r0 : 0 ≤ n % ((2 ^ 64 : Nat) : Int) := Int.emod_nonneg _ (by decide)
 have e : (((n % ((2 ^ 64 : Nat) : Int)).toNat % 2 ^ i : Nat) : Int) = n % ((2 ^ i : Nat) : Int) := by
  rw [Int.natCast_emod, Int.toNat_of_nonneg r0]
  refine Int.emod_emod_of_dvd _ ?_
  exact Int.natCast_dvd_natCast.2 (Nat.pow_dvd_pow 2 (by omega))
 rw [e]
 generalize hz : n % ((2 ^ i : Nat) : Int) = z
 have m0 : 0 ≤ z := hz ▸ Int.emod_nonneg _ (by omega)
 have m1 : z < ((2 ^ i : Nat) : Int) := hz ▸ Int.emod_lt_of_pos _ (by omega)
 have hle' : ((2 ^ i : Nat) : Int) ≤ 4611686018427387904 := Int.ofNat_le.2 hle
 have m2 : z < 4611686018427387904 := Int.lt_of_lt_of_le m1 hle'
 clear m1 hle' hle hz e key h1
 omega
def specS (wide : Bool) : Int := if wide = true then 32 else 16
def specB (many : Bool) : Int := if many = true then 8 else 4
def fill5 (W : World) (g : Nat) (a0 a1 a2 a3 a4 : Value) : World := ((((W.setCell ⟨g, 0, none⟩ a0).setCell ⟨g, 1, none⟩ a1).setCell ⟨g, 2, none⟩ a2).setCell ⟨g, 3, none⟩ a3).setCell ⟨g, 4, none⟩ a4
theorem fill5_at {W : World} {g t : Nat} {b0 b1 b2 b3 b4 : Value} (h : W.heap[g]? = some (.cells #[b0, b1, b2, b3, b4] t (0, 0))) (a0 a1 a2 a3 a4 : Value) : (fill5 W g a0 a1 a2 a3 a4).heap[g]? = some (.cells #[a0, a1, a2, a3, a4] t (0, 0)) :=
 (blk_set (blk_set (blk_set (blk_set (blk_set h 0 a0) 1 a1) 2 a2) 3 a3) 4 a4).trans rfl
theorem blk_far {W : World} {g j k : Nat} {o : Obj} (h : W.heap[k]? = some o) (hne : k ≠ g) (u : Value) : (W.setCell ⟨g, j, none⟩ u).heap[k]? = some o := (Below.heap_setCell W ⟨g, j, none⟩ u k hne).trans h
theorem fill5_far {W : World} {g k : Nat} {o : Obj} (h : W.heap[k]? = some o) (hne : k ≠ g) (a0 a1 a2 a3 a4 : Value) : (fill5 W g a0 a1 a2 a3 a4).heap[k]? = some o :=
 blk_far (blk_far (blk_far (blk_far (blk_far h hne _) hne _) hne _) hne _) hne _
theorem fill5_below {w W : World} {g : Nat} (h : Below w.heap.size w W) (hg : w.heap.size ≤ g) (a0 a1 a2 a3 a4 : Value) : Below w.heap.size w (fill5 W g a0 a1 a2 a3 a4) :=
 below_set (below_set (below_set (below_set (below_set h hg) hg) hg) hg) hg
set_option maxHeartbeats 16000000 in
set_option maxRecDepth 100000 in
theorem spec_ff (x y z : Int) (w : World) :
  Calls Tryd.prog 23 #[.agg #[.int .i64 x, .int .i64 y, .int .i64 z, .bool false, .bool false]] w fun e w' => e = .returned (.agg #[.int .i64 16, .int .i64 (1 + x % 16), .int .i64 4, .int .i64 (1 + y % 4), .int .i64 (z % 32768)]) ∧ Below w.heap.size w w' := by
 have hu41 := Tryd.underlying41
 have hu39 := Tryd.underlying39
 have HB := Aside0.mk (Below.refl w.heap.size w)
 have m0 : Go.bits .and .i64 x 15 = x % 16 := i64_mask 4 (by decide) x 15 (by decide)
 have m1 : Go.bits .and .i64 y 3 = y % 4 := i64_mask 2 (by decide) y 3 (by decide)
 have m2 : Go.bits .and .i64 z 32767 = z % 32768 := i64_mask 15 (by decide) z 32767 (by decide)
 have e0 : IntKind.i64.wrap (1 + x % 16) = 1 + x % 16 := by rw [IntKind.wrap_i64]; omega
 have e1 : IntKind.i64.wrap (1 + y % 4) = 1 + y % 4 := by rw [IntKind.wrap_i64]; omega
 have ST0 : True := trivial
 go_enter Tryd.func23, Tryd.ntmps23
 go_upto_region 2 with (first
  | ((with_reducible refine gate_dst (N := 1) rfl ?_); refine box_event ?hg (N := 1) ?hd (cs := #[.int .i64 x, .int .i64 y, .int .i64 z, .bool false, .bool false]) (t := 41) ?hr ?_; (case hd => rfl); (case hg => first | rfl | exact wanted_on rfl rfl rfl (by first | assumption | rfl | (simp [*]; done))); (case hr => first | (go_simp; done) | (go_simp; rfl)); intro g1 hg1 w1 hbox hb; subst hg1; have BX1 := Aside0.mk hbox; have HB1 := Aside0.mk hb; have p0 := blk_cell BX1.out 0; have p1 := blk_cell BX1.out 1; have p2 := blk_cell BX1.out 2; have p3 := blk_cell BX1.out 3; have p4 := blk_cell BX1.out 4; clear ST0 hbox hb; have ST1 : True := trivial)
  | ((with_reducible refine gate_dst (N := 2) rfl ?_); refine box_event ?hg (N := 2) ?hd (cs := #[.int .i64 0, .int .i64 0, .int .i64 0, .int .i64 0, .int .i64 0]) (t := 39) ?hr ?_; (case hd => rfl); (case hg => first | rfl | exact wanted_on rfl rfl rfl (by first | assumption | rfl | (simp [*]; done))); (case hr => first | (go_simp; done) | (go_simp; rfl)); intro g2 hg2 w2 hbox hb; have BX2 := Aside0.mk (blk_below BX1.out hb); have HB2 := Aside0.mk (below_step HB1.out hb); have BY2 := Aside0.mk hbox; have hgl2 : w.heap.size < g2 := (by rw [hg2]; exact blk_lt BX1.out); clear ST1 hbox hb hg2 BX1 HB1 p0 p1 p2 p3 p4; have p0 := blk_cell BX2.out 0; have p1 := blk_cell BX2.out 1; have p2 := blk_cell BX2.out 2; have p3 := blk_cell BX2.out 3; have p4 := blk_cell BX2.out 4; have ST2 : True := trivial)
  | ((with_reducible refine gate_dst (N := 3) rfl ?_); refine box_event ?hg (N := 3) ?hd (cs := #[.int .i64 0, .int .i64 0, .int .i64 0, .int .i64 0, .int .i64 0]) (t := 39) ?hr ?_; (case hd => rfl); (case hg => first | rfl | exact wanted_on rfl rfl rfl (by first | assumption | rfl | (simp [*]; done))); (case hr => first | (go_simp; done) | (go_simp; rfl)); intro g3 hg3 w3 hbox hb; have BX3 := Aside0.mk (blk_below BX2.out hb); have HB3 := Aside0.mk (below_step HB2.out hb); have BY3 := Aside0.mk (blk_below BY2.out hb); have BZ3 := Aside0.mk hbox; have hgl3 : g2 < g3 := (by rw [hg3]; exact blk_lt BY2.out); clear ST2 hbox hb hg3 BX2 HB2 BY2 p0 p1 p2 p3 p4; have p0 := blk_cell BX3.out 0; have p1 := blk_cell BX3.out 1; have p2 := blk_cell BX3.out 2; have p3 := blk_cell BX3.out 3; have p4 := blk_cell BX3.out 4; have y0 := blk_cell BY3.out 0; have y1 := blk_cell BY3.out 1; have y2 := blk_cell BY3.out 2; have y3 := blk_cell BY3.out 3; have y4 := blk_cell BY3.out 4; have z0 := blk_cell BZ3.out 0; have z1 := blk_cell BZ3.out 1; have z2 := blk_cell BZ3.out 2; have z3 := blk_cell BZ3.out 3; have z4 := blk_cell BZ3.out 4; have u0 := blk_frozen BY3.out 0; have u1 := blk_frozen BY3.out 1; have u2 := blk_frozen BY3.out 2; have u3 := blk_frozen BY3.out 3; have u4 := blk_frozen BY3.out 4; have v0 := blk_frozen BZ3.out 0; have v1 := blk_frozen BZ3.out 1; have v2 := blk_frozen BZ3.out 2; have v3 := blk_frozen BZ3.out 3; have v4 := blk_frozen BZ3.out 4; have ne1 : ¬ g3 = g2 := (by omega); have ne2 : ¬ g2 = g3 := (by omega); have ne3 : ¬ w.heap.size = g2 := (by omega); have ne4 : ¬ w.heap.size = g3 := (by omega); have ST3 : True := trivial))
 obtain ⟨w4, hw4⟩ : ∃ W, fill5 w3 g3 (.int .i64 16) (.int .i64 0) (.int .i64 4) (.int .i64 0) (.int .i64 (z % 32768)) = W := ⟨_, rfl⟩
 have hgs2 : w.heap.size ≤ g2 := by omega
 have hgs3 : w.heap.size ≤ g3 := by omega
 have BZ4 := Aside0.mk (hw4 ▸ fill5_at BZ3.out (.int .i64 16) (.int .i64 0) (.int .i64 4) (.int .i64 0) (.int .i64 (z % 32768)))
 have BY4 := Aside0.mk (hw4 ▸ fill5_far (g := g3) BY3.out ne2 (.int .i64 16) (.int .i64 0) (.int .i64 4) (.int .i64 0) (.int .i64 (z % 32768)))
 have BX4 := Aside0.mk (hw4 ▸ fill5_far (g := g3) BX3.out ne4 (.int .i64 16) (.int .i64 0) (.int .i64 4) (.int .i64 0) (.int .i64 (z % 32768)))
 have HB4 := Aside0.mk (hw4 ▸ fill5_below HB3.out hgs3 (.int .i64 16) (.int .i64 0) (.int .i64 4) (.int .i64 0) (.int .i64 (z % 32768)))
 unfold fill5 at hw4
 rw [hw4]
 clear hw4 BZ3 BY3 BX3 HB3 p0 p1 p2 p3 p4 y0 y1 y2 y3 y4 z0 z1 z2 z3 z4 u0 u1 u2 u3 u4 v0 v1 v2 v3 v4
 have p0 := blk_cell BX4.out 0
 have p1 := blk_cell BX4.out 1
 have p3 := blk_cell BX4.out 3
 have p4 := blk_cell BX4.out 4
 have y0 := blk_cell BY4.out 0
 have y1 := blk_cell BY4.out 1
 have y2 := blk_cell BY4.out 2
 have y3 := blk_cell BY4.out 3
 have y4 := blk_cell BY4.out 4
 have z0 := blk_cell BZ4.out 0
 have z1 := blk_cell BZ4.out 1
 have z2 := blk_cell BZ4.out 2
 have z3 := blk_cell BZ4.out 3
 have z4 := blk_cell BZ4.out 4
 have u0 := blk_frozen BY4.out 0
 have u1 := blk_frozen BY4.out 1
 have u2 := blk_frozen BY4.out 2
 have u3 := blk_frozen BY4.out 3
 have u4 := blk_frozen BY4.out 4
 have v0 := blk_frozen BZ4.out 0
 have v1 := blk_frozen BZ4.out 1
 have v2 := blk_frozen BZ4.out 2
 have v3 := blk_frozen BZ4.out 3
 go_wp2
 refine bodyPost_ret (results_cell_row rfl _ _ g2 39 #[.int .i64 16, .int .i64 (1 + x % 16), .int .i64 4, .int .i64 (1 + y % 4), .int .i64 (z % 32768)] (0, 0) _ rfl (fill5_at (g := g2) (blk_far (blk_far BY4.out ne2 (.int .i64 (1 + x % 16))) ne2 (.int .i64 (1 + y % 4))) _ _ _ _ _) hu39 rfl (by kernel_rfl)) rfl ?_
 exact ⟨rfl, fill5_below (below_set (below_set HB4.out hgs3) hgs3) hgs2 _ _ _ _ _⟩
set_option maxHeartbeats 16000000 in
set_option maxRecDepth 100000 in
theorem spec_ft (x y z : Int) (w : World) :
  Calls Tryd.prog 23 #[.agg #[.int .i64 x, .int .i64 y, .int .i64 z, .bool false, .bool true]] w fun e w' => e = .returned (.agg #[.int .i64 16, .int .i64 (1 + x % 16), .int .i64 8, .int .i64 (1 + y % 8), .int .i64 (z % 32768)]) ∧ Below w.heap.size w w' := by
 have hu41 := Tryd.underlying41
 have hu39 := Tryd.underlying39
 have HB := Aside0.mk (Below.refl w.heap.size w)
 have m0 : Go.bits .and .i64 x 15 = x % 16 := i64_mask 4 (by decide) x 15 (by decide)
 have m1 : Go.bits .and .i64 y 7 = y % 8 := i64_mask 3 (by decide) y 7 (by decide)
 have m2 : Go.bits .and .i64 z 32767 = z % 32768 := i64_mask 15 (by decide) z 32767 (by decide)
 have e0 : IntKind.i64.wrap (1 + x % 16) = 1 + x % 16 := by rw [IntKind.wrap_i64]; omega
 have e1 : IntKind.i64.wrap (1 + y % 8) = 1 + y % 8 := by rw [IntKind.wrap_i64]; omega
 have ST0 : True := trivial
 go_enter Tryd.func23, Tryd.ntmps23
 go_upto_region 2 with (first
  | ((with_reducible refine gate_dst (N := 1) rfl ?_); refine box_event ?hg (N := 1) ?hd (cs := #[.int .i64 x, .int .i64 y, .int .i64 z, .bool false, .bool true]) (t := 41) ?hr ?_; (case hd => rfl); (case hg => first | rfl | exact wanted_on rfl rfl rfl (by first | assumption | rfl | (simp [*]; done))); (case hr => first | (go_simp; done) | (go_simp; rfl)); intro g1 hg1 w1 hbox hb; subst hg1; have BX1 := Aside0.mk hbox; have HB1 := Aside0.mk hb; have p0 := blk_cell BX1.out 0; have p1 := blk_cell BX1.out 1; have p2 := blk_cell BX1.out 2; have p3 := blk_cell BX1.out 3; have p4 := blk_cell BX1.out 4; clear ST0 hbox hb; have ST1 : True := trivial)
  | ((with_reducible refine gate_dst (N := 2) rfl ?_); refine box_event ?hg (N := 2) ?hd (cs := #[.int .i64 0, .int .i64 0, .int .i64 0, .int .i64 0, .int .i64 0]) (t := 39) ?hr ?_; (case hd => rfl); (case hg => first | rfl | exact wanted_on rfl rfl rfl (by first | assumption | rfl | (simp [*]; done))); (case hr => first | (go_simp; done) | (go_simp; rfl)); intro g2 hg2 w2 hbox hb; have BX2 := Aside0.mk (blk_below BX1.out hb); have HB2 := Aside0.mk (below_step HB1.out hb); have BY2 := Aside0.mk hbox; have hgl2 : w.heap.size < g2 := (by rw [hg2]; exact blk_lt BX1.out); clear ST1 hbox hb hg2 BX1 HB1 p0 p1 p2 p3 p4; have p0 := blk_cell BX2.out 0; have p1 := blk_cell BX2.out 1; have p2 := blk_cell BX2.out 2; have p3 := blk_cell BX2.out 3; have p4 := blk_cell BX2.out 4; have ST2 : True := trivial)
  | ((with_reducible refine gate_dst (N := 3) rfl ?_); refine box_event ?hg (N := 3) ?hd (cs := #[.int .i64 0, .int .i64 0, .int .i64 0, .int .i64 0, .int .i64 0]) (t := 39) ?hr ?_; (case hd => rfl); (case hg => first | rfl | exact wanted_on rfl rfl rfl (by first | assumption | rfl | (simp [*]; done))); (case hr => first | (go_simp; done) | (go_simp; rfl)); intro g3 hg3 w3 hbox hb; have BX3 := Aside0.mk (blk_below BX2.out hb); have HB3 := Aside0.mk (below_step HB2.out hb); have BY3 := Aside0.mk (blk_below BY2.out hb); have BZ3 := Aside0.mk hbox; have hgl3 : g2 < g3 := (by rw [hg3]; exact blk_lt BY2.out); clear ST2 hbox hb hg3 BX2 HB2 BY2 p0 p1 p2 p3 p4; have p0 := blk_cell BX3.out 0; have p1 := blk_cell BX3.out 1; have p2 := blk_cell BX3.out 2; have p3 := blk_cell BX3.out 3; have p4 := blk_cell BX3.out 4; have y0 := blk_cell BY3.out 0; have y1 := blk_cell BY3.out 1; have y2 := blk_cell BY3.out 2; have y3 := blk_cell BY3.out 3; have y4 := blk_cell BY3.out 4; have z0 := blk_cell BZ3.out 0; have z1 := blk_cell BZ3.out 1; have z2 := blk_cell BZ3.out 2; have z3 := blk_cell BZ3.out 3; have z4 := blk_cell BZ3.out 4; have u0 := blk_frozen BY3.out 0; have u1 := blk_frozen BY3.out 1; have u2 := blk_frozen BY3.out 2; have u3 := blk_frozen BY3.out 3; have u4 := blk_frozen BY3.out 4; have v0 := blk_frozen BZ3.out 0; have v1 := blk_frozen BZ3.out 1; have v2 := blk_frozen BZ3.out 2; have v3 := blk_frozen BZ3.out 3; have v4 := blk_frozen BZ3.out 4; have ne1 : ¬ g3 = g2 := (by omega); have ne2 : ¬ g2 = g3 := (by omega); have ne3 : ¬ w.heap.size = g2 := (by omega); have ne4 : ¬ w.heap.size = g3 := (by omega); have ST3 : True := trivial))
 obtain ⟨w4, hw4⟩ : ∃ W, fill5 w3 g3 (.int .i64 16) (.int .i64 0) (.int .i64 4) (.int .i64 0) (.int .i64 (z % 32768)) = W := ⟨_, rfl⟩
 have hgs2 : w.heap.size ≤ g2 := by omega
 have hgs3 : w.heap.size ≤ g3 := by omega
 have BZ4 := Aside0.mk (hw4 ▸ fill5_at BZ3.out (.int .i64 16) (.int .i64 0) (.int .i64 4) (.int .i64 0) (.int .i64 (z % 32768)))
 have BY4 := Aside0.mk (hw4 ▸ fill5_far (g := g3) BY3.out ne2 (.int .i64 16) (.int .i64 0) (.int .i64 4) (.int .i64 0) (.int .i64 (z % 32768)))
 have BX4 := Aside0.mk (hw4 ▸ fill5_far (g := g3) BX3.out ne4 (.int .i64 16) (.int .i64 0) (.int .i64 4) (.int .i64 0) (.int .i64 (z % 32768)))
 have HB4 := Aside0.mk (hw4 ▸ fill5_below HB3.out hgs3 (.int .i64 16) (.int .i64 0) (.int .i64 4) (.int .i64 0) (.int .i64 (z % 32768)))
 unfold fill5 at hw4
 rw [hw4]
 clear hw4 BZ3 BY3 BX3 HB3 p0 p1 p2 p3 p4 y0 y1 y2 y3 y4 z0 z1 z2 z3 z4 u0 u1 u2 u3 u4 v0 v1 v2 v3 v4
 have p0 := blk_cell BX4.out 0
 have p1 := blk_cell BX4.out 1
 have p3 := blk_cell BX4.out 3
 have p4 := blk_cell BX4.out 4
 have y0 := blk_cell BY4.out 0
 have y1 := blk_cell BY4.out 1
 have y2 := blk_cell BY4.out 2
 have y3 := blk_cell BY4.out 3
 have y4 := blk_cell BY4.out 4
 have z0 := blk_cell BZ4.out 0
 have z1 := blk_cell BZ4.out 1
 have z2 := blk_cell BZ4.out 2
 have z3 := blk_cell BZ4.out 3
 have z4 := blk_cell BZ4.out 4
 have u0 := blk_frozen BY4.out 0
 have u1 := blk_frozen BY4.out 1
 have u2 := blk_frozen BY4.out 2
 have u3 := blk_frozen BY4.out 3
 have u4 := blk_frozen BY4.out 4
 have v0 := blk_frozen BZ4.out 0
 have v1 := blk_frozen BZ4.out 1
 have v2 := blk_frozen BZ4.out 2
 have v3 := blk_frozen BZ4.out 3
 go_wp2
 refine bodyPost_ret (results_cell_row rfl _ _ g2 39 #[.int .i64 16, .int .i64 (1 + x % 16), .int .i64 8, .int .i64 (1 + y % 8), .int .i64 (z % 32768)] (0, 0) _ rfl (fill5_at (g := g2) (blk_far (blk_far (blk_far BY4.out ne2 (.int .i64 8)) ne2 (.int .i64 (1 + x % 16))) ne2 (.int .i64 (1 + y % 8))) _ _ _ _ _) hu39 rfl (by kernel_rfl)) rfl ?_
 exact ⟨rfl, fill5_below (below_set (below_set (below_set HB4.out hgs3) hgs3) hgs3) hgs2 _ _ _ _ _⟩
set_option maxHeartbeats 16000000 in
set_option maxRecDepth 100000 in
theorem spec_tf (x y z : Int) (w : World) :
  Calls Tryd.prog 23 #[.agg #[.int .i64 x, .int .i64 y, .int .i64 z, .bool true, .bool false]] w fun e w' => e = .returned (.agg #[.int .i64 32, .int .i64 (1 + x % 32), .int .i64 4, .int .i64 (1 + y % 4), .int .i64 (z % 32768)]) ∧ Below w.heap.size w w' := by
 have hu41 := Tryd.underlying41
 have hu39 := Tryd.underlying39
 have HB := Aside0.mk (Below.refl w.heap.size w)
 have m0 : Go.bits .and .i64 x 31 = x % 32 := i64_mask 5 (by decide) x 31 (by decide)
 have m1 : Go.bits .and .i64 y 3 = y % 4 := i64_mask 2 (by decide) y 3 (by decide)
 have m2 : Go.bits .and .i64 z 32767 = z % 32768 := i64_mask 15 (by decide) z 32767 (by decide)
 have e0 : IntKind.i64.wrap (1 + x % 32) = 1 + x % 32 := by rw [IntKind.wrap_i64]; omega
 have e1 : IntKind.i64.wrap (1 + y % 4) = 1 + y % 4 := by rw [IntKind.wrap_i64]; omega
 have ST0 : True := trivial
 go_enter Tryd.func23, Tryd.ntmps23
 go_upto_region 2 with (first
  | ((with_reducible refine gate_dst (N := 1) rfl ?_); refine box_event ?hg (N := 1) ?hd (cs := #[.int .i64 x, .int .i64 y, .int .i64 z, .bool true, .bool false]) (t := 41) ?hr ?_; (case hd => rfl); (case hg => first | rfl | exact wanted_on rfl rfl rfl (by first | assumption | rfl | (simp [*]; done))); (case hr => first | (go_simp; done) | (go_simp; rfl)); intro g1 hg1 w1 hbox hb; subst hg1; have BX1 := Aside0.mk hbox; have HB1 := Aside0.mk hb; have p0 := blk_cell BX1.out 0; have p1 := blk_cell BX1.out 1; have p2 := blk_cell BX1.out 2; have p3 := blk_cell BX1.out 3; have p4 := blk_cell BX1.out 4; clear ST0 hbox hb; have ST1 : True := trivial)
  | ((with_reducible refine gate_dst (N := 2) rfl ?_); refine box_event ?hg (N := 2) ?hd (cs := #[.int .i64 0, .int .i64 0, .int .i64 0, .int .i64 0, .int .i64 0]) (t := 39) ?hr ?_; (case hd => rfl); (case hg => first | rfl | exact wanted_on rfl rfl rfl (by first | assumption | rfl | (simp [*]; done))); (case hr => first | (go_simp; done) | (go_simp; rfl)); intro g2 hg2 w2 hbox hb; have BX2 := Aside0.mk (blk_below BX1.out hb); have HB2 := Aside0.mk (below_step HB1.out hb); have BY2 := Aside0.mk hbox; have hgl2 : w.heap.size < g2 := (by rw [hg2]; exact blk_lt BX1.out); clear ST1 hbox hb hg2 BX1 HB1 p0 p1 p2 p3 p4; have p0 := blk_cell BX2.out 0; have p1 := blk_cell BX2.out 1; have p2 := blk_cell BX2.out 2; have p3 := blk_cell BX2.out 3; have p4 := blk_cell BX2.out 4; have ST2 : True := trivial)
  | ((with_reducible refine gate_dst (N := 3) rfl ?_); refine box_event ?hg (N := 3) ?hd (cs := #[.int .i64 0, .int .i64 0, .int .i64 0, .int .i64 0, .int .i64 0]) (t := 39) ?hr ?_; (case hd => rfl); (case hg => first | rfl | exact wanted_on rfl rfl rfl (by first | assumption | rfl | (simp [*]; done))); (case hr => first | (go_simp; done) | (go_simp; rfl)); intro g3 hg3 w3 hbox hb; have BX3 := Aside0.mk (blk_below BX2.out hb); have HB3 := Aside0.mk (below_step HB2.out hb); have BY3 := Aside0.mk (blk_below BY2.out hb); have BZ3 := Aside0.mk hbox; have hgl3 : g2 < g3 := (by rw [hg3]; exact blk_lt BY2.out); clear ST2 hbox hb hg3 BX2 HB2 BY2 p0 p1 p2 p3 p4; have p0 := blk_cell BX3.out 0; have p1 := blk_cell BX3.out 1; have p2 := blk_cell BX3.out 2; have p3 := blk_cell BX3.out 3; have p4 := blk_cell BX3.out 4; have y0 := blk_cell BY3.out 0; have y1 := blk_cell BY3.out 1; have y2 := blk_cell BY3.out 2; have y3 := blk_cell BY3.out 3; have y4 := blk_cell BY3.out 4; have z0 := blk_cell BZ3.out 0; have z1 := blk_cell BZ3.out 1; have z2 := blk_cell BZ3.out 2; have z3 := blk_cell BZ3.out 3; have z4 := blk_cell BZ3.out 4; have u0 := blk_frozen BY3.out 0; have u1 := blk_frozen BY3.out 1; have u2 := blk_frozen BY3.out 2; have u3 := blk_frozen BY3.out 3; have u4 := blk_frozen BY3.out 4; have v0 := blk_frozen BZ3.out 0; have v1 := blk_frozen BZ3.out 1; have v2 := blk_frozen BZ3.out 2; have v3 := blk_frozen BZ3.out 3; have v4 := blk_frozen BZ3.out 4; have ne1 : ¬ g3 = g2 := (by omega); have ne2 : ¬ g2 = g3 := (by omega); have ne3 : ¬ w.heap.size = g2 := (by omega); have ne4 : ¬ w.heap.size = g3 := (by omega); have ST3 : True := trivial))
 obtain ⟨w4, hw4⟩ : ∃ W, fill5 w3 g3 (.int .i64 16) (.int .i64 0) (.int .i64 4) (.int .i64 0) (.int .i64 (z % 32768)) = W := ⟨_, rfl⟩
 have hgs2 : w.heap.size ≤ g2 := by omega
 have hgs3 : w.heap.size ≤ g3 := by omega
 have BZ4 := Aside0.mk (hw4 ▸ fill5_at BZ3.out (.int .i64 16) (.int .i64 0) (.int .i64 4) (.int .i64 0) (.int .i64 (z % 32768)))
 have BY4 := Aside0.mk (hw4 ▸ fill5_far (g := g3) BY3.out ne2 (.int .i64 16) (.int .i64 0) (.int .i64 4) (.int .i64 0) (.int .i64 (z % 32768)))
 have BX4 := Aside0.mk (hw4 ▸ fill5_far (g := g3) BX3.out ne4 (.int .i64 16) (.int .i64 0) (.int .i64 4) (.int .i64 0) (.int .i64 (z % 32768)))
 have HB4 := Aside0.mk (hw4 ▸ fill5_below HB3.out hgs3 (.int .i64 16) (.int .i64 0) (.int .i64 4) (.int .i64 0) (.int .i64 (z % 32768)))
 unfold fill5 at hw4
 rw [hw4]
 clear hw4 BZ3 BY3 BX3 HB3 p0 p1 p2 p3 p4 y0 y1 y2 y3 y4 z0 z1 z2 z3 z4 u0 u1 u2 u3 u4 v0 v1 v2 v3 v4
 have p0 := blk_cell BX4.out 0
 have p1 := blk_cell BX4.out 1
 have p3 := blk_cell BX4.out 3
 have p4 := blk_cell BX4.out 4
 have y0 := blk_cell BY4.out 0
 have y1 := blk_cell BY4.out 1
 have y2 := blk_cell BY4.out 2
 have y3 := blk_cell BY4.out 3
 have y4 := blk_cell BY4.out 4
 have z0 := blk_cell BZ4.out 0
 have z1 := blk_cell BZ4.out 1
 have z2 := blk_cell BZ4.out 2
 have z3 := blk_cell BZ4.out 3
 have z4 := blk_cell BZ4.out 4
 have u0 := blk_frozen BY4.out 0
 have u1 := blk_frozen BY4.out 1
 have u2 := blk_frozen BY4.out 2
 have u3 := blk_frozen BY4.out 3
 have u4 := blk_frozen BY4.out 4
 have v0 := blk_frozen BZ4.out 0
 have v1 := blk_frozen BZ4.out 1
 have v2 := blk_frozen BZ4.out 2
 have v3 := blk_frozen BZ4.out 3
 go_wp2
 refine bodyPost_ret (results_cell_row rfl _ _ g2 39 #[.int .i64 32, .int .i64 (1 + x % 32), .int .i64 4, .int .i64 (1 + y % 4), .int .i64 (z % 32768)] (0, 0) _ rfl (fill5_at (g := g2) (blk_far (blk_far (blk_far BY4.out ne2 (.int .i64 32)) ne2 (.int .i64 (1 + x % 32))) ne2 (.int .i64 (1 + y % 4))) _ _ _ _ _) hu39 rfl (by kernel_rfl)) rfl ?_
 exact ⟨rfl, fill5_below (below_set (below_set (below_set HB4.out hgs3) hgs3) hgs3) hgs2 _ _ _ _ _⟩
set_option maxHeartbeats 16000000 in
set_option maxRecDepth 100000 in
theorem spec_tt (x y z : Int) (w : World) :
  Calls Tryd.prog 23 #[.agg #[.int .i64 x, .int .i64 y, .int .i64 z, .bool true, .bool true]] w fun e w' => e = .returned (.agg #[.int .i64 32, .int .i64 (1 + x % 32), .int .i64 8, .int .i64 (1 + y % 8), .int .i64 (z % 32768)]) ∧ Below w.heap.size w w' := by
 have hu41 := Tryd.underlying41
 have hu39 := Tryd.underlying39
 have HB := Aside0.mk (Below.refl w.heap.size w)
 have m0 : Go.bits .and .i64 x 31 = x % 32 := i64_mask 5 (by decide) x 31 (by decide)
 have m1 : Go.bits .and .i64 y 7 = y % 8 := i64_mask 3 (by decide) y 7 (by decide)
 have m2 : Go.bits .and .i64 z 32767 = z % 32768 := i64_mask 15 (by decide) z 32767 (by decide)
 have e0 : IntKind.i64.wrap (1 + x % 32) = 1 + x % 32 := by rw [IntKind.wrap_i64]; omega
 have e1 : IntKind.i64.wrap (1 + y % 8) = 1 + y % 8 := by rw [IntKind.wrap_i64]; omega
 have ST0 : True := trivial
 go_enter Tryd.func23, Tryd.ntmps23
 go_upto_region 2 with (first
  | ((with_reducible refine gate_dst (N := 1) rfl ?_); refine box_event ?hg (N := 1) ?hd (cs := #[.int .i64 x, .int .i64 y, .int .i64 z, .bool true, .bool true]) (t := 41) ?hr ?_; (case hd => rfl); (case hg => first | rfl | exact wanted_on rfl rfl rfl (by first | assumption | rfl | (simp [*]; done))); (case hr => first | (go_simp; done) | (go_simp; rfl)); intro g1 hg1 w1 hbox hb; subst hg1; have BX1 := Aside0.mk hbox; have HB1 := Aside0.mk hb; have p0 := blk_cell BX1.out 0; have p1 := blk_cell BX1.out 1; have p2 := blk_cell BX1.out 2; have p3 := blk_cell BX1.out 3; have p4 := blk_cell BX1.out 4; clear ST0 hbox hb; have ST1 : True := trivial)
  | ((with_reducible refine gate_dst (N := 2) rfl ?_); refine box_event ?hg (N := 2) ?hd (cs := #[.int .i64 0, .int .i64 0, .int .i64 0, .int .i64 0, .int .i64 0]) (t := 39) ?hr ?_; (case hd => rfl); (case hg => first | rfl | exact wanted_on rfl rfl rfl (by first | assumption | rfl | (simp [*]; done))); (case hr => first | (go_simp; done) | (go_simp; rfl)); intro g2 hg2 w2 hbox hb; have BX2 := Aside0.mk (blk_below BX1.out hb); have HB2 := Aside0.mk (below_step HB1.out hb); have BY2 := Aside0.mk hbox; have hgl2 : w.heap.size < g2 := (by rw [hg2]; exact blk_lt BX1.out); clear ST1 hbox hb hg2 BX1 HB1 p0 p1 p2 p3 p4; have p0 := blk_cell BX2.out 0; have p1 := blk_cell BX2.out 1; have p2 := blk_cell BX2.out 2; have p3 := blk_cell BX2.out 3; have p4 := blk_cell BX2.out 4; have ST2 : True := trivial)
  | ((with_reducible refine gate_dst (N := 3) rfl ?_); refine box_event ?hg (N := 3) ?hd (cs := #[.int .i64 0, .int .i64 0, .int .i64 0, .int .i64 0, .int .i64 0]) (t := 39) ?hr ?_; (case hd => rfl); (case hg => first | rfl | exact wanted_on rfl rfl rfl (by first | assumption | rfl | (simp [*]; done))); (case hr => first | (go_simp; done) | (go_simp; rfl)); intro g3 hg3 w3 hbox hb; have BX3 := Aside0.mk (blk_below BX2.out hb); have HB3 := Aside0.mk (below_step HB2.out hb); have BY3 := Aside0.mk (blk_below BY2.out hb); have BZ3 := Aside0.mk hbox; have hgl3 : g2 < g3 := (by rw [hg3]; exact blk_lt BY2.out); clear ST2 hbox hb hg3 BX2 HB2 BY2 p0 p1 p2 p3 p4; have p0 := blk_cell BX3.out 0; have p1 := blk_cell BX3.out 1; have p2 := blk_cell BX3.out 2; have p3 := blk_cell BX3.out 3; have p4 := blk_cell BX3.out 4; have y0 := blk_cell BY3.out 0; have y1 := blk_cell BY3.out 1; have y2 := blk_cell BY3.out 2; have y3 := blk_cell BY3.out 3; have y4 := blk_cell BY3.out 4; have z0 := blk_cell BZ3.out 0; have z1 := blk_cell BZ3.out 1; have z2 := blk_cell BZ3.out 2; have z3 := blk_cell BZ3.out 3; have z4 := blk_cell BZ3.out 4; have u0 := blk_frozen BY3.out 0; have u1 := blk_frozen BY3.out 1; have u2 := blk_frozen BY3.out 2; have u3 := blk_frozen BY3.out 3; have u4 := blk_frozen BY3.out 4; have v0 := blk_frozen BZ3.out 0; have v1 := blk_frozen BZ3.out 1; have v2 := blk_frozen BZ3.out 2; have v3 := blk_frozen BZ3.out 3; have v4 := blk_frozen BZ3.out 4; have ne1 : ¬ g3 = g2 := (by omega); have ne2 : ¬ g2 = g3 := (by omega); have ne3 : ¬ w.heap.size = g2 := (by omega); have ne4 : ¬ w.heap.size = g3 := (by omega); have ST3 : True := trivial))
 obtain ⟨w4, hw4⟩ : ∃ W, fill5 w3 g3 (.int .i64 16) (.int .i64 0) (.int .i64 4) (.int .i64 0) (.int .i64 (z % 32768)) = W := ⟨_, rfl⟩
 have hgs2 : w.heap.size ≤ g2 := by omega
 have hgs3 : w.heap.size ≤ g3 := by omega
 have BZ4 := Aside0.mk (hw4 ▸ fill5_at BZ3.out (.int .i64 16) (.int .i64 0) (.int .i64 4) (.int .i64 0) (.int .i64 (z % 32768)))
 have BY4 := Aside0.mk (hw4 ▸ fill5_far (g := g3) BY3.out ne2 (.int .i64 16) (.int .i64 0) (.int .i64 4) (.int .i64 0) (.int .i64 (z % 32768)))
 have BX4 := Aside0.mk (hw4 ▸ fill5_far (g := g3) BX3.out ne4 (.int .i64 16) (.int .i64 0) (.int .i64 4) (.int .i64 0) (.int .i64 (z % 32768)))
 have HB4 := Aside0.mk (hw4 ▸ fill5_below HB3.out hgs3 (.int .i64 16) (.int .i64 0) (.int .i64 4) (.int .i64 0) (.int .i64 (z % 32768)))
 unfold fill5 at hw4
 rw [hw4]
 clear hw4 BZ3 BY3 BX3 HB3 p0 p1 p2 p3 p4 y0 y1 y2 y3 y4 z0 z1 z2 z3 z4 u0 u1 u2 u3 u4 v0 v1 v2 v3 v4
 have p0 := blk_cell BX4.out 0
 have p1 := blk_cell BX4.out 1
 have p3 := blk_cell BX4.out 3
 have p4 := blk_cell BX4.out 4
 have y0 := blk_cell BY4.out 0
 have y1 := blk_cell BY4.out 1
 have y2 := blk_cell BY4.out 2
 have y3 := blk_cell BY4.out 3
 have y4 := blk_cell BY4.out 4
 have z0 := blk_cell BZ4.out 0
 have z1 := blk_cell BZ4.out 1
 have z2 := blk_cell BZ4.out 2
 have z3 := blk_cell BZ4.out 3
 have z4 := blk_cell BZ4.out 4
 have u0 := blk_frozen BY4.out 0
 have u1 := blk_frozen BY4.out 1
 have u2 := blk_frozen BY4.out 2
 have u3 := blk_frozen BY4.out 3
 have u4 := blk_frozen BY4.out 4
 have v0 := blk_frozen BZ4.out 0
 have v1 := blk_frozen BZ4.out 1
 have v2 := blk_frozen BZ4.out 2
 have v3 := blk_frozen BZ4.out 3
 go_wp2
 refine bodyPost_ret (results_cell_row rfl _ _ g2 39 #[.int .i64 32, .int .i64 (1 + x % 32), .int .i64 8, .int .i64 (1 + y % 8), .int .i64 (z % 32768)] (0, 0) _ rfl (fill5_at (g := g2) (blk_far (blk_far (blk_far (blk_far BY4.out ne2 (.int .i64 32)) ne2 (.int .i64 8)) ne2 (.int .i64 (1 + x % 32))) ne2 (.int .i64 (1 + y % 8))) _ _ _ _ _) hu39 rfl (by kernel_rfl)) rfl ?_
 exact ⟨rfl, fill5_below (below_set (below_set (below_set (below_set HB4.out hgs3) hgs3) hgs3) hgs3) hgs2 _ _ _ _ _⟩
def specF (x y z : Int) (a b : Bool) : Int × Int × Int × Int × Int := (specS a, 1 + x % specS a, specB b, 1 + y % specB b, z % 32768)
theorem spec_go (x y z : Int) (a b : Bool) (w : World) :
  Calls Tryd.prog 23 #[.agg #[.int .i64 x, .int .i64 y, .int .i64 z, .bool a, .bool b]] w fun e w' => e = .returned (.agg #[.int .i64 (specS a), .int .i64 (1 + x % specS a), .int .i64 (specB b), .int .i64 (1 + y % specB b), .int .i64 (z % 32768)]) ∧ Below w.heap.size w w' := by
 cases a
 ·
  cases b
  · exact spec_ff x y z w
  · exact spec_ft x y z w
 ·
  cases b
  · exact spec_tf x y z w
  · exact spec_tt x y z w
def earshotlaw13_Spec_front.f (a0_0 a0_1 a0_2 : Int) (a0_3 a0_4 : Bool) : Option (Int × Int × Int × Int × Int) := some (specF a0_0 a0_1 a0_2 a0_3 a0_4)
theorem earshotlaw13_Spec_front.calls (a0_0 a0_1 a0_2 : Int) (a0_3 a0_4 : Bool) (r1 r2 r3 r4 r5 : Int) (w : World) (h : earshotlaw13_Spec_front.f a0_0 a0_1 a0_2 a0_3 a0_4 = some (r1, r2, r3, r4, r5)) :
  Calls Tryd.prog 23 #[.agg #[.int .i64 a0_0, .int .i64 a0_1, .int .i64 a0_2, .bool a0_3, .bool a0_4]] w fun e w' => e = .returned (.agg #[.int .i64 r1, .int .i64 r2, .int .i64 r3, .int .i64 r4, .int .i64 r5]) ∧ Below w.heap.size w w' := by
 have h1 := Option.some.inj h
 simp only [specF, Prod.mk.injEq] at h1
 obtain ⟨rfl, rfl, rfl, rfl, rfl⟩ := h1
 exact spec_go _ _ _ _ _ w
theorem spec_right (x y z : Int) (a b : Bool) : rightB (specS a) (1 + x % specS a) (specB b) (1 + y % specB b) (z % 32768) = true := by
 have e1 : sizeB (specS a) = true := by cases a <;> decide
 have e2 : mayB (specB b).toNat = true := by cases b <;> decide
 have p1 : 1 ≤ specS a := by cases a <;> decide
 have p2 : 1 ≤ specB b := by cases b <;> decide
 have h1 := Int.emod_nonneg x (show specS a ≠ 0 by omega)
 have h2 := Int.emod_lt_of_pos x (show 0 < specS a by omega)
 have h3 := Int.emod_nonneg y (show specB b ≠ 0 by omega)
 have h4 := Int.emod_lt_of_pos y (show 0 < specB b by omega)
 have h5 := Int.emod_nonneg z (show (32768 : Int) ≠ 0 by decide)
 have h6 := Int.emod_lt_of_pos z (show (0 : Int) < 32768 by decide)
 simp only [rightB, Bool.and_eq_true, decide_eq_true_eq]
 exact ⟨⟨⟨⟨⟨⟨⟨e1, by omega⟩, by omega⟩, e2⟩, by omega⟩, by omega⟩, by omega⟩, by omega⟩
def earshotlaw13_sound.l0 : Nat → List Int → List Int → Int → Option (List Int)
 | 0, _, _, _ => none
 | k + 1, x0, x3, x4 => if x4 < (x0.length : Int) then (if x4 < 90 then (if 0 ≤ x4 then (if x3.length < 17592186044416 then (earshotlaw13_sound.l0 k x0 (x3 ++ [wrap64 (IntKind.i16.wrap (rd x0 x4))]) (wrap64 (x4 + 1))) else (none)) else (none)) else (some x3)) else (some x3)
def earshotlaw13_sound.f (k : Nat) (l0 : List Int) : Option (List Int) := earshotlaw13_sound.l0 k l0 ([] : List Int) 0
set_option maxHeartbeats 8000000 in
set_option maxRecDepth 100000 in
theorem earshotlaw13_sound.calls (k : Nat) (A0 : Option Addr) (c0 : Nat) (l0 : List Int) (r : List Int) (w : World) (hr0 : Kd.C (Kd.int .i64) w A0 l0.length l0) (hc0 : l0.length ≤ c0) (h : earshotlaw13_sound.f k l0 = some r) :
  Calls Tryd.prog 28 #[.slice A0 l0.length c0] w fun e w' => ∃ v0_ : Value, e = .returned (v0_) ∧ Kd.R (Kd.int .i64) 3 w' w.heap.size (fun _ => True) v0_ r ∧ Below w.heap.size w w' := by
 have HR0 := Aside0.mk hr0
 have HC0 := Aside0.mk hc0
 clear hr0 hc0
 have HB := Aside0.mk (Below.refl w.heap.size w)
 have H : (earshotlaw13_sound.l0 k l0 ([] : List Int) 0) = some r := h
 clear h
 have H' := Aside0.mk H
 clear H
 go_enter Tryd.func28, Tryd.ntmps28
 go_wp2
 go_loopg [3, 4] k (fun kq v3 v4 w' => ∃ (x3_1 : List Int) (x4_1 : Int), v4 = .int .i64 x4_1 ∧ Aside0 (earshotlaw13_sound.l0 kq l0 x3_1 x4_1 = some r) ∧ Aside0 (kq ≤ k) ∧ Aside0 (Kd.R (Kd.int .i64) 3 w' w.heap.size (fun _ => True) v3 x3_1) ∧ Aside0 (Below w.heap.size w w'))
 case atStart => exact ⟨(([] : List Int)), (0), (by first | rfl | (simp; done) | (simp [*]; done)), H', ⟨Nat.le_refl _⟩, ⟨by first | exact Kd.R_nil _ _ _ _ _ | exact Kd.N_nil _ _ _ _ _ | exact Kd.V_nil _ _ _ _ _ | exact Kd.Q_nil _ _ _ _ _ | exact Kd.S_nil _ _ _ _ _⟩, ⟨by repeat (first | (with_reducible first | exact HB.out | apply below_alloc | apply pw_below_drewN | apply below_drew1) | exact HB.out)⟩⟩
 case round =>
  clear H'
  obtain ⟨x3_1, x4_1, rfl, HA, HK1, HO_3, HB⟩ := hrel
  cases gk with
  | zero => exact absurd HA.out (by simp [earshotlaw13_sound.l0])
  | succ k1 =>
    have H := HA.out
    clear HA
    simp only [earshotlaw13_sound.l0] at H
    by_cases c2 : x4_1 < (l0.length : Int)
    ·
     rw [if_pos c2] at H
     have c2b0 : decide (x4_1 < (l0.length : Int)) = true := decide_eq_true c2
     clear c2
     by_cases c3 : x4_1 < 90
     ·
      rw [if_pos c3] at H
      have c3b0 : decide (x4_1 < 90) = true := decide_eq_true c3
      clear c3
      by_cases c4 : 0 ≤ x4_1
      ·
       rw [if_pos c4] at H
       have c4b0 : decide (0 ≤ x4_1) = true := decide_eq_true c4
       clear c4
       by_cases c5 : x3_1.length < 17592186044416
       ·
        rw [if_pos c5] at H
        have LMc5 := Aside0.mk c5
        clear c5
        obtain ⟨y121, hy121⟩ : ∃ y_ : List Int, y_ = (x3_1 ++ [wrap64 (IntKind.i16.wrap (rd l0 x4_1))]) := ⟨_, rfl⟩
        replace H : (earshotlaw13_sound.l0 k1 l0 y121 (wrap64 (x4_1 + 1))) = some r := by first | (rw [hy121]; with_reducible exact H) | (have H2_ := (Option.bind_some _ _).symm.trans H; rw [hy121]; with_reducible exact H2_) | (have H2_ := (Option.bind_some _ _).symm.trans H; with_reducible exact H2_) | with_reducible exact H | (rw [hy121]; exact H) | exact H
        have Ny121 := Aside0.mk hy121
        clear hy121
        have H' := Aside0.mk H
        clear H
        have p120 : 0 ≤ (x4_1 : Int) := of_decide_eq_true (by first | (with_reducible assumption) | assumption)
        have q120 : x4_1 < (l0.length : Int) := of_decide_eq_true (by first | (with_reducible assumption) | assumption)
        obtain ⟨ad120, e120, hx120_0⟩ := Kd.at_int HR0.out x4_1 p120 q120
        cases e120
        replace hx120_0 := (HB.out.cell (World.block_lt_of_cell? w _ hx120_0)).trans hx120_0
        replace p120 := eq_true p120
        replace q120 := eq_true q120
        go_wp2_with (first | ((with_reducible refine gate_builtin (b := .append) (xs := #[.tmp 15, .tmp 22]) rfl ?_); at_builtin; refine Kd.R_append (Kd.int .i64) (w0 := w) w.heap.size rfl (.tmp 15) (.tmp 22) 22 3 (.int .i64 0) 8 rfl Tryd.underlying22 info3 rfl (by decide) (by omega) u3 x3_1 (wrap64 (IntKind.i16.wrap (rd l0 x4_1))) [.int .i64 (wrap64 (IntKind.i16.wrap (rd l0 x4_1)))] (fun _ => True) (fun _ => False) rfl rfl ?aP (fun _ hk => hk.elim) ?aF ?aO ?aB ?aS ?aL ?_; (case aP => exact rfl); (case aB => exact (by repeat (first | (with_reducible first | exact HB.out | apply below_alloc | apply pw_below_drewN | apply below_drew1) | exact HB.out))); (case aF => exact (fun _ _ => trivial)); (case aO => exact (by (with_reducible repeat (first | apply Kd.R_alloc | apply Kd.R_drewN | apply Kd.R_drew)); (first | exact HO_3.out | exact Kd.R_mono HO_3.out (fun _ _ => trivial) | exact Kd.R_mono HO_3.out (fun _ hk => hk.1)))); (case aS => exact (below_size (by repeat (first | (with_reducible first | exact HB.out | apply below_alloc | apply pw_below_drewN | apply below_drew1) | exact HB.out)))); (case aL => have := LMc5.out; omega); intro v122 w6 ho hb hg hat; rw [← Ny121.out] at ho; have n0_ := Aside0.mk (hb); have n1_ := Aside0.mk (ho); clear HB; clear HO_3; have HB := n0_; have HO123 := n1_; clear n0_ n1_; clear ho hb hg hat))
        go_roundg k1
        case measure => have := HK1.out; omega
        case rel => exact ⟨(y121), (wrap64 (x4_1 + 1)), (by first | rfl | (simp; done) | (simp [*]; done)), H', ⟨by have := HK1.out; omega⟩, ⟨by (with_reducible repeat (first | apply Kd.R_alloc | apply Kd.R_drewN | apply Kd.R_drew)); exact HO123.out⟩, ⟨by repeat (first | (with_reducible first | exact HB.out | apply below_alloc | apply pw_below_drewN | apply below_drew1) | exact HB.out)⟩⟩
       ·
        rw [if_neg c5] at H
        exact absurd H (by simp)
      ·
       rw [if_neg c4] at H
       exact absurd H (by simp)
     ·
      rw [if_neg c3] at H
      have c3b0 : decide (x4_1 < 90) = false := decide_eq_false c3
      clear c3
      obtain rfl := Option.some.inj H
      go_wp2
      go_ret
      exact ⟨_, by first | rfl | (simp [errW_none, errW_some] <;> rfl) | (simp [*, errW_none, errW_some] <;> rfl), by (with_reducible repeat (first | apply Kd.R_alloc | apply Kd.R_drewN | apply Kd.R_drew)); exact HO_3.out, by repeat (first | (with_reducible first | exact HB.out | apply below_alloc | apply pw_below_drewN | apply below_drew1) | exact HB.out)⟩
    ·
     rw [if_neg c2] at H
     have c2b0 : decide (x4_1 < (l0.length : Int)) = false := decide_eq_false c2
     clear c2
     obtain rfl := Option.some.inj H
     go_wp2
     go_ret
     exact ⟨_, by first | rfl | (simp [errW_none, errW_some] <;> rfl) | (simp [*, errW_none, errW_some] <;> rfl), by (with_reducible repeat (first | apply Kd.R_alloc | apply Kd.R_drewN | apply Kd.R_drew)); exact HO_3.out, by repeat (first | (with_reducible first | exact HB.out | apply below_alloc | apply pw_below_drewN | apply below_drew1) | exact HB.out)⟩
def earshotref03_Bits.l0 : Nat → Int → Int → Option (Int)
 | 0, _, _ => none
 | k + 1, x0, x3 => if x0 > 0 then (earshotref03_Bits.l0 k (IntKind.u64.wrap (Int.tdiv x0 2)) (wrap64 (x3 + 1))) else (some x3)
def earshotref03_Bits.f (k : Nat) (a0 : Int) : Option (Int) := earshotref03_Bits.l0 k a0 0
theorem earshotref03_Bits.mono_l : ∀ k, (∀ y0 y1, LeO (earshotref03_Bits.l0 k y0 y1) (earshotref03_Bits.l0 (k + 1) y0 y1))
 | 0 => fun _ _ r h => by simp [earshotref03_Bits.l0] at h
 | k + 1 => by
   have ih0 := earshotref03_Bits.mono_l k
   ·
    intro y0 y1
    unfold earshotref03_Bits.l0
    repeat' first
    | (with_reducible exact ih0 _ _)
    | (with_reducible exact LeO.refl _)
    | (with_reducible exact LeO.none _)
    | (with_reducible refine LeO.ite ?_ ?_)
    | (with_reducible refine LeO.bind ?_ (fun _ => ?_))
    | exact ih0 _ _
    | exact LeO.none _
    | refine LeO.ite ?_ ?_
    | refine LeO.bind ?_ (fun _ => ?_)
theorem earshotref03_Bits.mono : ∀ a0 k, LeO (earshotref03_Bits.f k a0) (earshotref03_Bits.f (k + 1) a0) := by
 intro a0 k
 have ih0 := earshotref03_Bits.mono_l k
 unfold earshotref03_Bits.f
 repeat' first
   | (with_reducible exact ih0 _ _)
   | (with_reducible exact LeO.refl _)
   | (with_reducible exact LeO.none _)
   | (with_reducible refine LeO.ite ?_ ?_)
   | (with_reducible refine LeO.bind ?_ (fun _ => ?_))
   | exact ih0 _ _
   | exact LeO.none _
   | refine LeO.ite ?_ ?_
   | refine LeO.bind ?_ (fun _ => ?_)
set_option maxHeartbeats 8000000 in
set_option maxRecDepth 100000 in
theorem earshotref03_Bits.calls (k : Nat) (a0 : Int) (r : Int) (w : World) (h : earshotref03_Bits.f k a0 = some r) :
  Calls Tryd.prog 70 #[.int .u64 a0] w fun e w' => e = .returned (.int .i64 r) ∧ Drawn0 w w' := by
 have H : (earshotref03_Bits.l0 k a0 0) = some r := h
 clear h
 have H' := Aside0.mk H
 clear H
 go_enter Tryd.func70, Tryd.ntmps70
 go_wp2
 go_loopg [0, 3] k (fun kq v0 v3 w' => ∃ (x0_1 : Int) (x3_1 : Int), v0 = .int .u64 x0_1 ∧ v3 = .int .i64 x3_1 ∧ Aside0 (earshotref03_Bits.l0 kq x0_1 x3_1 = some r) ∧ Aside0 (kq ≤ k) ∧ Drawn0 w w')
 case atStart => exact ⟨(a0), (0), (by first | rfl | (simp; done) | (simp [*]; done)), (by first | rfl | (simp; done) | (simp [*]; done)), H', ⟨Nat.le_refl _⟩, by repeat (first | exact Drawn0.refl _ | apply Drawn0.step)⟩
 case round =>
  clear H'
  obtain ⟨x0_1, x3_1, rfl, rfl, HA, HK1, ⟨m1, rfl⟩⟩ := hrel
  cases gk with
  | zero => exact absurd HA.out (by simp [earshotref03_Bits.l0])
  | succ k1 =>
    have H := HA.out
    clear HA
    simp only [earshotref03_Bits.l0] at H
    by_cases c2 : x0_1 > 0
    ·
     rw [if_pos c2] at H
     have c2b0 : decide (0 < x0_1) = true := decide_eq_true c2
     clear c2
     have H' := Aside0.mk H
     clear H
     go_wp2
     go_roundg k1
     case measure => have := HK1.out; omega
     case rel => exact ⟨(IntKind.u64.wrap (Int.tdiv x0_1 2)), (wrap64 (x3_1 + 1)), (by first | rfl | (simp; done) | (simp [*]; done)), (by first | rfl | (simp; done) | (simp [*]; done)), H', ⟨by have := HK1.out; omega⟩, by repeat (first | exact Drawn0.refl _ | apply Drawn0.step)⟩
    ·
     rw [if_neg c2] at H
     have c2b0 : decide (0 < x0_1) = false := decide_eq_false c2
     clear c2
     obtain rfl := Option.some.inj H
     go_wp2
     go_ret
     exact ⟨by first | rfl | (simp; done) | (simp [*]; done), by repeat (first | exact Drawn0.refl _ | apply Drawn0.step)⟩
mutual
def earshotref03_Log.l0 : Nat → Int → Int → Option (Int)
 | 0, _, _ => none
 | k + 1, x3, x4 => if x4 < 2147483648 then (earshotref03_Log.l0 k x3 (IntKind.u64.wrap (x4 * 2))) else (earshotref03_Log.l1 k x3 x4)
def earshotref03_Log.l1 : Nat → Int → Int → Option (Int)
 | 0, _, _ => none
 | k + 1, x3, x4 => if x4 ≥ 4294967296 then (earshotref03_Log.l1 k x3 (IntKind.u64.wrap (Int.tdiv x4 2))) else (earshotref03_Log.l2 k x3 x4 0 0)
def earshotref03_Log.l2 : Nat → Int → Int → Int → Int → Option (Int)
 | 0, _, _, _, _ => none
 | k + 1, x3, x4, x5, x6 => if x6 < 8 then (if (IntKind.u64.wrap (Int.tdiv (IntKind.u64.wrap (x4 * x4)) 2147483648)) ≥ 4294967296 then (earshotref03_Log.l2 k x3 (IntKind.u64.wrap (Int.tdiv (IntKind.u64.wrap (Int.tdiv (IntKind.u64.wrap (x4 * x4)) 2147483648)) 2)) (wrap64 ((wrap64 (x5 * 2)) + 1)) (wrap64 (x6 + 1))) else (earshotref03_Log.l2 k x3 (IntKind.u64.wrap (Int.tdiv (IntKind.u64.wrap (x4 * x4)) 2147483648)) (wrap64 (x5 * 2)) (wrap64 (x6 + 1)))) else (some (wrap64 ((wrap64 (256 * x3)) + x5)))
end
def earshotref03_Log.f (k : Nat) (a0 : Int) : Option (Int) := if a0 = 0 then (some 0) else ((earshotref03_Bits.f k a0).bind fun t124 => (earshotref03_Log.l0 k (wrap64 (t124 - 1)) a0))
theorem earshotref03_Log.mono_l : ∀ k, (∀ y0 y1, LeO (earshotref03_Log.l0 k y0 y1) (earshotref03_Log.l0 (k + 1) y0 y1)) ∧ (∀ y0 y1, LeO (earshotref03_Log.l1 k y0 y1) (earshotref03_Log.l1 (k + 1) y0 y1)) ∧ (∀ y0 y1 y2 y3, LeO (earshotref03_Log.l2 k y0 y1 y2 y3) (earshotref03_Log.l2 (k + 1) y0 y1 y2 y3))
 | 0 => ⟨fun _ _ r h => by simp [earshotref03_Log.l0] at h, fun _ _ r h => by simp [earshotref03_Log.l1] at h, fun _ _ _ _ r h => by simp [earshotref03_Log.l2] at h⟩
 | k + 1 => by
   obtain ⟨ih0, ih1, ih2⟩ := earshotref03_Log.mono_l k
   refine ⟨?_, ?_, ?_⟩
   ·
    intro y0 y1
    unfold earshotref03_Log.l0
    repeat' first
    | (with_reducible exact ih0 _ _)
    | (with_reducible exact ih1 _ _)
    | (with_reducible exact ih2 _ _ _ _)
    | (with_reducible exact earshotref03_Bits.mono _ _)
    | (with_reducible exact LeO.refl _)
    | (with_reducible exact LeO.none _)
    | (with_reducible refine LeO.ite ?_ ?_)
    | (with_reducible refine LeO.bind ?_ (fun _ => ?_))
    | exact ih0 _ _
    | exact ih1 _ _
    | exact ih2 _ _ _ _
    | exact earshotref03_Bits.mono _ _
    | exact LeO.none _
    | refine LeO.ite ?_ ?_
    | refine LeO.bind ?_ (fun _ => ?_)
   ·
    intro y0 y1
    unfold earshotref03_Log.l1
    repeat' first
    | (with_reducible exact ih0 _ _)
    | (with_reducible exact ih1 _ _)
    | (with_reducible exact ih2 _ _ _ _)
    | (with_reducible exact earshotref03_Bits.mono _ _)
    | (with_reducible exact LeO.refl _)
    | (with_reducible exact LeO.none _)
    | (with_reducible refine LeO.ite ?_ ?_)
    | (with_reducible refine LeO.bind ?_ (fun _ => ?_))
    | exact ih0 _ _
    | exact ih1 _ _
    | exact ih2 _ _ _ _
    | exact earshotref03_Bits.mono _ _
    | exact LeO.none _
    | refine LeO.ite ?_ ?_
    | refine LeO.bind ?_ (fun _ => ?_)
   ·
    intro y0 y1 y2 y3
    unfold earshotref03_Log.l2
    repeat' first
    | (with_reducible exact ih0 _ _)
    | (with_reducible exact ih1 _ _)
    | (with_reducible exact ih2 _ _ _ _)
    | (with_reducible exact earshotref03_Bits.mono _ _)
    | (with_reducible exact LeO.refl _)
    | (with_reducible exact LeO.none _)
    | (with_reducible refine LeO.ite ?_ ?_)
    | (with_reducible refine LeO.bind ?_ (fun _ => ?_))
    | exact ih0 _ _
    | exact ih1 _ _
    | exact ih2 _ _ _ _
    | exact earshotref03_Bits.mono _ _
    | exact LeO.none _
    | refine LeO.ite ?_ ?_
    | refine LeO.bind ?_ (fun _ => ?_)
theorem earshotref03_Log.mono : ∀ a0 k, LeO (earshotref03_Log.f k a0) (earshotref03_Log.f (k + 1) a0) := by
 intro a0 k
 obtain ⟨ih0, ih1, ih2⟩ := earshotref03_Log.mono_l k
 unfold earshotref03_Log.f
 repeat' first
   | (with_reducible exact ih0 _ _)
   | (with_reducible exact ih1 _ _)
   | (with_reducible exact ih2 _ _ _ _)
   | (with_reducible exact earshotref03_Bits.mono _ _)
   | (with_reducible exact LeO.refl _)
   | (with_reducible exact LeO.none _)
   | (with_reducible refine LeO.ite ?_ ?_)
   | (with_reducible refine LeO.bind ?_ (fun _ => ?_))
   | exact ih0 _ _
   | exact ih1 _ _
   | exact ih2 _ _ _ _
   | exact earshotref03_Bits.mono _ _
   | exact LeO.none _
   | refine LeO.ite ?_ ?_
   | refine LeO.bind ?_ (fun _ => ?_)
set_option maxHeartbeats 8000000 in
set_option maxRecDepth 100000 in
theorem earshotref03_Log.calls (k : Nat) (a0 : Int) (r : Int) (w : World) (h : earshotref03_Log.f k a0 = some r) :
  Calls Tryd.prog 41 #[.int .u64 a0] w fun e w' => e = .returned (.int .i64 r) ∧ Drawn0 w w' := by
 have H : (if a0 = 0 then (some 0) else ((earshotref03_Bits.f k a0).bind fun t124 => (earshotref03_Log.l0 k (wrap64 (t124 - 1)) a0))) = some r := h
 clear h
 by_cases c2 : a0 = 0
 ·
  rw [if_pos c2] at H
  have c2b0 : (a0 == 0) = true := beq_iff_eq.mpr c2
  have c2b1 : (a0 != 0) = false := bne_eq_false_iff_eq.mpr c2
  clear c2
  obtain rfl := Option.some.inj H
  go_enter Tryd.func41, Tryd.ntmps41
  go_wp2
  go_ret
  exact ⟨by first | rfl | (simp; done) | (simp [*]; done), by repeat (first | exact Drawn0.refl _ | apply Drawn0.step)⟩
 ·
  rw [if_neg c2] at H
  have c2b0 : (a0 == 0) = false := beq_eq_false_iff_ne.mpr c2
  have c2b1 : (a0 != 0) = true := bne_iff_ne.mpr c2
  replace H := Option.bind_eq_some_iff.mp H
  obtain ⟨t124, A30, H⟩ := H
  replace H : (earshotref03_Log.l0 k (wrap64 (t124 - 1)) a0) = some r := H
  have A3 := Aside0.mk A30
  clear A30
  have H' := Aside0.mk H
  clear H
  go_enter Tryd.func41, Tryd.ntmps41
  go_wp2_with (first | ((with_reducible refine gate_callee (f := 70) rfl ?_); refine goesL_ (some 10) rfl rfl Tryd.func70 (by kernel_rfl) rfl #[.int .u64 a0] rfl (by (try simp only [List.map_toArray, List.map_cons, List.map_nil]); first | done | rfl | (simp only [List.length_drop, List.length_take]; rfl)) ?_; (with_reducible refine (earshotref03_Bits.calls k a0 t124 _ A3.out).mono ?_); rintro e w' ⟨rfl, ⟨nd, rfl⟩⟩; refine ⟨_, rfl, ?_⟩))
  go_loopg [4] k (fun kq v4 w' => ∃ (x4_1 : Int), v4 = .int .u64 x4_1 ∧ Aside0 (earshotref03_Log.l0 kq (wrap64 (t124 - 1)) x4_1 = some r) ∧ Aside0 (kq ≤ k) ∧ Drawn0 w w')
  case atStart => exact ⟨(a0), (by first | rfl | (simp; done) | (simp [*]; done)), H', ⟨Nat.le_refl _⟩, by repeat (first | exact Drawn0.refl _ | apply Drawn0.step)⟩
  case round =>
   clear H'
   try clear c2
   try clear c2b0
   try clear c2b1
   try clear p2
   obtain ⟨x4_1, rfl, HA, HK1, ⟨m1, rfl⟩⟩ := hrel
   cases gk with
   | zero => exact absurd HA.out (by simp [earshotref03_Log.l0])
   | succ k1 =>
     have H := HA.out
     clear HA
     simp only [earshotref03_Log.l0] at H
     by_cases c4 : x4_1 < 2147483648
     ·
      rw [if_pos c4] at H
      have c4b0 : decide (x4_1 < 2147483648) = true := decide_eq_true c4
      clear c4
      have H' := Aside0.mk H
      clear H
      go_wp2
      go_roundg k1
      case measure => have := HK1.out; omega
      case rel => exact ⟨(IntKind.u64.wrap (x4_1 * 2)), (by first | rfl | (simp; done) | (simp [*]; done)), H', ⟨by have := HK1.out; omega⟩, by repeat (first | exact Drawn0.refl _ | apply Drawn0.step)⟩
     ·
      rw [if_neg c4] at H
      have c4b0 : decide (x4_1 < 2147483648) = false := decide_eq_false c4
      clear c4
      have H' := Aside0.mk H
      clear H
      go_wp2
      go_loopg [4] k1 (fun kq v4 w' => ∃ (x4_2 : Int), v4 = .int .u64 x4_2 ∧ Aside0 (earshotref03_Log.l1 kq (wrap64 (t124 - 1)) x4_2 = some r) ∧ Aside0 (kq ≤ k1) ∧ Drawn0 w w')
      case atStart => exact ⟨(x4_1), (by first | rfl | (simp; done) | (simp [*]; done)), H', ⟨Nat.le_refl _⟩, by repeat (first | exact Drawn0.refl _ | apply Drawn0.step)⟩
      case round =>
       clear H'
       try clear c2
       try clear c2b0
       try clear c2b1
       try clear p2
       try clear c4
       try clear c4b0
       try clear p2
       obtain ⟨x4_2, rfl, HA, HK2, ⟨m2, rfl⟩⟩ := hrel
       cases gk with
       | zero => exact absurd HA.out (by simp [earshotref03_Log.l1])
       | succ k2 =>
         have H := HA.out
         clear HA
         simp only [earshotref03_Log.l1] at H
         by_cases c5 : x4_2 ≥ 4294967296
         ·
          rw [if_pos c5] at H
          have c5b0 : decide (4294967296 ≤ x4_2) = true := decide_eq_true c5
          clear c5
          have H' := Aside0.mk H
          clear H
          go_wp2
          go_roundg k2
          case measure => have := HK1.out; have := HK2.out; omega
          case rel => exact ⟨(IntKind.u64.wrap (Int.tdiv x4_2 2)), (by first | rfl | (simp; done) | (simp [*]; done)), H', ⟨by have := HK1.out; have := HK2.out; omega⟩, by repeat (first | exact Drawn0.refl _ | apply Drawn0.step)⟩
         ·
          rw [if_neg c5] at H
          have c5b0 : decide (4294967296 ≤ x4_2) = false := decide_eq_false c5
          clear c5
          have H' := Aside0.mk H
          clear H
          go_wp2
          go_loopg [4, 5, 6] k2 (fun kq v4 v5 v6 w' => ∃ (x4_3 : Int) (x5_3 : Int) (x6_3 : Int), v4 = .int .u64 x4_3 ∧ v5 = .int .i64 x5_3 ∧ v6 = .int .i64 x6_3 ∧ Aside0 (earshotref03_Log.l2 kq (wrap64 (t124 - 1)) x4_3 x5_3 x6_3 = some r) ∧ Aside0 (kq ≤ k2) ∧ Drawn0 w w')
          case atStart => exact ⟨(x4_2), (0), (0), (by first | rfl | (simp; done) | (simp [*]; done)), (by first | rfl | (simp; done) | (simp [*]; done)), (by first | rfl | (simp; done) | (simp [*]; done)), H', ⟨Nat.le_refl _⟩, by repeat (first | exact Drawn0.refl _ | apply Drawn0.step)⟩
          case round =>
           clear H'
           try clear c2
           try clear c2b0
           try clear c2b1
           try clear p2
           try clear c4
           try clear c4b0
           try clear c5
           try clear c5b0
           try clear p2
           obtain ⟨x4_3, x5_3, x6_3, rfl, rfl, rfl, HA, HK3, ⟨m3, rfl⟩⟩ := hrel
           cases gk with
           | zero => exact absurd HA.out (by simp [earshotref03_Log.l2])
           | succ k3 =>
             have H := HA.out
             clear HA
             simp only [earshotref03_Log.l2] at H
             by_cases c6 : x6_3 < 8
             ·
              rw [if_pos c6] at H
              have c6b0 : decide (x6_3 < 8) = true := decide_eq_true c6
              clear c6
              by_cases c7 : (IntKind.u64.wrap (Int.tdiv (IntKind.u64.wrap (x4_3 * x4_3)) 2147483648)) ≥ 4294967296
              ·
               rw [if_pos c7] at H
               have c7b0 : decide (4294967296 ≤ (IntKind.u64.wrap (Int.tdiv (IntKind.u64.wrap (x4_3 * x4_3)) 2147483648))) = true := decide_eq_true c7
               clear c7
               have H' := Aside0.mk H
               clear H
               go_wp2
               go_roundg k3
               case measure => have := HK1.out; have := HK2.out; have := HK3.out; omega
               case rel => exact ⟨(IntKind.u64.wrap (Int.tdiv (IntKind.u64.wrap (Int.tdiv (IntKind.u64.wrap (x4_3 * x4_3)) 2147483648)) 2)), (wrap64 ((wrap64 (x5_3 * 2)) + 1)), (wrap64 (x6_3 + 1)), (by first | rfl | (simp; done) | (simp [*]; done)), (by first | rfl | (simp; done) | (simp [*]; done)), (by first | rfl | (simp; done) | (simp [*]; done)), H', ⟨by have := HK1.out; have := HK2.out; have := HK3.out; omega⟩, by repeat (first | exact Drawn0.refl _ | apply Drawn0.step)⟩
              ·
               rw [if_neg c7] at H
               have c7b0 : decide (4294967296 ≤ (IntKind.u64.wrap (Int.tdiv (IntKind.u64.wrap (x4_3 * x4_3)) 2147483648))) = false := decide_eq_false c7
               clear c7
               have H' := Aside0.mk H
               clear H
               go_wp2
               go_roundg k3
               case measure => have := HK1.out; have := HK2.out; have := HK3.out; omega
               case rel => exact ⟨(IntKind.u64.wrap (Int.tdiv (IntKind.u64.wrap (x4_3 * x4_3)) 2147483648)), (wrap64 (x5_3 * 2)), (wrap64 (x6_3 + 1)), (by first | rfl | (simp; done) | (simp [*]; done)), (by first | rfl | (simp; done) | (simp [*]; done)), (by first | rfl | (simp; done) | (simp [*]; done)), H', ⟨by have := HK1.out; have := HK2.out; have := HK3.out; omega⟩, by repeat (first | exact Drawn0.refl _ | apply Drawn0.step)⟩
             ·
              rw [if_neg c6] at H
              have c6b0 : decide (x6_3 < 8) = false := decide_eq_false c6
              clear c6
              obtain rfl := Option.some.inj H
              go_wp2
              go_ret
              exact ⟨by first | rfl | (simp; done) | (simp [*]; done), by repeat (first | exact Drawn0.refl _ | apply Drawn0.step)⟩
def earshotref12_Logs.l0 : Nat → List Int → List Int → Int → Option (List Int)
 | 0, _, _, _ => none
 | k + 1, x0, x3, x4 => if x4 < (x0.length : Int) then (if 0 ≤ x4 then (if (rd x0 x4) > 0 then ((earshotref03_Log.f k (IntKind.u64.wrap ((IntKind.u64.wrap (rd x0 x4)) + 1))).bind fun t127 => (if x3.length < 17592186044416 then (earshotref12_Logs.l0 k x0 (x3 ++ [t127]) (wrap64 (x4 + 1))) else (none))) else ((earshotref03_Log.f k 1).bind fun t131 => (if x3.length < 17592186044416 then (earshotref12_Logs.l0 k x0 (x3 ++ [t131]) (wrap64 (x4 + 1))) else (none)))) else (none)) else (some x3)
def earshotref12_Logs.f (k : Nat) (l0 : List Int) : Option (List Int) := earshotref12_Logs.l0 k l0 ([] : List Int) 0
theorem earshotref12_Logs.mono_l : ∀ k, (∀ y0 y1 y2, LeO (earshotref12_Logs.l0 k y0 y1 y2) (earshotref12_Logs.l0 (k + 1) y0 y1 y2))
 | 0 => fun _ _ _ r h => by simp [earshotref12_Logs.l0] at h
 | k + 1 => by
   have ih0 := earshotref12_Logs.mono_l k
   ·
    intro y0 y1 y2
    unfold earshotref12_Logs.l0
    repeat' first
    | (with_reducible exact ih0 _ _ _)
    | (with_reducible exact earshotref03_Log.mono _ _)
    | (with_reducible exact LeO.refl _)
    | (with_reducible exact LeO.none _)
    | (with_reducible refine LeO.ite ?_ ?_)
    | (with_reducible refine LeO.bind ?_ (fun _ => ?_))
    | exact ih0 _ _ _
    | exact earshotref03_Log.mono _ _
    | exact LeO.none _
    | refine LeO.ite ?_ ?_
    | refine LeO.bind ?_ (fun _ => ?_)
theorem earshotref12_Logs.mono : ∀ a0 k, LeO (earshotref12_Logs.f k a0) (earshotref12_Logs.f (k + 1) a0) := by
 intro a0 k
 have ih0 := earshotref12_Logs.mono_l k
 unfold earshotref12_Logs.f
 repeat' first
   | (with_reducible exact ih0 _ _ _)
   | (with_reducible exact earshotref03_Log.mono _ _)
   | (with_reducible exact LeO.refl _)
   | (with_reducible exact LeO.none _)
   | (with_reducible refine LeO.ite ?_ ?_)
   | (with_reducible refine LeO.bind ?_ (fun _ => ?_))
   | exact ih0 _ _ _
   | exact earshotref03_Log.mono _ _
   | exact LeO.none _
   | refine LeO.ite ?_ ?_
   | refine LeO.bind ?_ (fun _ => ?_)
set_option maxHeartbeats 8000000 in
set_option maxRecDepth 100000 in
theorem earshotref12_Logs.calls (k : Nat) (A0 : Option Addr) (c0 : Nat) (l0 : List Int) (r : List Int) (w : World) (hr0 : Kd.C (Kd.int .i64) w A0 l0.length l0) (hc0 : l0.length ≤ c0) (h : earshotref12_Logs.f k l0 = some r) :
  Calls Tryd.prog 18 #[.slice A0 l0.length c0] w fun e w' => ∃ v0_ : Value, e = .returned (v0_) ∧ Kd.R (Kd.int .i64) 3 w' w.heap.size (fun _ => True) v0_ r ∧ Below w.heap.size w w' := by
 have HR0 := Aside0.mk hr0
 have HC0 := Aside0.mk hc0
 clear hr0 hc0
 have HB := Aside0.mk (Below.refl w.heap.size w)
 have H : (earshotref12_Logs.l0 k l0 ([] : List Int) 0) = some r := h
 clear h
 have H' := Aside0.mk H
 clear H
 go_enter Tryd.func18, Tryd.ntmps18
 go_wp2
 go_loopg [3, 4] k (fun kq v3 v4 w' => ∃ (x3_1 : List Int) (x4_1 : Int), v4 = .int .i64 x4_1 ∧ Aside0 (earshotref12_Logs.l0 kq l0 x3_1 x4_1 = some r) ∧ Aside0 (kq ≤ k) ∧ Aside0 (Kd.R (Kd.int .i64) 3 w' w.heap.size (fun _ => True) v3 x3_1) ∧ Aside0 (Below w.heap.size w w'))
 case atStart => exact ⟨(([] : List Int)), (0), (by first | rfl | (simp; done) | (simp [*]; done)), H', ⟨Nat.le_refl _⟩, ⟨by first | exact Kd.R_nil _ _ _ _ _ | exact Kd.N_nil _ _ _ _ _ | exact Kd.V_nil _ _ _ _ _ | exact Kd.Q_nil _ _ _ _ _ | exact Kd.S_nil _ _ _ _ _⟩, ⟨by repeat (first | (with_reducible first | exact HB.out | apply below_alloc | apply pw_below_drewN | apply below_drew1) | exact HB.out)⟩⟩
 case round =>
  clear H'
  try clear c1
  obtain ⟨x3_1, x4_1, rfl, HA, HK1, HO_3, HB⟩ := hrel
  cases gk with
  | zero => exact absurd HA.out (by simp [earshotref12_Logs.l0])
  | succ k1 =>
    have H := HA.out
    clear HA
    simp only [earshotref12_Logs.l0] at H
    by_cases c2 : x4_1 < (l0.length : Int)
    ·
     rw [if_pos c2] at H
     have c2b0 : decide (x4_1 < (l0.length : Int)) = true := decide_eq_true c2
     clear c2
     by_cases c3 : 0 ≤ x4_1
     ·
      rw [if_pos c3] at H
      have c3b0 : decide (0 ≤ x4_1) = true := decide_eq_true c3
      clear c3
      by_cases c4 : (rd l0 x4_1) > 0
      ·
       rw [if_pos c4] at H
       have c4b0 : decide (0 < (rd l0 x4_1)) = true := decide_eq_true c4
       clear c4
       replace H := Option.bind_eq_some_iff.mp H
       obtain ⟨t127, A50, H⟩ := H
       replace H : (if x3_1.length < 17592186044416 then (earshotref12_Logs.l0 k1 l0 (x3_1 ++ [t127]) (wrap64 (x4_1 + 1))) else (none)) = some r := H
       have A5 := Aside0.mk A50
       clear A50
       by_cases c6 : x3_1.length < 17592186044416
       ·
        rw [if_pos c6] at H
        have LMc6 := Aside0.mk c6
        clear c6
        obtain ⟨y128, hy128⟩ : ∃ y_ : List Int, y_ = (x3_1 ++ [t127]) := ⟨_, rfl⟩
        replace H : (earshotref12_Logs.l0 k1 l0 y128 (wrap64 (x4_1 + 1))) = some r := by first | (rw [hy128]; with_reducible exact H) | (have H2_ := (Option.bind_some _ _).symm.trans H; rw [hy128]; with_reducible exact H2_) | (have H2_ := (Option.bind_some _ _).symm.trans H; with_reducible exact H2_) | with_reducible exact H | (rw [hy128]; exact H) | exact H
        have Ny128 := Aside0.mk hy128
        clear hy128
        have H' := Aside0.mk H
        clear H
        have p125 : 0 ≤ (x4_1 : Int) := of_decide_eq_true (by first | (with_reducible assumption) | assumption)
        have q125 : x4_1 < (l0.length : Int) := of_decide_eq_true (by first | (with_reducible assumption) | assumption)
        obtain ⟨ad125, e125, hx125_0⟩ := Kd.at_int HR0.out x4_1 p125 q125
        cases e125
        replace hx125_0 := (HB.out.cell (World.block_lt_of_cell? w _ hx125_0)).trans hx125_0
        replace p125 := eq_true p125
        replace q125 := eq_true q125
        have p126 : 0 ≤ (x4_1 : Int) := of_decide_eq_true (by first | (with_reducible assumption) | assumption)
        have q126 : x4_1 < (l0.length : Int) := of_decide_eq_true (by first | (with_reducible assumption) | assumption)
        obtain ⟨ad126, e126, hx126_0⟩ := Kd.at_int HR0.out x4_1 p126 q126
        obtain rfl : ad125 = ad126 := (by injection e126)
        replace hx126_0 := (HB.out.cell (World.block_lt_of_cell? w _ hx126_0)).trans hx126_0
        replace p126 := eq_true p126
        replace q126 := eq_true q126
        go_wp2_with (first | ((with_reducible refine gate_callee (f := 41) rfl ?_); refine goesL_ (some 25) rfl rfl Tryd.func41 (by kernel_rfl) rfl #[.int .u64 (IntKind.u64.wrap ((IntKind.u64.wrap (rd l0 x4_1)) + 1))] rfl (by (try simp only [List.map_toArray, List.map_cons, List.map_nil]); first | done | rfl | (simp only [List.length_drop, List.length_take]; rfl)) ?_; (with_reducible refine (earshotref03_Log.calls k1 (IntKind.u64.wrap ((IntKind.u64.wrap (rd l0 x4_1)) + 1)) t127 _ A5.out).mono ?_); rintro e w' ⟨rfl, ⟨nd, rfl⟩⟩; refine ⟨_, rfl, ?_⟩) | ((with_reducible refine gate_builtin (b := .append) (xs := #[.tmp 23, .tmp 26]) rfl ?_); at_builtin; refine Kd.R_append (Kd.int .i64) (w0 := w) w.heap.size rfl (.tmp 23) (.tmp 26) 22 3 (.int .i64 0) 8 rfl Tryd.underlying22 info3 rfl (by decide) (by omega) u3 x3_1 t127 [.int .i64 t127] (fun _ => True) (fun _ => False) rfl rfl ?aP (fun _ hk => hk.elim) ?aF ?aO ?aB ?aS ?aL ?_; (case aP => exact rfl); (case aB => exact (by repeat (first | (with_reducible first | exact HB.out | apply below_alloc | apply pw_below_drewN | apply below_drew1) | exact HB.out))); (case aF => exact (fun _ _ => trivial)); (case aO => exact (by (with_reducible repeat (first | apply Kd.R_alloc | apply Kd.R_drewN | apply Kd.R_drew)); (first | exact HO_3.out | exact Kd.R_mono HO_3.out (fun _ _ => trivial) | exact Kd.R_mono HO_3.out (fun _ hk => hk.1)))); (case aS => exact (below_size (by repeat (first | (with_reducible first | exact HB.out | apply below_alloc | apply pw_below_drewN | apply below_drew1) | exact HB.out)))); (case aL => have := LMc6.out; omega); intro v129 w7 ho hb hg hat; rw [← Ny128.out] at ho; have n0_ := Aside0.mk (hb); have n1_ := Aside0.mk (ho); clear HB; clear HO_3; have HB := n0_; have HO130 := n1_; clear n0_ n1_; clear ho hb hg hat))
        go_roundg k1
        case measure => have := HK1.out; omega
        case rel => exact ⟨(y128), (wrap64 (x4_1 + 1)), (by first | rfl | (simp; done) | (simp [*]; done)), H', ⟨by have := HK1.out; omega⟩, ⟨by (with_reducible repeat (first | apply Kd.R_alloc | apply Kd.R_drewN | apply Kd.R_drew)); exact HO130.out⟩, ⟨by repeat (first | (with_reducible first | exact HB.out | apply below_alloc | apply pw_below_drewN | apply below_drew1) | exact HB.out)⟩⟩
       ·
        rw [if_neg c6] at H
        exact absurd H (by simp)
      ·
       rw [if_neg c4] at H
       have c4b0 : decide (0 < (rd l0 x4_1)) = false := decide_eq_false c4
       clear c4
       replace H := Option.bind_eq_some_iff.mp H
       obtain ⟨t131, A80, H⟩ := H
       replace H : (if x3_1.length < 17592186044416 then (earshotref12_Logs.l0 k1 l0 (x3_1 ++ [t131]) (wrap64 (x4_1 + 1))) else (none)) = some r := H
       have A8 := Aside0.mk A80
       clear A80
       by_cases c9 : x3_1.length < 17592186044416
       ·
        rw [if_pos c9] at H
        have LMc9 := Aside0.mk c9
        clear c9
        obtain ⟨y132, hy132⟩ : ∃ y_ : List Int, y_ = (x3_1 ++ [t131]) := ⟨_, rfl⟩
        replace H : (earshotref12_Logs.l0 k1 l0 y132 (wrap64 (x4_1 + 1))) = some r := by first | (rw [hy132]; with_reducible exact H) | (have H2_ := (Option.bind_some _ _).symm.trans H; rw [hy132]; with_reducible exact H2_) | (have H2_ := (Option.bind_some _ _).symm.trans H; with_reducible exact H2_) | with_reducible exact H | (rw [hy132]; exact H) | exact H
        have Ny132 := Aside0.mk hy132
        clear hy132
        have H' := Aside0.mk H
        clear H
        have p125 : 0 ≤ (x4_1 : Int) := of_decide_eq_true (by first | (with_reducible assumption) | assumption)
        have q125 : x4_1 < (l0.length : Int) := of_decide_eq_true (by first | (with_reducible assumption) | assumption)
        obtain ⟨ad125, e125, hx125_0⟩ := Kd.at_int HR0.out x4_1 p125 q125
        cases e125
        replace hx125_0 := (HB.out.cell (World.block_lt_of_cell? w _ hx125_0)).trans hx125_0
        replace p125 := eq_true p125
        replace q125 := eq_true q125
        go_wp2_with (first | ((with_reducible refine gate_callee (f := 41) rfl ?_); refine goesL_ (some 25) rfl rfl Tryd.func41 (by kernel_rfl) rfl #[.int .u64 1] rfl (by (try simp only [List.map_toArray, List.map_cons, List.map_nil]); first | done | rfl | (simp only [List.length_drop, List.length_take]; rfl)) ?_; (with_reducible refine (earshotref03_Log.calls k1 1 t131 _ A8.out).mono ?_); rintro e w' ⟨rfl, ⟨nd, rfl⟩⟩; refine ⟨_, rfl, ?_⟩) | ((with_reducible refine gate_builtin (b := .append) (xs := #[.tmp 23, .tmp 26]) rfl ?_); at_builtin; refine Kd.R_append (Kd.int .i64) (w0 := w) w.heap.size rfl (.tmp 23) (.tmp 26) 22 3 (.int .i64 0) 8 rfl Tryd.underlying22 info3 rfl (by decide) (by omega) u3 x3_1 t131 [.int .i64 t131] (fun _ => True) (fun _ => False) rfl rfl ?aP (fun _ hk => hk.elim) ?aF ?aO ?aB ?aS ?aL ?_; (case aP => exact rfl); (case aB => exact (by repeat (first | (with_reducible first | exact HB.out | apply below_alloc | apply pw_below_drewN | apply below_drew1) | exact HB.out))); (case aF => exact (fun _ _ => trivial)); (case aO => exact (by (with_reducible repeat (first | apply Kd.R_alloc | apply Kd.R_drewN | apply Kd.R_drew)); (first | exact HO_3.out | exact Kd.R_mono HO_3.out (fun _ _ => trivial) | exact Kd.R_mono HO_3.out (fun _ hk => hk.1)))); (case aS => exact (below_size (by repeat (first | (with_reducible first | exact HB.out | apply below_alloc | apply pw_below_drewN | apply below_drew1) | exact HB.out)))); (case aL => have := LMc9.out; omega); intro v133 w10 ho hb hg hat; rw [← Ny132.out] at ho; have n0_ := Aside0.mk (hb); have n1_ := Aside0.mk (ho); clear HB; clear HO_3; have HB := n0_; have HO134 := n1_; clear n0_ n1_; clear ho hb hg hat))
        go_roundg k1
        case measure => have := HK1.out; omega
        case rel => exact ⟨(y132), (wrap64 (x4_1 + 1)), (by first | rfl | (simp; done) | (simp [*]; done)), H', ⟨by have := HK1.out; omega⟩, ⟨by (with_reducible repeat (first | apply Kd.R_alloc | apply Kd.R_drewN | apply Kd.R_drew)); exact HO134.out⟩, ⟨by repeat (first | (with_reducible first | exact HB.out | apply below_alloc | apply pw_below_drewN | apply below_drew1) | exact HB.out)⟩⟩
       ·
        rw [if_neg c9] at H
        exact absurd H (by simp)
     ·
      rw [if_neg c3] at H
      exact absurd H (by simp)
    ·
     rw [if_neg c2] at H
     have c2b0 : decide (x4_1 < (l0.length : Int)) = false := decide_eq_false c2
     clear c2
     obtain rfl := Option.some.inj H
     go_wp2
     go_ret
     exact ⟨_, by first | rfl | (simp [errW_none, errW_some] <;> rfl) | (simp [*, errW_none, errW_some] <;> rfl), by (with_reducible repeat (first | apply Kd.R_alloc | apply Kd.R_drewN | apply Kd.R_drew)); exact HO_3.out, by repeat (first | (with_reducible first | exact HB.out | apply below_alloc | apply pw_below_drewN | apply below_drew1) | exact HB.out)⟩
def earshotref12_May.f (a0 : Int) : Option (Bool) := if a0 = 4 then (some true) else (if a0 = 8 then (some true) else (some (a0 == 16)))
set_option maxHeartbeats 8000000 in
set_option maxRecDepth 100000 in
theorem earshotref12_May.calls (a0 : Int) (r : Bool) (w : World) (h : earshotref12_May.f a0 = some r) :
  Calls Tryd.prog 61 #[.int .i64 a0] w fun e w' => e = .returned (.bool r) ∧ Drawn0 w w' := by
 have H : (if a0 = 4 then (some true) else (if a0 = 8 then (some true) else (some (a0 == 16)))) = some r := h
 clear h
 by_cases c2 : a0 = 4
 ·
  rw [if_pos c2] at H
  have c2b0 : (a0 == 4) = true := beq_iff_eq.mpr c2
  have c2b1 : (a0 != 4) = false := bne_eq_false_iff_eq.mpr c2
  clear c2
  obtain rfl := Option.some.inj H
  go_enter Tryd.func61, Tryd.ntmps61
  go_wp2
  go_ret
  exact ⟨by first | rfl | (simp; done) | (simp [*]; done), by repeat (first | exact Drawn0.refl _ | apply Drawn0.step)⟩
 ·
  rw [if_neg c2] at H
  have c2b0 : (a0 == 4) = false := beq_eq_false_iff_ne.mpr c2
  have c2b1 : (a0 != 4) = true := bne_iff_ne.mpr c2
  by_cases c3 : a0 = 8
  ·
   rw [if_pos c3] at H
   have c3b0 : (a0 == 8) = true := beq_iff_eq.mpr c3
   have c3b1 : (a0 != 8) = false := bne_eq_false_iff_eq.mpr c3
   clear c3
   obtain rfl := Option.some.inj H
   go_enter Tryd.func61, Tryd.ntmps61
   go_wp2
   go_ret
   exact ⟨by first | rfl | (simp; done) | (simp [*]; done), by repeat (first | exact Drawn0.refl _ | apply Drawn0.step)⟩
  ·
   rw [if_neg c3] at H
   have c3b0 : (a0 == 8) = false := beq_eq_false_iff_ne.mpr c3
   have c3b1 : (a0 != 8) = true := bne_iff_ne.mpr c3
   obtain rfl := Option.some.inj H
   go_enter Tryd.func61, Tryd.ntmps61
   go_wp2
   go_ret
   exact ⟨by first | rfl | (simp; done) | (simp [*]; done), by repeat (first | exact Drawn0.refl _ | apply Drawn0.step)⟩
end Go.Proofs.YtmhacdnnnebpdaaDoor.PFrontStream
