/- The plain law of MelEdges: what the functions compute answers as the statement says. No conditions beside the statement's own. -/
import Derived.Test.YtohmecfjpmapnaaPMelEdgesx
namespace Go.Proofs.Ytohmecfjpmapnaa.Pure
open Go.RowKit Go.Proofs.Ytohmecfjpmapnaa.PMelEdges Go.Proofs.YtohmecfjpmapnaaW.PrintWords Go.Proofs.YtohmecfjpmapnaaW.PrintLast Go.Proofs.YtohmecfjpmapnaaW.PrintMore
set_option linter.unusedVariables false
set_option linter.unusedSimpArgs false
theorem bsome {α β : Type} (a : α) (f : α → Option β) : (some a).bind f = f a := by
  generalize h : some a = o
  cases o with
  | none => cases h
  | some b => cases h; rfl
theorem i64_mask (i : Nat) (hi : i ≤ 62) (n m : Int) (hm : m = ((2 ^ i - 1 : Nat) : Int)) : Go.bits .and .i64 n m = n % ((2 ^ i : Nat) : Int) := by
  have hp : 0 < 2 ^ i := Nat.two_pow_pos i
  have hle : 2 ^ i ≤ 4611686018427387904 := Nat.pow_le_pow_right (n := 2) (by decide) hi
  have h1 : (BitVec.ofInt 64 m).toNat = 2 ^ i - 1 := by
    subst hm
    rw [BitVec.ofInt_natCast, BitVec.toNat_ofNat]
    exact Nat.mod_eq_of_lt (by omega)
  have key : (BitVec.ofInt 64 n &&& BitVec.ofInt 64 m).toNat = (n % ((2 ^ 64 : Nat) : Int)).toNat % 2 ^ i := by
    rw [BitVec.toNat_and, BitVec.toNat_ofInt, h1, Nat.and_two_pow_sub_one_eq_mod]
  show IntKind.i64.wrap ((BitVec.ofInt 64 n &&& BitVec.ofInt 64 m).toNat : Nat) = n % _
  rw [key, IntKind.wrap_i64]
  have r0 : 0 ≤ n % ((2 ^ 64 : Nat) : Int) := Int.emod_nonneg _ (by decide)
  have e : (((n % ((2 ^ 64 : Nat) : Int)).toNat % 2 ^ i : Nat) : Int) = n % ((2 ^ i : Nat) : Int) := by
    rw [Int.natCast_emod, Int.toNat_of_nonneg r0]
    refine Int.emod_emod_of_dvd _ ?_
    exact Int.natCast_dvd_natCast.2 (Nat.pow_dvd_pow 2 (by omega))
  rw [e]
  generalize hz : n % ((2 ^ i : Nat) : Int) = z
  have m0 : 0 ≤ z := hz ▸ Int.emod_nonneg _ (by omega)
  have m1 : z < ((2 ^ i : Nat) : Int) := hz ▸ Int.emod_lt_of_pos _ (by omega)
  have hle' : ((2 ^ i : Nat) : Int) ≤ 4611686018427387904 := Int.ofNat_le.2 hle
  have m2 : z < 4611686018427387904 := Int.lt_of_lt_of_le m1 hle'
  clear m1 hle' hle hz e key h1
  omega
theorem hiK {b : Nat} (hb : b ≤ 64) : ∀ k, 30 ≤ k → mel_High.f k (b : Int) = some (hiN b) := by
  intro k hk
  obtain ⟨d, rfl⟩ := Nat.exists_eq_add_of_le hk
  clear hk
  induction d with
  | zero => exact hi_some hb
  | succ d ih => exact mel_High.mono _ _ _ ih
theorem awakeK : ∀ k, 30 ≤ k → earshotlaw11_awake.f k = some true := by
  intro k hk
  obtain ⟨d, rfl⟩ := Nat.exists_eq_add_of_le hk
  clear hk
  induction d with
  | zero => decide +kernel
  | succ d ih => exact earshotlaw11_awake.mono _ _ ih
theorem edge_zero (n c : Nat) : edgeOf n c 0 = 0 := by
  unfold edgeOf
  rw [leastF, if_neg (by rw [hi_zero]; simp)]
theorem rd_edge {n c i : Nat} (h : i ≤ c) : rd (edgesL n c) (i : Int) = ((edgeOf n c i : Nat) : Int) := by
  unfold rd edgesL
  rw [Int.toNat_natCast]
  exact getD_map_range (c + 1) (fun m : Nat => ((edgeOf n c m : Nat) : Int)) i (by omega)
/-- The last edge stands no lower than the last bin's height. -/
theorem hi_tied : ∀ a : Fin 65, ∀ b : Fin 65, a.1 < b.1 → hiN a.1 < hiN b.1 := by decide +kernel
theorem edge_last {n c : Nat} (h2 : 2 ≤ n) (h65 : n ≤ 65) (hc : 1 ≤ c) : edgeOf n c c = n - 1 := by
  obtain ⟨_, a2, a3⟩ := edge_spec (n := n) (c := c) (m := c) h2 h65 (Nat.le_refl _)
  rcases Nat.lt_or_ge (edgeOf n c c) (n - 1) with h | h
  · exfalso
    have ht := hi_tied ⟨edgeOf n c c, by omega⟩ ⟨n - 1, by omega⟩ h
    apply a3
    rw [Int.mul_comm]
    exact Int.mul_lt_mul_of_pos_left ht (by omega)
  · omega
theorem edges_len (n c : Nat) : (edgesL n c).length = c + 1 := by simp [edgesL]
theorem W_eq {x : Int} (h0 : -9223372036854775808 ≤ x) (h1 : x < 9223372036854775808) : wrap64 x = x := by unfold wrap64; omega
theorem prod_in {b : Nat} {c : Int} (hb : b ≤ 64) (h0 : 0 ≤ c) (h1 : c ≤ 17) : wrap64 (hiN b * c) = hiN b * c ∧ wrap64 (c * hiN b) = c * hiN b := by
  have hv := hi_bd hb
  have hq : 0 ≤ hiN b * c ∧ hiN b * c ≤ 170000 :=
    ⟨Int.mul_nonneg hv.1 h0, Int.le_trans (Int.mul_le_mul_of_nonneg_right hv.2 h0) (by omega)⟩
  have e := Int.mul_comm (hiN b) c
  generalize hiN b * c = P at *
  rw [← e]
  exact ⟨W_eq (by omega) (by omega), W_eq (by omega) (by omega)⟩
theorem ws_all {N B i : Nat} (hN : N ≤ 64) (hB : B ≤ 16) (hi : i ≤ 17) : wrap64 (((i + 1 : Nat) : Int) - 1) = (i : Int) ∧ wrap64 (((i + 1 : Nat) : Int) + 1) = ((i + 1 + 1 : Nat) : Int) ∧ wrap64 ((N : Int) + 1 - 1) = (N : Int) ∧ wrap64 ((B : Int) + 1) = ((B + 1 : Nat) : Int) := by
  refine ⟨?_, ?_, ?_, ?_⟩ <;> (unfold wrap64; omega)
theorem ws_one {E : Nat} (h : 0 < E) (h2 : E ≤ 64) : wrap64 ((E : Int) - 1) = ((E - 1 : Nat) : Int) := by unfold wrap64; omega
theorem edges_l0 {N B : Nat} (hN : 1 ≤ N) (hN2 : N ≤ 64) (hB1 : 1 ≤ B) (hB : B ≤ 16) : ∀ d k i, 1 ≤ i → i + d = B + 2 → 31 + d ≤ k →
    earshotlaw11_MelEdges.l0 k true ((N : Int) + 1) (B : Int) (edgesL (N + 1) (B + 1)) (i : Int) = some true := by
  intro d
  induction d with
  | zero =>
    intro k i hi hd hk
    obtain ⟨k, rfl⟩ : ∃ m, k = m + 1 := ⟨k - 1, by omega⟩
    have h0 := hiK (b := 0) (by omega) k (by omega)
    have h1 := hiK (b := N) (by omega) k (by omega)
    have h2 := hiK (b := N - 1) (by omega) k (by omega)
    rw [hi_zero, show ((0 : Nat) : Int) = 0 from rfl] at h0
    have e1 : wrap64 ((N : Int) + 1 - 1) = (N : Int) := by unfold wrap64; omega
    have e2 : wrap64 ((N : Int) + 1 - 2) = ((N - 1 : Nat) : Int) := by unfold wrap64; omega
    rw [earshotlaw11_MelEdges.l0, if_neg (by rw [edges_len]; omega), if_pos rfl]
    have hle : hiN (N - 1) ≤ hiN N := hi_le (by omega) (by omega)
    rw [h0, bsome, if_pos rfl, e2, h2, bsome, e1, h1, bsome]
    rw [decide_eq_true hle]
  | succ d ih =>
    intro k i hi hd hk
    obtain ⟨k, rfl⟩ : ∃ m, k = m + 1 := ⟨k - 1, by omega⟩
    obtain ⟨i, rfl⟩ : ∃ j, i = j + 1 := ⟨i - 1, by omega⟩
    have IH := ih k (i + 1 + 1) (by omega) (by omega) (by omega)
    have c1 : (((i + 1 : Nat) : Nat) : Int) < ((edgesL (N + 1) (B + 1)).length : Int) := by rw [edges_len]; omega
    have c2 : ((i : Nat) : Int) < ((edgesL (N + 1) (B + 1)).length : Int) := by rw [edges_len]; omega
    have c3 : (0 : Int) ≤ ((i + 1 : Nat) : Int) := Int.natCast_nonneg _
    have c4 : (0 : Int) ≤ (i : Int) := Int.natCast_nonneg _
    have hi17 : i ≤ 17 := by omega
    have hiB : i + 1 ≤ B + 1 := by omega
    have hk30 : 30 ≤ k := by omega
    have hN3 : 2 ≤ N + 1 := by omega
    have hN4 : N + 1 ≤ 65 := by omega
    have hc0 : (0 : Int) ≤ ((B + 1 : Nat) : Int) := Int.natCast_nonneg _
    have hc1 : ((B + 1 : Nat) : Int) ≤ 17 := by omega
    have hc2 : ((i + 1 : Nat) : Int) ≤ 17 := by omega
    clear ih hi hd hk
    have hm := edge_mono (n := N + 1) (c := B + 1) (m := i) hN3 hN4 hiB
    have sp := edge_spec (n := N + 1) (c := B + 1) (m := i + 1) hN3 hN4 hiB
    have r1 := rd_edge (n := N + 1) (c := B + 1) (i := i + 1) hiB
    have r0 := rd_edge (n := N + 1) (c := B + 1) (i := i) (Nat.le_of_succ_le hiB)
    rw [Nat.add_sub_cancel] at sp
    generalize edgeOf (N + 1) (B + 1) (i + 1) = E at hm sp r1
    generalize edgeOf (N + 1) (B + 1) i = D at hm r0
    obtain ⟨s1, s2, s3⟩ := sp
    have hE : E ≤ 64 := Nat.le_trans s2 hN2
    have n1 : ¬ (E : Int) < (D : Int) := Int.not_lt.2 (Int.ofNat_le.2 hm)
    have n2 : ¬ (E : Int) ≥ (N : Int) + 1 := Int.not_le.2 (Int.lt_add_one_of_le (Int.ofNat_le.2 s2))
    have g0 := hiK hE k hk30
    have g1 := hiK hN2 k hk30
    have p0 := (prod_in hE hc0 hc1).1
    have p1 := (prod_in hN2 c3 hc2).2
    obtain ⟨w1, w2, w3, w4⟩ := ws_all hN2 hB hi17
    rw [earshotlaw11_MelEdges.l0, if_pos c1, if_pos c3, w1, if_pos c4, if_pos c2, r1, r0, if_neg n1, if_neg n2, g0, bsome, w3, g1, bsome, w4, p0, p1, if_neg s3]
    rcases Nat.eq_zero_or_pos E with hz | hz
    · have hz' : ¬ (E : Int) > 0 := by rw [hz]; decide
      rw [if_neg hz', w2]
      exact IH
    · have hE1 : E - 1 ≤ 64 := Nat.le_trans (Nat.sub_le _ _) hE
      have g2 := hiK hE1 k hk30
      have p2 := (prod_in hE1 hc0 hc1).1
      have hlt := s1 (E - 1) (Nat.sub_lt hz Nat.one_pos)
      have hge : ¬ hiN (E - 1) * ((B + 1 : Nat) : Int) ≥ ((i + 1 : Nat) : Int) * hiN N := Int.not_le.2 hlt
      have hz2 : (E : Int) > 0 := Int.ofNat_lt.2 hz
      rw [if_pos hz2, ws_one hz hE, g2, bsome, bsome, p2, p1, if_neg hge, w2]
      exact IH
theorem MelEdges : earshotlaw11_MelEdges.Pure := by
  intro a0 a1 _ _
  refine ⟨100, ?_⟩
  have m0 : Go.bits .and .i64 a0 63 = a0 % 64 := i64_mask 6 (by decide) a0 63 (by decide)
  have m1 : Go.bits .and .i64 a1 15 = a1 % 16 := i64_mask 4 (by decide) a1 15 (by decide)
  have q0 := Int.emod_nonneg a0 (show (64 : Int) ≠ 0 by decide)
  have q1 := Int.emod_lt_of_pos a0 (show (0 : Int) < 64 by decide)
  have q2 := Int.emod_nonneg a1 (show (16 : Int) ≠ 0 by decide)
  have q3 := Int.emod_lt_of_pos a1 (show (0 : Int) < 16 by decide)
  unfold earshotlaw11_MelEdges.f
  rw [m0, m1, awakeK 100 (by decide), bsome]
  clear m0 m1
  generalize a0 % 64 = x at *
  generalize a1 % 16 = y at *
  obtain ⟨N, hN⟩ := Int.eq_ofNat_of_zero_le (show 0 ≤ x + 1 by omega)
  obtain ⟨B, hB⟩ := Int.eq_ofNat_of_zero_le (show 0 ≤ y + 1 by omega)
  obtain rfl : x = (N : Int) - 1 := by omega
  obtain rfl : y = (B : Int) - 1 := by omega
  have e0 : wrap64 (2 + ((N : Int) - 1)) = (N : Int) + 1 := by unfold wrap64; omega
  have e1 : wrap64 (1 + ((B : Int) - 1)) = (B : Int) := by unfold wrap64; omega
  have e2 : wrap64 ((B : Int) + 2) = ((B + 2 : Nat) : Int) := by unfold wrap64; omega
  have e3 : wrap64 ((B : Int) + 1) = ((B + 1 : Nat) : Int) := by unfold wrap64; omega
  have e4 : wrap64 ((N : Int) + 1 - 1) = (N : Int) := by unfold wrap64; omega
  have hE : mel_Edges.f ((N : Int) + 1) (B : Int) = some (edgesL (N + 1) (B + 1)) := by
    unfold mel_Edges.f edgesF
    have : mayE ((N : Int) + 1) (B : Int) = true := by unfold mayE; simp only [Bool.and_eq_true, decide_eq_true_eq]; omega
    rw [if_pos this, Int.toNat_natCast, show ((N : Int) + 1).toNat = N + 1 by omega]
  have r0 := rd_edge (n := N + 1) (c := B + 1) (i := 0) (by omega)
  rw [edge_zero, show ((0 : Nat) : Int) = 0 from rfl] at r0
  have r1 := rd_edge (n := N + 1) (c := B + 1) (i := B + 1) (by omega)
  rw [edge_last (by omega) (by omega) (by omega), Nat.add_sub_cancel] at r1
  rw [e0, e1, hE, bsome, e2, e3, if_pos (by rw [edges_len]), if_pos (by rw [edges_len]; omega), r0, if_pos rfl, if_pos (by omega), if_pos (by rw [edges_len]; omega), e4, r1, bne_self_eq_false, earshotlaw11_MelEdges.j0, if_neg (by decide)]
  have hh := edges_l0 (N := N) (B := B) (by omega) (by omega) (by omega) (by omega) (B + 1) 99 1 (by omega) (by omega) (by omega)
  rw [show ((1 : Nat) : Int) = 1 from rfl] at hh
  exact hh
end Go.Proofs.Ytohmecfjpmapnaa.Pure
