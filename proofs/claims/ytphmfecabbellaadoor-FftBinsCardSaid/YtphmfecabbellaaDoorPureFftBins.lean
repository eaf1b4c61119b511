/- The plain law of FftBins: what the functions compute answers as the statement says. No conditions beside the statement's own. -/
import Derived.Test.YtphmfecabbellaaDoorPFftBinsx
namespace Go.Proofs.YtphmfecabbellaaDoor.Pure
open Go.RowKit Go.Proofs.YtphmfecabbellaaDoor.PFftBins Go.Proofs.YtphmfecabbellaaDoorW.PrintWords Go.Proofs.YtphmfecabbellaaDoorW.PrintLast Go.Proofs.YtphmfecabbellaaDoorW.PrintMore
set_option linter.unusedVariables false
set_option linter.unusedSimpArgs false
theorem wf_i64 {x : Int} (h : (Lit.int .i64 x).wf = true) : -9223372036854775808 ≤ x ∧ x ≤ 9223372036854775807 := by
  simp only [Lit.wf, Bool.and_eq_true, decide_eq_true_eq] at h
  exact h
theorem wf_u32 {x : Int} (h : (Lit.int .u32 x).wf = true) : 0 ≤ x ∧ x < 4294967296 := by
  simp only [Lit.wf, Bool.and_eq_true, decide_eq_true_eq] at h
  obtain ⟨h0, h1⟩ := h
  have h2 : x ≤ 4294967295 := h1
  exact ⟨h0, by omega⟩
theorem wf_u64 {x : Int} (h : (Lit.int .u64 x).wf = true) : 0 ≤ x ∧ x < 18446744073709551616 := by
  simp only [Lit.wf, Bool.and_eq_true, decide_eq_true_eq] at h
  obtain ⟨h0, h1⟩ := h
  have h2 : x ≤ 18446744073709551615 := h1
  exact ⟨h0, by omega⟩
theorem ref_bits_l0 : ∀ (f k x n : Nat), x < 2 ^ f → n + f ≤ 64 → f < k → earshotref03_Bits.l0 k (x : Int) (n : Int) = some ((n + Lib.bitLenAux f x : Nat) : Int)
  | 0, k, x, n, h, _, hk => by
    obtain ⟨k, rfl⟩ : ∃ k', k = k' + 1 := ⟨k - 1, by omega⟩
    have : x = 0 := by simpa using h
    subst this
    simp only [earshotref03_Bits.l0]
    rw [if_neg (by decide)]
    simp [Lib.bitLenAux]
  | f + 1, k, x, n, h, hf, hk => by
    obtain ⟨k, rfl⟩ : ∃ k', k = k' + 1 := ⟨k - 1, by omega⟩
    simp only [earshotref03_Bits.l0]
    by_cases h0 : x = 0
    · subst h0
      rw [if_neg (by decide), bla_zero]
      simp
    · have e1 : Lib.bitLenAux (f + 1) x = 1 + Lib.bitLenAux f (x / 2) := by
        show (if x = 0 then 0 else 1 + Lib.bitLenAux f (x / 2)) = _
        rw [if_neg h0]
      have hx64 : x < 2 ^ 64 := Nat.lt_of_lt_of_le h (Nat.pow_le_pow_right (by decide) (by omega))
      rw [Nat.pow_succ] at h
      have hlt : x / 2 < 2 ^ f := by omega
      clear h
      have e2 : IntKind.u64.wrap (Int.tdiv (x : Int) 2) = ((x / 2 : Nat) : Int) := by
        rw [Int.tdiv_eq_ediv_of_nonneg (by omega), IntKind.wrap_u64]; clear hlt; omega
      have e3 : wrap64 ((n : Int) + 1) = ((n + 1 : Nat) : Int) := by clear hlt; unfold wrap64; omega
      rw [if_pos (by clear hlt; omega), e2, e3, e1]
      rw [ref_bits_l0 f k (x / 2) (n + 1) hlt (by omega) (by omega), Nat.add_assoc]
theorem ref_bits_some {x k : Nat} (h : x < 2 ^ 64) (hk : 65 ≤ k) : earshotref03_Bits.f k (x : Int) = some ((Lib.bitLen x : Nat) : Int) := by
  unfold earshotref03_Bits.f Lib.bitLen
  have := ref_bits_l0 64 k x 0 h (by omega) (by omega)
  rw [Nat.zero_add] at this
  exact this
theorem rdiv_f {x n : Int} (hx : -9223372036854775808 ≤ x ∧ x ≤ 9223372036854775807) (hn : 1 ≤ n ∧ n ≤ 4611686018427387904) : earshotref02_Div.f x n = some (divR x n) := by
  have hn2 : -9223372036854775808 ≤ n ∧ n ≤ 9223372036854775807 := by omega
  have r0 := Int.emod_nonneg x (show n ≠ 0 by omega)
  have r1 := Int.emod_lt_of_pos x (show 0 < n by omega)
  unfold earshotref02_Div.f divR
  rw [if_neg (by omega), if_neg (by omega), refquot_f hx hn2 hn.1, bsome, refrest_f hx hn2 hn.1, bsome]
  have e : wrap64 (n - x % n) = n - x % n := by unfold wrap64; omega
  rw [e]
  by_cases h : x % n ≥ n - x % n
  · rw [if_pos h, if_pos h]
    congr 1
    have q0 : -9223372036854775808 ≤ x / n := (Int.le_ediv_iff_mul_le (by omega)).2 (by omega)
    have q1 : x / n < 9223372036854775807 := by
      have hd := Int.mul_ediv_add_emod x n
      rcases Int.lt_or_le (x / n) 9223372036854775807 with h' | h'
      · exact h'
      · have := Int.mul_le_mul_of_nonneg_right hn.1 (show 0 ≤ x / n by omega)
        omega
    unfold wrap64; omega
  · rw [if_neg h, if_neg h]
theorem rpower : ∀ n : Fin 63, earshotref02_power.f 70 ((n.1 : Nat) : Int) = some ((2 ^ n.1 : Nat) : Int) := by decide +kernel
theorem rhalf_f {x : Int} (hx : -9223372036854775808 ≤ x ∧ x ≤ 9223372036854775807) (n : Nat) (hn : n ≤ 62) : ∀ k, 71 ≤ k → earshotref02_Half.f k x (n : Int) = some (divR x ((2 ^ n : Nat) : Int)) := by
  intro k hk
  obtain ⟨d, rfl⟩ := Nat.exists_eq_add_of_le hk
  clear hk
  induction d with
  | zero =>
    have hp := rpower ⟨n, by omega⟩
    have hle : 2 ^ n ≤ 2 ^ 62 := Nat.pow_le_pow_right (by decide) hn
    have hpos : 0 < 2 ^ n := Nat.two_pow_pos n
    unfold earshotref02_Half.f
    rw [if_neg (by omega), decide_eq_false (by omega), earshotref02_Half.j0, if_neg (by decide), hp, bsome]
    generalize 2 ^ n = p at *
    rw [rdiv_f hx (by omega), bsome]
  | succ d ih => exact earshotref02_Half.mono _ _ _ _ ih
theorem may_s {h : Nat} (hm : sp_may h = true) : 0 < h ∧ (h : Int) * ((32 / h : Nat) : Int) = 32 ∧ h ≤ 32 := by
  rcases sp_may_cases hm with rfl | rfl | rfl | rfl | rfl | rfl <;> decide
theorem ci64_mk {x : Int} (h0 : -9223372036854775808 ≤ x) (h1 : x ≤ 9223372036854775807) : ci64b x = true := by simp [ci64b, h0, h1]
theorem ref4rest_f {x : Int} (h0 : -9223372036854775808 ≤ x) (h1 : x ≤ 9223372036854775807) : earshotref04_Rest.f x = some (x % 64) := by
  unfold earshotref04_Rest.f
  rw [refrest_f ⟨h0, h1⟩ (by decide) (by decide)]
  rfl
theorem refcos_fin (k : Nat) : ∀ r : Fin 64, earshotref04_Cos.f 3 ((r.1 : Nat) : Int) = some (cosAt ((r.1 : Nat) : Int)) := by decide +kernel
theorem refcos_f {x : Int} (h0 : -9223372036854775808 ≤ x) (h1 : x ≤ 9223372036854775807) (k : Nat) (hk : 3 ≤ k) : earshotref04_Cos.f k x = some (cosT x) := by
  have e : earshotref04_Cos.f 3 x = earshotref04_Cos.f 3 (x % 64) := by
    unfold earshotref04_Cos.f
    rw [ref4rest_f h0 h1, ref4rest_f (x := x % 64) (by omega) (by omega), Int.emod_emod_of_dvd _ (Int.dvd_refl 64)]
  have m0 := Int.emod_nonneg x (show (64 : Int) ≠ 0 by decide)
  have m1 := Int.emod_lt_of_pos x (show (0 : Int) < 64 by decide)
  obtain ⟨n, hn⟩ := Int.eq_ofNat_of_zero_le m0
  refine at_rounds (fun k => earshotref04_Cos.mono x k) hk ?_
  rw [e, hn]
  unfold cosT
  rw [hn]
  exact refcos_fin 0 ⟨n, by omega⟩
theorem refsin_f {x : Int} (h0 : -9223372036854775808 ≤ x) (h1 : x ≤ 9223372036854775807) (k : Nat) (hk : 3 ≤ k) : earshotref04_Sin.f k x = some (sinT x) := by
  unfold earshotref04_Sin.f
  have m0 := Int.emod_nonneg x (show (64 : Int) ≠ 0 by decide)
  have m1 := Int.emod_lt_of_pos x (show (0 : Int) < 64 by decide)
  rw [ref4rest_f h0 h1, Option.bind_some, W_in (by omega) (by omega), refcos_f (by omega) (by omega) k hk]
  rfl
theorem refmay_f (h : Nat) : earshotref09_May.f (h : Int) = some (sp_may h) := by
  unfold earshotref09_May.f sp_may
  by_cases h1 : h = 1
  · subst h1; rfl
  by_cases h2 : h = 2
  · subst h2; rfl
  by_cases h4 : h = 4
  · subst h4; rfl
  by_cases h8 : h = 8
  · subst h8; rfl
  by_cases h16 : h = 16
  · subst h16; rfl
  rw [if_neg (by omega), if_neg (by omega), if_neg (by omega), if_neg (by omega), if_neg (by omega)]
  have e : ∀ a b : Nat, a ≠ b → (a == b) = false := fun a b h => by simp [h]
  rw [e h 1 h1, e h 2 h2, e h 4 h4, e h 8 h8, e h 16 h16]
  simp only [Bool.false_or]
  congr 1
  by_cases h32 : h = 32
  · subst h32; rfl
  · rw [e h 32 h32]; simp; omega
theorem quo_s {h j : Nat} (hm : sp_may h = true) : wrap64 (Int.tdiv (wrap64 ((j : Int) * 32)) (h : Int)) = (j : Int) * ((32 / h : Nat) : Int) ∨ h < j := by
  by_cases hj : h < j
  · exact .inr hj
  · refine .inl ?_
    have h32 := (may_s hm).2.2
    rw [W_in (a := (j : Int) * 32) (by omega) (by omega), Int.tdiv_eq_ediv_of_nonneg (by omega)]
    rcases sp_may_cases hm with rfl | rfl | rfl | rfl | rfl | rfl
    all_goals
      simp only [Nat.reduceDiv, Int.cast_ofNat_Int]
      rw [W_in (by omega) (by omega)]
      omega
theorem refreal_go (l : List Int) (hm : sp_may l.length = true) (m : Nat) (h3 : 3 ≤ m) : ∀ (d n : Nat), n + d = l.length →
    earshotref09_Real.l0 (d + 1 + m) l (sp_sum l cosT (32 / l.length) n) true (n : Int) = some (sp_sum l cosT (32 / l.length) l.length)
  | 0, n, hn => by
    rw [show 0 + 1 + m = m + 1 by omega, earshotref09_Real.l0, if_neg (by omega), show n = l.length by omega]
  | d + 1, n, hn => by
    have ih := refreal_go l hm m h3 d (n + 1) (by omega)
    obtain ⟨h0, hs, h32⟩ := may_s hm
    have w3 : wrap64 ((n : Int) + 1) = ((n + 1 : Nat) : Int) := by rw [W_in (by omega) (by omega)]; omega
    have hq := (quo_s (j := n) hm).resolve_right (by omega)
    have hb : 0 ≤ (n : Int) * ((32 / l.length : Nat) : Int) ∧ (n : Int) * ((32 / l.length : Nat) : Int) ≤ 32 := by
      rw [← hs]
      exact ⟨Int.mul_nonneg (Int.natCast_nonneg _) (Int.natCast_nonneg _), Int.mul_le_mul_of_nonneg_right (by omega) (Int.natCast_nonneg _)⟩
    rw [show d + 1 + 1 + m = (d + 1 + m) + 1 by omega, earshotref09_Real.l0, if_pos (by omega), if_pos rfl, if_pos (by omega), if_neg (by omega), hq, refcos_f (by omega) (by omega) _ (by omega), Option.bind_some, w3]
    unfold rd
    rw [Int.toNat_natCast]
    exact ih
theorem refreal_f (l : List Int) (hl : l.length ≤ 1000) : earshotref09_Real.f 1010 l = some (sp_part l cosT) := by
  unfold earshotref09_Real.f sp_part
  rw [refmay_f, Option.bind_some]
  by_cases hm : sp_may l.length = true
  · rw [hm, if_pos rfl]
    have h32 := (may_s hm).2.2
    have := refreal_go l hm (1009 - l.length) (by omega) l.length 0 (by omega)
    rw [show l.length + 1 + (1009 - l.length) = 1010 by omega] at this
    exact this
  · rw [if_neg hm]
    have hf : sp_may l.length = false := by simpa using hm
    rw [hf, earshotref09_Real.l0]
    split
    · rw [if_neg (by decide)]
    · rfl
theorem refimag_go (l : List Int) (hm : sp_may l.length = true) (m : Nat) (h3 : 3 ≤ m) : ∀ (d n : Nat), n + d = l.length →
    earshotref09_Imag.l0 (d + 1 + m) l (wrap64 (-(sp_sum l sinT (32 / l.length) n))) true (n : Int) = some (wrap64 (-(sp_sum l sinT (32 / l.length) l.length)))
  | 0, n, hn => by
    rw [show 0 + 1 + m = m + 1 by omega, earshotref09_Imag.l0, if_neg (by omega), show n = l.length by omega]
  | d + 1, n, hn => by
    have ih := refimag_go l hm m h3 d (n + 1) (by omega)
    obtain ⟨h0, hs, h32⟩ := may_s hm
    have w3 : wrap64 ((n : Int) + 1) = ((n + 1 : Nat) : Int) := by rw [W_in (by omega) (by omega)]; omega
    have hq := (quo_s (j := n) hm).resolve_right (by omega)
    have hb : 0 ≤ (n : Int) * ((32 / l.length : Nat) : Int) ∧ (n : Int) * ((32 / l.length : Nat) : Int) ≤ 32 := by
      rw [← hs]
      exact ⟨Int.mul_nonneg (Int.natCast_nonneg _) (Int.natCast_nonneg _), Int.mul_le_mul_of_nonneg_right (by omega) (Int.natCast_nonneg _)⟩
    rw [show d + 1 + 1 + m = (d + 1 + m) + 1 by omega, earshotref09_Imag.l0, if_pos (by omega), if_pos rfl, if_pos (by omega), if_neg (by omega), hq, refsin_f (by omega) (by omega) _ (by omega), Option.bind_some, w3]
    unfold rd
    rw [Int.toNat_natCast]
    rw [sp_sum, W_neg_W] at ih
    rw [← ih]
    congr 1
    rw [W_W_sub, W_sub_W, ← W_neg_W, W_add_W, W_neg_W]
    congr 1; omega
theorem refimag_f (l : List Int) (hl : l.length ≤ 1000) : earshotref09_Imag.f 1010 l = some (wrap64 (-(sp_part l sinT))) := by
  unfold earshotref09_Imag.f sp_part
  rw [refmay_f, Option.bind_some]
  by_cases hm : sp_may l.length = true
  · rw [hm, if_pos rfl]
    have h32 := (may_s hm).2.2
    have := refimag_go l hm (1009 - l.length) (by omega) l.length 0 (by omega)
    rw [show l.length + 1 + (1009 - l.length) = 1010 by omega] at this
    have hz : wrap64 (-(sp_sum l sinT (32 / l.length) 0)) = 0 := W_in (a := -0) (by decide) (by decide)
    rw [hz] at this
    exact this
  · rw [if_neg hm]
    have hf : sp_may l.length = false := by simpa using hm
    rw [hf, earshotref09_Imag.l0]
    have hz : wrap64 (-0) = 0 := W_in (a := -0) (by decide) (by decide)
    rw [hz]
    split
    · rw [if_neg (by decide)]
    · rfl
theorem same_goK (l : List Int) (hl : l.length ≤ 100000000) (d : Nat) : ∀ (k i : Nat), i ≤ l.length → l.length - i = d → d < k → earshotref04_Same.l0 k l l (i : Int) = some true := by
  induction d with
  | zero =>
    intro k i h0 hd hk
    obtain ⟨k, rfl⟩ : ∃ m, k = m + 1 := ⟨k - 1, by omega⟩
    simp only [earshotref04_Same.l0]
    rw [if_neg (by omega)]
  | succ d ih =>
    intro k i h0 hd hk
    obtain ⟨k, rfl⟩ : ∃ m, k = m + 1 := ⟨k - 1, by omega⟩
    simp only [earshotref04_Same.l0]
    have hw : wrap64 ((i : Int) + 1) = ((i + 1 : Nat) : Int) := by unfold wrap64; omega
    rw [if_pos (by omega), if_pos (by omega), if_pos (by omega), if_pos trivial, hw]
    exact ih k (i + 1) (by omega) (by omega) (by omega)
theorem sameK (l : List Int) (hl : l.length ≤ 100000000) {k : Nat} (hk : l.length < k) : earshotref04_Same.f k l l = some true := by
  unfold earshotref04_Same.f
  rw [if_pos rfl]
  exact same_goK l hl l.length k 0 (by omega) (by omega) (by omega)
theorem up_ {α : Type} {f : Nat → Option α} (h : ∀ k, LeO (f k) (f (k + 1))) {k n : Nat} {r : α} (hk : f k = some r) (hn : k ≤ n) : f n = some r := by
  obtain ⟨d, rfl⟩ := Nat.exists_eq_add_of_le hn
  clear hn
  induction d with
  | zero => exact hk
  | succ d ih => exact h (k + d) _ ih
theorem size_some {x : Int} (h0 : -9223372036854775808 ≤ x) (h1 : x < 9223372036854775808) : earshotref03_size.f x = some ((x.natAbs : Nat) : Int) := by
  unfold earshotref03_size.f
  split
  · congr 1
    rw [IntKind.wrap_u64, IntKind.wrap_u64]; unfold wrap64; omega
  · congr 1
    rw [IntKind.wrap_u64]; omega
theorem rnorm_l0 (l : List Int) (hl : l.length ≤ 500) (hw : Rng l) : ∀ (j k2 i acc : Nat), i + j = l.length → acc < 2 ^ 64 → j + 65 < k2 →
    earshotref03_Norm.l0 k2 l ((Lib.bitLen acc : Nat) : Int) (i : Int) = some ((Lib.bitLen (acc ||| orL (l.drop i)) : Nat) : Int)
  | 0, k2, i, acc, hi, ha, hk2 => by
    obtain ⟨k2, rfl⟩ : ∃ k', k2 = k' + 1 := ⟨k2 - 1, by omega⟩
    rw [earshotref03_Norm.l0, if_neg (by omega), List.drop_eq_nil_of_le (by omega)]
    show _ = some ((Lib.bitLen (acc ||| 0) : Nat) : Int)
    rw [Nat.or_zero]
  | j + 1, k2, i, acc, hi, ha, hk2 => by
    obtain ⟨k2, rfl⟩ : ∃ k', k2 = k' + 1 := ⟨k2 - 1, by omega⟩
    have hr : rd l (i : Int) = l[i]'(by omega) := by
      unfold rd
      rw [Int.toNat_natCast, List.getD_eq_getElem?_getD, List.getElem?_eq_getElem (by omega), Option.getD_some]
    obtain ⟨w0, w1⟩ := hw _ (List.getElem_mem (show i < l.length by omega))
    rw [← hr] at w0 w1
    have hx64 : (rd l (i : Int)).natAbs < 2 ^ 64 := by omega
    have e1 : wrap64 ((i : Int) + 1) = ((i + 1 : Nat) : Int) := by unfold wrap64; omega
    have ih := rnorm_l0 l hl hw j k2 (i + 1) (acc ||| (rd l (i : Int)).natAbs) (by omega) (Nat.or_lt_two_pow ha hx64) (by omega)
    have ed : orL (l.drop i) = (rd l (i : Int)).natAbs ||| orL (l.drop (i + 1)) := by
      rw [List.drop_eq_getElem_cons (show i < l.length by omega), hr]; rfl
    rw [ed, ← Nat.or_assoc, ← ih, earshotref03_Norm.l0, if_pos (by omega), if_pos (by omega), size_some w0 (by omega), bsome, ref_bits_some hx64 (by omega), bsome, e1, bl_or ha hx64]
    by_cases hc : Lib.bitLen (rd l (i : Int)).natAbs > Lib.bitLen acc
    · rw [if_pos hc, if_pos (by omega)]
    · rw [if_neg hc, if_neg (by omega)]
theorem rnorm_f (l : List Int) (hl : l.length ≤ 500) (hw : Rng l) (k : Nat) (hk : 600 ≤ k) : earshotref03_Norm.f k l = some ((normN l : Nat) : Int) := by
  have h := rnorm_l0 l hl hw l.length k 0 0 (by omega) (by decide) (by omega)
  rw [bl_zero] at h
  unfold earshotref03_Norm.f
  rw [show ((0 : Nat) : Int) = 0 from rfl] at h
  rw [h, List.drop_zero, Nat.zero_or]
  rfl
theorem rmay_f (n : Nat) (hn : n ≤ 1000) : earshotref10_May.f (n : Int) = some (fftMay n) := by
  by_cases h : fftMay n = true
  · rw [h]; exact refmay10_f n h
  · rw [show fftMay n = false by simpa using h]
    exact rmay_no ⟨n, by omega⟩ (by simpa using h)
theorem rhalves (re im : List Int) (M H : Nat) (s : Nat) (hs : s ≤ 62) (hr : re.length = M) (hi : im.length = M) (hM : M = H + 1) (hH : H ≤ 32) (rr : Rng re) (ri : Rng im) (N : Int) (hN : Aside0 (wrap64 (Int.tdiv N 2) = (H : Int))) : ∀ (d n k : Nat) (ys zs : List Int), n + d = M → ys.length = M → zs.length = M →
    (∀ j, j < M → ys.getD j 0 = if j < n then (halfL re s).getD j 0 else re.getD j 0) → (∀ j, j < M → zs.getD j 0 = if j < n then (halfL im s).getD j 0 else im.getD j 0) →
    earshotref10_Bins.l1 (k + 100 + d) N (n : Int) ys zs (s : Int) = some (halfL re s, halfL im s, (s : Int))
  | 0, n, k, ys, zs, hn, hy, hz, gy, gz => by
    show earshotref10_Bins.l1 ((k + 99) + 1) _ _ _ _ _ = _
    rw [earshotref10_Bins.l1, hN.out, if_neg (by omega)]
    have e1 : ys = halfL re s := row_ext (by rw [halfL_length, hy, hr]) (fun j hj => by rw [gy j (by omega), if_pos (by omega)])
    have e2 : zs = halfL im s := row_ext (by rw [halfL_length, hz, hi]) (fun j hj => by rw [gz j (by omega), if_pos (by omega)])
    rw [e1, e2]
  | d + 1, n, k, ys, zs, hn, hy, hz, gy, gz => by
    have ry : rd ys (n : Int) = re.getD n 0 := by unfold rd; rw [Int.toNat_natCast, gy n (by omega), if_neg (by omega)]
    have rz : rd zs (n : Int) = im.getD n 0 := by unfold rd; rw [Int.toNat_natCast, gz n (by omega), if_neg (by omega)]
    have e1 : Aside0 (wrap64 ((n : Int) + 1) = ((n + 1 : Nat) : Int)) := ⟨by unfold wrap64; omega⟩
    rw [show k + 100 + (d + 1) = (k + 100 + d) + 1 by omega, earshotref10_Bins.l1, hN.out, if_pos (by omega), if_pos (by omega), if_pos (by omega), ry, rz, rhalf_f (rng_at rr n (by omega)) s hs _ (by omega), bsome, if_pos (by omega), rhalf_f (rng_at ri n (by omega)) s hs _ (by omega), bsome, e1.out, Int.toNat_natCast]
    exact rhalves re im M H s hs hr hi hM hH rr ri N hN d (n + 1) k _ _ (by omega) (by rw [List.length_set, hy]) (by rw [List.length_set, hz]) (fun j hj => set_half (s := s) hy hr (by omega) gy j hj) (fun j hj => set_half (s := s) hz hi (by omega) gz j hj)
theorem rbins_l0 (l : List Int) (hin : In64 l) (N H : Nat) (hl : l.length = N) (hm : fftMay N = true) (hH : N / 2 = H) (k : Nat) : ∀ (d n : Nat), n + d = H + 1 →
    earshotref10_Bins.l0 (k + 2000 + d) l (N : Int) (n : Int) (partsRe (spinsF l) n) (partsIm (spinsF l) n) 0 = some (binsF l)
  | 0, n, hn => by
    obtain rfl : n = H + 1 := by omega
    have hN64 : 2 ≤ N ∧ N ≤ 64 ∧ H ≤ 32 := by rcases fftMay_cases hm with rfl | rfl | rfl | rfl | rfl | rfl <;> omega
    have hq : Aside0 (wrap64 (Int.tdiv (N : Int) 2) = (H : Int)) := ⟨by
      have : Int.tdiv (N : Int) 2 = (H : Int) := by rw [Int.tdiv_eq_ediv_of_nonneg (by omega)]; omega
      rw [this]; exact W_in (by omega) (by omega)⟩
    have l1 := partsRe_length (spinsF l) (H + 1)
    have l2 := partsIm_length (spinsF l) (H + 1)
    have r1 := partsRe_rng (spinsF l) (H + 1)
    have r2 := partsIm_rng (spinsF l) (H + 1)
    have hb : binsF l = (halfL (partsRe (spinsF l) (H + 1)) (shiftOf (partsRe (spinsF l) (H + 1)) (partsIm (spinsF l) (H + 1))), halfL (partsIm (spinsF l) (H + 1)) (shiftOf (partsRe (spinsF l) (H + 1)) (partsIm (spinsF l) (H + 1))), ((shiftOf (partsRe (spinsF l) (H + 1)) (partsIm (spinsF l) (H + 1)) : Nat) : Int)) := by
      unfold binsF
      rw [hl, if_pos hm, hH]
    rw [hb]
    generalize partsRe (spinsF l) (H + 1) = re at *
    generalize partsIm (spinsF l) (H + 1) = im at *
    show earshotref10_Bins.l0 ((k + 1999) + 1) _ _ _ _ _ _ = _
    rw [earshotref10_Bins.l0, hq.out, if_neg (by omega), bsome, if_pos (by simp [l1]; omega), bsome, if_pos (by simp [l1, l2]; omega), List.nil_append, rnorm_f (re ++ im) (by simp [l1, l2]; omega) (r1.append r2) _ (by omega), bsome]
    have hnn := normN_le (r1.append r2)
    unfold shiftOf
    by_cases hc : ((normN (re ++ im) : Nat) : Int) > 15
    · rw [if_pos hc]
      have e : wrap64 (((normN (re ++ im) : Nat) : Int) - 15) = ((normN (re ++ im) - 15 : Nat) : Int) := by
        rw [W_in (by omega) (by omega)]; omega
      rw [e]
      show earshotref10_Bins.j1 ((k + 1998) + 1) _ _ _ _ = _
      rw [earshotref10_Bins.j1]
      have h := rhalves re im (H + 1) H (normN (re ++ im) - 15) (by omega) l1 l2 rfl hN64.2.2 r1 r2 (N : Int) hq (H + 1) 0 (k + 1998 - 100 - (H + 1)) re im (by omega) l1 l2 (fun j _ => by rw [if_neg (by omega)]) (fun j _ => by rw [if_neg (by omega)])
      rw [show k + 1998 - 100 - (H + 1) + 100 + (H + 1) = k + 1998 by omega] at h
      exact h
    · rw [if_neg hc]
      have e : normN (re ++ im) - 15 = 0 := by omega
      rw [e]
      show earshotref10_Bins.j1 ((k + 1998) + 1) _ _ _ _ = _
      rw [earshotref10_Bins.j1]
      have h := rhalves re im (H + 1) H 0 (by omega) l1 l2 rfl hN64.2.2 r1 r2 (N : Int) hq (H + 1) 0 (k + 1998 - 100 - (H + 1)) re im (by omega) l1 l2 (fun j _ => by rw [if_neg (by omega)]) (fun j _ => by rw [if_neg (by omega)])
      rw [show k + 1998 - 100 - (H + 1) + 100 + (H + 1) = k + 1998 by omega] at h
      exact h
  | d + 1, n, hn => by
    have hN64 : 2 ≤ N ∧ N ≤ 64 ∧ H ≤ 32 ∧ H < N := by rcases fftMay_cases hm with rfl | rfl | rfl | rfl | rfl | rfl <;> omega
    have hq : Aside0 (wrap64 (Int.tdiv (N : Int) 2) = (H : Int)) := ⟨by
      have : Int.tdiv (N : Int) 2 = (H : Int) := by rw [Int.tdiv_eq_ediv_of_nonneg (by omega)]; omega
      rw [this]; exact W_in (by omega) (by omega)⟩
    have hs : earshotref10_Sum.f (n : Int) l = some ((spinsF l).getD n []) := by
      unfold earshotref10_Sum.f
      rw [if_pos (by simp only [Bool.and_eq_true, decide_eq_true_eq, List.all_eq_true]; exact ⟨⟨⟨by omega, fun x hx => hin x hx⟩, by omega⟩, by omega⟩)]
      unfold sumF
      rw [hl, if_pos hm, spinAt_row l hin (by rw [hl]; exact hm) n (by omega)]
    have hrl : ((spinsF l).getD n []).length ≤ 1000 := by
      rw [spinAt_row l hin (by rw [hl]; exact hm) n (by omega), spinAt_length, hl, hH]; omega
    have e1 : Aside0 (wrap64 ((n : Int) + 1) = ((n + 1 : Nat) : Int)) := ⟨by unfold wrap64; omega⟩
    have hre : earshotref09_Real.f (k + 2000 + d) ((spinsF l).getD n []) = some (sp_part ((spinsF l).getD n []) cosT) := up_ (fun k => earshotref09_Real.mono _ k) (refreal_f _ hrl) (by omega)
    have him : earshotref09_Imag.f (k + 2000 + d) ((spinsF l).getD n []) = some (wrap64 (-(sp_part ((spinsF l).getD n []) sinT))) := up_ (fun k => earshotref09_Imag.mono _ k) (refimag_f _ hrl) (by omega)
    rw [show k + 2000 + (d + 1) = (k + 2000 + d) + 1 by omega, earshotref10_Bins.l0, hq.out, if_pos (by omega), hs, bsome, hre, bsome, if_pos (by rw [partsRe_length]; omega), him, bsome, if_pos (by rw [partsIm_length]; omega), e1.out, partsRe_snoc, partsIm_snoc]
    exact rbins_l0 l hin N H hl hm hH k d (n + 1) (by omega)
theorem rbins_f (l : List Int) (hin : In64 l) (hl : l.length ≤ 70) (k : Nat) : earshotref10_Bins.f (k + 2100) l = some (binsF l) := by
  unfold earshotref10_Bins.f
  rw [rmay_f _ (by omega), bsome]
  by_cases hm : fftMay l.length = true
  · rw [if_pos hm]
    have hH : l.length / 2 + 1 ≤ 100 := by omega
    have h := rbins_l0 l hin l.length (l.length / 2) rfl hm rfl (k + 100 - (l.length / 2 + 1)) (l.length / 2 + 1) 0 (by omega)
    rw [show k + 100 - (l.length / 2 + 1) + 2000 + (l.length / 2 + 1) = k + 2100 by omega] at h
    exact h
  · rw [if_neg hm]
    unfold binsF
    rw [if_neg hm]
theorem rd_nat (l : List Int) (n : Nat) : rd l (n : Int) = l.getD n 0 := by unfold rd; rw [Int.toNat_natCast]
theorem rpow_go (a b : List Int) (h : a.length = b.length) (hl : a.length ≤ 1000) (k : Nat) : ∀ (d n : Nat), n + d = a.length → earshotref10_Power.l0 (k + 1 + d) a b ((powL a b).take n) (n : Int) = some (powL a b)
  | 0, n, hn => by
    rw [earshotref10_Power.l0, if_neg (by omega), List.take_of_length_le (by rw [powL_length h]; omega)]
  | d + 1, n, hn => by
    have e1 : wrap64 ((n : Int) + 1) = ((n + 1 : Nat) : Int) := by unfold wrap64; omega
    have ez := zip_take (fun x y => wrap64 (wrap64 (x * x) + wrap64 (y * y))) a b n (by omega) (by omega)
    rw [show k + 1 + (d + 1) = (k + 1 + d) + 1 by omega, earshotref10_Power.l0, if_pos (by omega), if_pos (by omega), if_pos (by omega), if_pos (by rw [List.length_take]; omega), rd_nat, rd_nat, e1]
    have e2 : (powL a b).take n ++ [wrap64 (wrap64 (a.getD n 0 * a.getD n 0) + wrap64 (b.getD n 0 * b.getD n 0))] = (powL a b).take (n + 1) := ez
    rw [e2]
    exact rpow_go a b h hl k d (n + 1) (by omega)
theorem rpow_f (a b : List Int) (h : a.length = b.length) (hl : a.length ≤ 1000) (k : Nat) (hk : 1001 ≤ k) : earshotref10_Power.f k a b = some (powL a b) := by
  have := rpow_go a b h hl (k - 1 - a.length) a.length 0 (by omega)
  rw [show k - 1 - a.length + 1 + a.length = k by omega] at this
  exact this
theorem fpow_f (a b : List Int) (h : a.length = b.length) (hl : a.length ≤ 1000) : fft_Power.f a b = some (powL a b) := by
  unfold fft_Power.f
  rw [if_pos (by simp only [Bool.and_eq_true, decide_eq_true_eq]; exact ⟨h, hl⟩)]
theorem bins_len (v : List Int) (hl : v.length ≤ 70) : (binsF v).1.length = (binsF v).2.1.length ∧ (binsF v).1.length ≤ 40 := by
  unfold binsF
  split
  · simp only [halfL_length, partsRe_length, partsIm_length]
    exact ⟨trivial, by omega⟩
  · exact ⟨rfl, by decide⟩
theorem bins_true (v : List Int) (hin : In64 v) (hl : v.length ≤ 70) : earshotlaw10_bins.f 5000 v = some true := by
  have hb : fft_Bins.f v = some (binsF v) := by
    unfold fft_Bins.f
    rw [if_pos (by simp only [Bool.and_eq_true, decide_eq_true_eq, List.all_eq_true]; exact ⟨by omega, fun x hx => hin x hx⟩)]
  obtain ⟨h1, h2⟩ := bins_len v hl
  have hr := rbins_f v hin hl 2900
  unfold earshotlaw10_bins.f
  rw [hb, bsome, hr, bsome, sameK _ (by omega) (by omega), bsome, sameK _ (by omega) (by omega), bsome, fpow_f _ _ h1 (by omega), bsome, rpow_f _ _ h1 (by omega) _ (by decide), bsome, sameK _ (by rw [powL_length h1]; omega) (by rw [powL_length h1]; omega), bsome, rmay_f _ (by omega), bsome, if_pos rfl, if_pos rfl, if_pos rfl, if_pos rfl]
  by_cases hm : fftMay v.length = true
  · rw [if_pos hm]
  · rw [if_neg hm]
    have hs : fft_Spins.f v = some [] := by
      unfold fft_Spins.f
      rw [if_pos (by simp only [Bool.and_eq_true, decide_eq_true_eq, List.all_eq_true]; exact ⟨by omega, fun x hx => hin x hx⟩)]
      unfold spinsF
      rw [if_neg hm]
    have ht : fft_Sum.f 1 v = some [] := by
      unfold fft_Sum.f
      rw [if_pos (by simp only [Bool.and_eq_true, decide_eq_true_eq, List.all_eq_true]; exact ⟨⟨⟨by omega, fun x hx => hin x hx⟩, by decide⟩, by decide⟩)]
      unfold sumF
      rw [if_neg hm]
    have e : wrap64 ((([] : List (List Int)).length : Int) + (([] : List Int).length : Int)) = 0 := W_in (a := 0) (by decide) (by decide)
    rw [hs, bsome, ht, bsome, e]
    rfl
theorem sized_in {n : Nat} {l : List Int} (h : In64 l) : In64 (sizedL n l) := by
  intro x hx
  simp only [sizedL, List.mem_map] at hx
  obtain ⟨i, _, rfl⟩ := hx
  rw [← h.getD]
  exact ⟨W_lo _, W_hi _⟩
theorem size_le (a : Int) : sizeOf_ a ≤ 64 := by
  have m0 := Int.emod_nonneg a (show (6 : Int) ≠ 0 by decide)
  have m1 := Int.emod_lt_of_pos a (show (0 : Int) < 6 by decide)
  have h : a % 6 = 0 ∨ a % 6 = 1 ∨ a % 6 = 2 ∨ a % 6 = 3 ∨ a % 6 = 4 ∨ a % 6 = 5 := by omega
  unfold sizeOf_
  rcases h with h | h | h | h | h | h <;> rw [h] <;> decide
theorem law_true (l : List Int) (a : Int) (hin : In64 l) (hl : l.length ≤ 70) : ∀ c : Bool, (earshotlaw10_sized.f l a).bind (fun t => (earshotlaw10_bins.f 5000 t).bind fun t1 => (if t1 = true then ((earshotlaw10_bins.f 5000 l).bind fun t2 => (some t2)) else (some c))) = some true := by
  intro c
  have hs : earshotlaw10_sized.f l a = some (sizedL (sizeOf_ a) l) := by
    unfold earshotlaw10_sized.f
    rw [if_pos (by simp only [decide_eq_true_eq]; omega)]
  have h64 := size_le a
  rw [hs, bsome, bins_true _ (sized_in hin) (by rw [sizedL_length]; omega), bsome, if_pos rfl, bins_true l hin hl, bsome]
theorem FftBins : earshotlaw10_FftBins.Pure := by
  intro l0 a1 hm _ hw _
  have hin : In64 l0 := fun x hx => wf_i64 (hw x hx)
  refine ⟨5000, ?_⟩
  unfold earshotlaw10_FftBins.f
  rw [show earshotlaw10_awake.f = some true from rfl, bsome]
  by_cases h : (l0.length : Int) > 70
  · rw [if_pos h, if_pos (by omega), if_pos rfl]
    exact law_true _ a1 (fun x hx => hin x (List.mem_of_mem_take hx)) (by rw [List.length_take]; omega) false
  · rw [if_neg h, if_pos rfl]
    exact law_true _ a1 hin (by omega) false
end Go.Proofs.YtphmfecabbellaaDoor.Pure
