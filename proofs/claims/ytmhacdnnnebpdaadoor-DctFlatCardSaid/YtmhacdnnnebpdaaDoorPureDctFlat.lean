/- The plain law of DctFlat: what the functions compute answers as the statement says. No conditions beside the statement's own. -/
import Derived.Test.YtmhacdnnnebpdaaDoorPDctFlatx
import Derived.Laws.BitsAllLaws
namespace Go.Proofs.YtmhacdnnnebpdaaDoor.Pure
open Go.RowKit Go.Proofs.YtmhacdnnnebpdaaDoor.PDctFlat Go.Proofs.YtmhacdnnnebpdaaDoorW.PrintWords Go.Proofs.YtmhacdnnnebpdaaDoorW.PrintLast Go.Proofs.YtmhacdnnnebpdaaDoorW.PrintMore
set_option linter.unusedVariables false
set_option linter.unusedSimpArgs false
theorem bsome {α β : Type} (a : α) (f : α → Option β) : (some a).bind f = f a := by
  generalize h : some a = o
  cases o with
  | none => cases h
  | some b => cases h; rfl
theorem wf_i64 {x : Int} (h : (Lit.int .i64 x).wf = true) : -9223372036854775808 ≤ x ∧ x ≤ 9223372036854775807 := by
  simp only [Lit.wf, Bool.and_eq_true, decide_eq_true_eq] at h
  exact h
theorem wf_u32 {x : Int} (h : (Lit.int .u32 x).wf = true) : 0 ≤ x ∧ x < 4294967296 := by
  simp only [Lit.wf, Bool.and_eq_true, decide_eq_true_eq] at h
  obtain ⟨h0, h1⟩ := h
  have h2 : x ≤ 4294967295 := h1
  exact ⟨h0, by omega⟩
theorem wf_u64 {x : Int} (h : (Lit.int .u64 x).wf = true) : 0 ≤ x ∧ x < 18446744073709551616 := by
  simp only [Lit.wf, Bool.and_eq_true, decide_eq_true_eq] at h
  obtain ⟨h0, h1⟩ := h
  have h2 : x ≤ 18446744073709551615 := h1
  exact ⟨h0, by omega⟩
theorem i64_mask (i : Nat) (hi : i ≤ 62) (n m : Int) (hm : m = ((2 ^ i - 1 : Nat) : Int)) : Go.bits .and .i64 n m = n % ((2 ^ i : Nat) : Int) := by
  have hp : 0 < 2 ^ i := Nat.two_pow_pos i
  have hle : 2 ^ i ≤ 4611686018427387904 := Nat.pow_le_pow_right (n := 2) (by decide) hi
  have h1 : (BitVec.ofInt 64 m).toNat = 2 ^ i - 1 := by
    subst hm
    rw [BitVec.ofInt_natCast, BitVec.toNat_ofNat]
    exact Nat.mod_eq_of_lt (by omega)
  have key : (BitVec.ofInt 64 n &&& BitVec.ofInt 64 m).toNat = (n % ((2 ^ 64 : Nat) : Int)).toNat % 2 ^ i := by
    rw [BitVec.toNat_and, BitVec.toNat_ofInt, h1, Nat.and_two_pow_sub_one_eq_mod]
  show IntKind.i64.wrap ((BitVec.ofInt 64 n &&& BitVec.ofInt 64 m).toNat : Nat) = n % _
  rw [key, IntKind.wrap_i64]
  have r0 : 0 ≤ n % ((2 ^ 64 : Nat) : Int) := Int.emod_nonneg _ (by decide)
  have e : (((n % ((2 ^ 64 : Nat) : Int)).toNat % 2 ^ i : Nat) : Int) = n % ((2 ^ i : Nat) : Int) := by
    rw [Int.natCast_emod, Int.toNat_of_nonneg r0]
    refine Int.emod_emod_of_dvd _ ?_
    exact Int.natCast_dvd_natCast.2 (Nat.pow_dvd_pow 2 (by omega))
  rw [e]
  generalize hz : n % ((2 ^ i : Nat) : Int) = z
  have m0 : 0 ≤ z := hz ▸ Int.emod_nonneg _ (by omega)
  have m1 : z < ((2 ^ i : Nat) : Int) := hz ▸ Int.emod_lt_of_pos _ (by omega)
  have hle' : ((2 ^ i : Nat) : Int) ≤ 4611686018427387904 := Int.ofNat_le.2 hle
  have m2 : z < 4611686018427387904 := Int.lt_of_lt_of_le m1 hle'
  clear m1 hle' hle hz e key h1
  omega
theorem same_goK (l : List Int) (hl : l.length ≤ 100000000) (d : Nat) : ∀ (k i : Nat), i ≤ l.length → l.length - i = d → d < k → earshotref04_Same.l0 k l l (i : Int) = some true := by
  induction d with
  | zero =>
    intro k i h0 hd hk
    obtain ⟨k, rfl⟩ : ∃ m, k = m + 1 := ⟨k - 1, by omega⟩
    simp only [earshotref04_Same.l0]
    rw [if_neg (by omega)]
  | succ d ih =>
    intro k i h0 hd hk
    obtain ⟨k, rfl⟩ : ∃ m, k = m + 1 := ⟨k - 1, by omega⟩
    simp only [earshotref04_Same.l0]
    have hw : wrap64 ((i : Int) + 1) = ((i + 1 : Nat) : Int) := by unfold wrap64; omega
    rw [if_pos (by omega), if_pos (by omega), if_pos (by omega), if_pos trivial, hw]
    exact ih k (i + 1) (by omega) (by omega) (by omega)
theorem sameK (l : List Int) (hl : l.length ≤ 100000000) {k : Nat} (hk : l.length < k) : earshotref04_Same.f k l l = some true := by
  unfold earshotref04_Same.f
  rw [if_pos rfl]
  exact same_goK l hl l.length k 0 (by omega) (by omega) (by omega)
theorem dS_S (c x : List Int) : ∀ n, dS c x n = wrap64 (S n (fun j => c.getD j 0 * x.getD j 0))
  | 0 => (W_in (a := 0) (by decide) (by decide)).symm
  | n + 1 => by rw [dS, dS_S c x n, W_W_add, W_add_W]; rfl
def rowSum (k n : Nat) : Int := S n (fun j => (dctRow k n).getD j 0)
theorem rsum4 : ∀ k : Fin 4, rowSum k.1 4 = if k.1 = 0 then 65536 else 0 := by decide +kernel
theorem rsum8 : ∀ k : Fin 8, rowSum k.1 8 = if k.1 = 0 then 131072 else 0 := by decide +kernel
theorem rsum16 : ∀ k : Fin 16, rowSum k.1 16 = if k.1 = 0 then 262144 else 0 := by decide +kernel
theorem rsum {k n : Nat} (hm : mayB n = true) (hk : k < n) : rowSum k n = if k = 0 then (n : Int) * 16384 else 0 := by
  rcases mayB_cases hm with rfl | rfl | rfl
  · exact rsum4 ⟨k, hk⟩
  · exact rsum8 ⟨k, hk⟩
  · exact rsum16 ⟨k, hk⟩
theorem divR_14' (x : Int) : divR x 16384 = (x + 8192) / 16384 := by
  unfold divR
  rw [if_neg (by decide)]
  split <;> omega
theorem dflat_awake : ∀ k, 30 ≤ k → earshotlaw12_awake.f k = some true := by
  intro k hk
  obtain ⟨d, rfl⟩ := Nat.exists_eq_add_of_le hk
  clear hk
  induction d with
  | zero => decide +kernel
  | succ d ih => exact earshotlaw12_awake.mono _ _ ih
/-- A coefficient of numbers that all are the same. -/
theorem flat_coef {k n : Nat} (hm : mayB n = true) (hk : k < n) {d : Int} (d0 : -549755813888 ≤ d) (d1 : d ≤ 549755813888) (l : List Int) (hl : l.length = n) (hd : ∀ j, j < n → l.getD j 0 = d) : dctV l k = if k = 0 then (n : Int) * d else 0 := by
  have hn : n ≤ 16 := by rcases mayB_cases hm with rfl | rfl | rfl <;> omega
  unfold dctV
  rw [hl, dS_S]
  have e : S n (fun j => (dctRow k n).getD j 0 * l.getD j 0) = rowSum k n * d := by
    unfold rowSum
    rw [← S_mul_r]
    exact S_congr (fun i hi => by rw [hd i hi])
  rw [e, rsum hm hk]
  by_cases h0 : k = 0
  · rw [if_pos h0, if_pos h0, divR_14']
    rcases mayB_cases hm with rfl | rfl | rfl
    · rw [W_in (by omega) (by omega)]; omega
    · rw [W_in (by omega) (by omega)]; omega
    · rw [W_in (by omega) (by omega)]; omega
  · rw [if_neg h0, if_neg h0, Int.zero_mul]; decide +kernel
theorem dctF_yes {K : Nat} {l : List Int} (hm : mayB l.length = true) (h1 : 1 ≤ K) (h2 : K ≤ l.length) : dct_Dct.f (K : Int) l = some (dctL K l) := by
  have hn : l.length ≤ 16 := by rcases mayB_cases hm with h | h | h <;> omega
  unfold dct_Dct.f dctF dctMay
  rw [if_pos (decide_eq_true (by omega)), if_pos]
  · rw [Int.toNat_natCast]
  · rw [hm, decide_eq_true (show (1 : Int) ≤ (K : Int) by omega), decide_eq_true (show (K : Int) ≤ (l.length : Int) by omega)]; rfl
theorem dctL_length (K : Nat) (l : List Int) : (dctL K l).length = K := by simp [dctL]
theorem dctL_rd (K : Nat) (l : List Int) (i : Nat) (h : i < K) : rd (dctL K l) (i : Int) = dctV l i := by
  unfold rd dctL
  rw [Int.toNat_natCast]
  exact getD_map_range K (dctV l) i h
theorem dctL_take (K n : Nat) (l : List Int) (h : K ≤ n) : (dctL n l).take K = dctL K l := by
  unfold dctL
  rw [← List.map_take, List.take_range, Nat.min_eq_left h]
theorem ww1 {i : Nat} (h : i < 1000) : wrap64 ((i : Int) + 1) = ((i + 1 : Nat) : Int) := by unfold wrap64; omega
theorem flat_l1 {n K : Nat} (hm : mayB n = true) (x0 d : Int) (hd : x0 / 16777216 = d) (d0 : -549755813888 ≤ d) (d1 : d ≤ 549755813888) (fl v : List Int) (hfl : fl.length = n) (hfd : ∀ j, j < n → fl.getD j 0 = d) (hK : K ≤ n) : ∀ e k i, i + e = n → e + 40 ≤ k →
    earshotlaw12_DctFlat.l1 k x0 true (n : Int) (dctL n fl) (dctL n v) (K : Int) (dctL K v) (i : Int) = some true := by
  have hn : n ≤ 16 := by rcases mayB_cases hm with rfl | rfl | rfl <;> omega
  intro e
  induction e with
  | zero =>
    intro k i hi hk
    obtain ⟨k, rfl⟩ : ∃ j, k = j + 1 := ⟨k - 1, by omega⟩
    rw [earshotlaw12_DctFlat.l1, if_neg (by omega), if_pos (by omega), if_pos (by rw [dctL_length]; omega), Int.toNat_natCast, dctL_take _ _ _ hK, sameK _ (by rw [dctL_length]; omega) (by rw [dctL_length]; omega), bsome, if_pos rfl]
  | succ e ih =>
    intro k i hi hk
    obtain ⟨k, rfl⟩ : ∃ j, k = j + 1 := ⟨k - 1, by omega⟩
    have hlt : i < n := by omega
    have c0 : (i : Int) < (n : Int) := by omega
    have c1 : (0 : Int) ≤ (i : Int) := by omega
    have c2 : i ≠ 0 → (i : Int) > 0 ∧ ¬ (i : Int) = 0 := by omega
    have c3 : (i : Int) < ((dctL n fl).length : Int) := by rw [dctL_length]; exact c0
    have hc := flat_coef hm hlt d0 d1 fl hfl hfd
    have hr := dctL_rd n fl i hlt
    have hw := ww1 (i := i) (by omega)
    have hgo := ih k (i + 1) (by omega) (by omega)
    rw [earshotlaw12_DctFlat.l1, if_pos c0]
    by_cases h0 : i = 0
    · subst h0
      rw [if_pos rfl] at hc
      have hwd : wrap64 ((n : Int) * d) = (n : Int) * d := by
        rcases mayB_cases hm with rfl | rfl | rfl <;> exact W_in (by omega) (by omega)
      rw [if_pos (by rfl), if_pos c1, if_pos c3, hr, hc, hd, hwd, if_pos rfl, if_neg (by decide), hw]
      exact hgo
    · rw [if_neg h0] at hc
      rw [if_neg (c2 h0).2, if_pos (c2 h0).1, if_pos c1, if_pos c3, hr, hc, if_pos rfl, hw]
      exact hgo
theorem flat_l0 {n K : Nat} (hm : mayB n = true) (x0 d b0 b1 : Int) (hd : x0 / 16777216 = d) (d0 : -549755813888 ≤ d) (d1 : d ≤ 549755813888) (v : List Int) (hv : v.length = n) (hK : wrap64 (1 + Go.bits .and .i64 b1 (wrap64 ((n : Int) - 1))) = (K : Int)) (hK1 : 1 ≤ K) (hK2 : K ≤ n) : ∀ e k i (fl : List Int), i + e = n → e + 80 ≤ k → fl.length = n → (∀ j, j < i → fl.getD j 0 = d) →
    earshotlaw12_DctFlat.l0 k x0 true v (n : Int) fl (i : Int) b0 b1 = some true := by
  have hn : n ≤ 16 := by rcases mayB_cases hm with rfl | rfl | rfl <;> omega
  intro e
  induction e with
  | zero =>
    intro k i fl hi hk hfl hfd
    obtain ⟨k, rfl⟩ : ∃ j, k = j + 2 := ⟨k - 2, by omega⟩
    obtain rfl : i = n := by omega
    rw [earshotlaw12_DctFlat.l0, if_neg (by omega)]
    have e1 := dctF_yes (K := i) (l := fl) (by rw [hfl]; exact hm) (by omega) (by omega)
    have e2 := dctF_yes (K := i) (l := v) (by rw [hv]; exact hm) (by omega) (by omega)
    have e3 := dctF_yes (K := K) (l := v) (by rw [hv]; exact hm) (by omega) (by omega)
    rw [e1, bsome, e2, bsome, hK, e3, bsome, dctL_length, if_pos rfl, dctL_length, earshotlaw12_DctFlat.j1, if_neg (by simp)]
    exact flat_l1 hm x0 d hd d0 d1 fl v hfl hfd hK2 i k 0 (by omega) (by omega)
  | succ e ih =>
    intro k i fl hi hk hfl hfd
    obtain ⟨k, rfl⟩ : ∃ j, k = j + 1 := ⟨k - 1, by omega⟩
    have hgo := ih k (i + 1) (fl.set i d) (by omega) (by omega) (by rw [List.length_set, hfl]) (fun j hj => by
      by_cases h : j = i
      · subst h; rw [List.getD_eq_getElem?_getD, List.getElem?_set_self (by omega)]; rfl
      · have := hfd j (by omega)
        rw [List.getD_eq_getElem?_getD] at this ⊢
        rw [List.getElem?_set_ne (fun h' => h h'.symm)]; exact this)
    rw [earshotlaw12_DctFlat.l0, if_pos (by omega), if_pos (by omega), if_pos (by omega), hd, Int.toNat_natCast, ww1 (by omega)]
    exact hgo
theorem DctFlat : earshotlaw12_DctFlat.Pure := by
  intro a0 l1 b0 b1 h0 h1 h2 h3 h4 h5
  refine ⟨200, ?_⟩
  unfold earshotlaw12_DctFlat.f
  rw [dflat_awake _ (by decide), bsome]
  have hs : earshotlaw12_sized.f l1 b0 = some (sizedL (sizeOf_ b0) l1) := by unfold earshotlaw12_sized.f; rw [if_pos (decide_eq_true (by omega))]
  rw [hs, bsome]
  have m0 := Int.emod_nonneg b0 (show (3 : Int) ≠ 0 by decide)
  have m1 := Int.emod_lt_of_pos b0 (show (0 : Int) < 3 by decide)
  have hc : b0 % 3 = 0 ∨ b0 % 3 = 1 ∨ b0 % 3 = 2 := by omega
  have hsz : ∃ e, sizeOf_ b0 = 2 ^ e ∧ 2 ≤ e ∧ e ≤ 4 := by
    unfold sizeOf_
    rcases hc with h | h | h
    · exact ⟨2, by rw [h]; rfl, by decide, by decide⟩
    · exact ⟨3, by rw [h]; rfl, by decide, by decide⟩
    · exact ⟨4, by rw [h]; rfl, by decide, by decide⟩
  obtain ⟨e, he, he1, he2⟩ := hsz
  have hlen : (sizedL (sizeOf_ b0) l1).length = 2 ^ e := by rw [sizedL_length, he]
  have hm : mayB (2 ^ e) = true := by
    have : e = 2 ∨ e = 3 ∨ e = 4 := by omega
    rcases this with rfl | rfl | rfl <;> rfl
  generalize sizedL (sizeOf_ b0) l1 = v at hlen
  have hn : 4 ≤ 2 ^ e ∧ 2 ^ e ≤ 16 := by
    have : e = 2 ∨ e = 3 ∨ e = 4 := by omega
    rcases this with rfl | rfl | rfl <;> decide
  have hmask := i64_mask e (by omega) b1 (((2 ^ e - 1 : Nat)) : Int) rfl
  have r0 := Int.emod_nonneg b1 (show ((2 ^ e : Nat) : Int) ≠ 0 by omega)
  have r1 := Int.emod_lt_of_pos b1 (show 0 < ((2 ^ e : Nat) : Int) by omega)
  rw [hlen, if_pos (by omega), if_pos (by omega), Int.toNat_natCast]
  generalize 2 ^ e = n at *
  obtain ⟨q, hq⟩ := Int.eq_ofNat_of_zero_le r0
  rw [hq] at hmask r1
  have hw := wf_i64 h0
  have hK : wrap64 (1 + Go.bits .and .i64 b1 (wrap64 ((n : Int) - 1))) = ((q + 1 : Nat) : Int) := by
    rw [show wrap64 ((n : Int) - 1) = ((n - 1 : Nat) : Int) from (by clear hmask; unfold wrap64; omega), hmask]
    clear hmask; unfold wrap64; omega
  exact flat_l0 hm a0 (a0 / 16777216) b0 b1 rfl (by omega) (by omega) v hlen hK (by omega) (by omega) n 200 0 (List.replicate n 0) (by omega) (by omega) (by simp) (fun j hj => by omega)
end Go.Proofs.YtmhacdnnnebpdaaDoor.Pure
