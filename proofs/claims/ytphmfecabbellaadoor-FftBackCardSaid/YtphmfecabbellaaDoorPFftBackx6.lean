-- Written by a program of this work (wip/tools) for this claim; Lean checks it.
import Derived.Test.YtphmfecabbellaaDoorPFftBackx0
import Derived.Test.YtphmfecabbellaaDoorPFftBackx1
import Derived.Test.YtphmfecabbellaaDoorPFftBackx2
import Derived.Test.YtphmfecabbellaaDoorPFftBackx4
import Derived.Test.YtphmfecabbellaaDoorPFftBackx5
namespace Go.Proofs.YtphmfecabbellaaDoor.PFftBack
open Go.RowKit Go.Proofs.YtphmfecabbellaaDoorW.PrintWords Go.Proofs.YtphmfecabbellaaDoorW.PrintLast Go.Proofs.YtphmfecabbellaaDoorW.PrintMore
attribute [local go_sem] max2_int min2_int max_two min_two max_three min_three max_four min_four   -- for this text's walks alone
set_option linter.unusedVariables false
set_option linter.unusedSimpArgs false

/-! ### earshotlaw10_FftBack: function 8 -/
-- PURE intro l0 a k _ h8 hw ha hk; unfold earshotlaw10_FftBack.f; rw [if_pos]; simp only [Bool.and_eq_true, decide_eq_true_eq, List.all_eq_true]; exact ⟨by omega, fun x hx => wf_i64 (hw x hx)⟩
/-! ### What fft.Spins computes: sums of samples, turned -/
def psi (H : Nat) (z : Int) : Int := if z % (2 * (H : Int)) = 0 then 1 else if z % (2 * (H : Int)) = (H : Int) then -1 else 0
theorem psi_mod {H : Nat} {x y : Int} (h : x % (2 * (H : Int)) = y % (2 * (H : Int))) : psi H x = psi H y := by unfold psi; rw [h]
theorem psi_half {H : Nat} (hH : 0 < H) (z : Int) : psi H (z + H) = -psi H z := by
  have r0 := Int.emod_nonneg z (show 2 * (H : Int) ≠ 0 by omega)
  have r1 := Int.emod_lt_of_pos z (show 0 < 2 * (H : Int) by omega)
  unfold psi
  rw [add_half H hH z]
  generalize z % (2 * (H : Int)) = r at *
  by_cases h1 : r < H
  · rw [if_pos h1]
    by_cases h2 : r = 0
    · rw [if_neg (by omega), if_pos (by omega), if_pos h2]
    · rw [if_neg (by omega), if_neg (by omega), if_neg h2, if_neg (by omega)]; rfl
  · rw [if_neg h1]
    by_cases h2 : r = H
    · rw [if_pos (by omega), if_neg (by omega), if_pos h2]; rfl
    · rw [if_neg (by omega), if_neg (by omega), if_neg (by omega), if_neg h2]; rfl
/-- Entry j of the row that sums x_i, i below n, each turned by p i. -/
def psS (H : Nat) (x : Nat → Int) (p : Nat → Int) (n : Nat) (j : Int) : Int := S n (fun i => x i * psi H (j - p i))
def psRow (H : Nat) (x : Nat → Int) (p : Nat → Int) (n : Nat) : List Int := (List.range H).map fun j : Nat => wrap64 (psS H x p n (j : Int))
theorem psRow_length (H : Nat) (x : Nat → Int) (p : Nat → Int) (n : Nat) : (psRow H x p n).length = H := by simp [psRow]
theorem psRow_getD (H : Nat) (x : Nat → Int) (p : Nat → Int) (n j : Nat) (hj : j < H) : (psRow H x p n).getD j 0 = wrap64 (psS H x p n (j : Int)) := getD_map_range H (fun j : Nat => wrap64 (psS H x p n (j : Int))) j hj
theorem psRow_in (H : Nat) (x : Nat → Int) (p : Nat → Int) (n : Nat) : In64 (psRow H x p n) := by
  intro y hy
  simp only [psRow, List.mem_map] at hy
  obtain ⟨j, _, rfl⟩ := hy
  exact ⟨W_lo _, W_hi _⟩
theorem psS_half {H : Nat} (hH : 0 < H) (x : Nat → Int) (p : Nat → Int) (n : Nat) (z : Int) : psS H x p n (z + H) = -psS H x p n z := by
  unfold psS
  rw [← S_neg]
  refine S_congr (fun i _ => ?_)
  rw [show z + (H : Int) - p i = z - p i + H by omega, psi_half hH, Int.mul_neg]
theorem psS_mod {H : Nat} (x : Nat → Int) (p : Nat → Int) (n : Nat) {y z : Int} (h : y % (2 * (H : Int)) = z % (2 * (H : Int))) : psS H x p n y = psS H x p n z := by
  unfold psS
  refine S_congr (fun i _ => ?_)
  congr 1
  exact psi_mod (by rw [Int.sub_emod, h, ← Int.sub_emod])
/-- The row's number at any place. -/
theorem ext_ps {H : Nat} (hH : 0 < H) (x : Nat → Int) (p : Nat → Int) (n : Nat) (z : Int) : ext (psRow H x p n) z = wrap64 (psS H x p n z) := by
  have r0 := Int.emod_nonneg z (show 2 * (H : Int) ≠ 0 by omega)
  have r1 := Int.emod_lt_of_pos z (show 0 < 2 * (H : Int) by omega)
  have hz : psS H x p n z = psS H x p n (z % (2 * (H : Int))) := psS_mod x p n (by rw [Int.emod_emod_of_dvd _ (Int.dvd_refl _)])
  unfold ext
  rw [psRow_length, hz]
  generalize z % (2 * (H : Int)) = r at *
  by_cases h : r.toNat < H
  · rw [if_pos h, psRow_getD _ _ _ _ _ h, Int.toNat_of_nonneg r0]
  · rw [if_neg h, psRow_getD _ _ _ _ _ (by omega), W_neg_W]
    have e : (((r.toNat - H : Nat)) : Int) + H = r := by omega
    rw [← psS_half hH, e]
theorem turn_ps {H : Nat} (hH : 0 < H) (x : Nat → Int) (p : Nat → Int) (n : Nat) (k : Int) : turnL (psRow H x p n) k = psRow H x (fun i => p i + k) n := by
  refine row_ext (by rw [turnL_length, psRow_length, psRow_length]) (fun j hj => ?_)
  rw [turnL_length, psRow_length] at hj
  rw [turnL_getD _ _ _ (by rw [psRow_length]; exact hj), ext_ps hH, psRow_getD _ _ _ _ _ hj]
  congr 1
  exact S_congr (fun i _ => by show _ = x i * psi H ((j : Int) - (p i + k)); rw [show (j : Int) - k - p i = (j : Int) - (p i + k) by omega])
theorem psRow_congr {H n : Nat} {x y : Nat → Int} {p q : Nat → Int} (h : ∀ i (j : Int), i < n → x i * psi H (j - p i) = y i * psi H (j - q i)) : psRow H x p n = psRow H y q n := by
  unfold psRow
  congr 1
  funext j
  congr 1
  exact S_congr (fun i hi => h i _ hi)
theorem psi_back {H : Nat} (hH : 0 < H) (z : Int) : psi H (z - H) = -psi H z := by
  have := psi_half hH (z - H)
  rw [show z - (H : Int) + H = z by omega] at this
  omega
theorem psi_per {H : Nat} (z : Int) (q : Nat) : psi H (z - ((q * (2 * H) : Nat) : Int)) = psi H z := by
  refine psi_mod ?_
  rw [show z - ((q * (2 * H) : Nat) : Int) = z + 2 * (H : Int) * (-(q : Int)) by rw [Int.natCast_mul, Int.natCast_mul, Int.mul_neg, Int.mul_comm (q : Int)]; rfl, Int.add_mul_emod_self_left]
/-- The samples from 'fr' on, step by step, and how far each one is turned for row k. -/
def xOf (xs : List Int) (fr st : Nat) (i : Nat) : Int := xs.getD (fr + i * st) 0
def pOf (st k : Nat) (i : Nat) : Int := (k : Int) * ((i * st : Nat) : Int)
theorem ps_split (xs : List Int) (H fr st M k : Nat) (hH : 0 < H) (hM : st * M = H) (j : Int) :
    psS H (xOf xs fr st) (pOf st k) (2 * M) j = psS H (xOf xs fr (2 * st)) (pOf (2 * st) k) M j + psS H (xOf xs (fr + st) (2 * st)) (fun i => pOf (2 * st) k i + (k : Int) * (st : Int)) M j ∧
    psS H (xOf xs fr st) (pOf st (k + M)) (2 * M) j = psS H (xOf xs fr (2 * st)) (pOf (2 * st) k) M j - psS H (xOf xs (fr + st) (2 * st)) (fun i => pOf (2 * st) k i + (k : Int) * (st : Int)) M j := by
  have q1 : ∀ i : Nat, 2 * i * st = i * (2 * st) := fun i => by rw [Nat.mul_comm 2 i, Nat.mul_assoc]
  have q2 : ∀ i : Nat, (2 * i + 1) * st = i * (2 * st) + st := fun i => by rw [Nat.add_mul, Nat.one_mul, q1]
  have q3 : ∀ i : Nat, M * (i * (2 * st)) = i * (2 * H) := fun i => by rw [← hM, Nat.mul_left_comm, Nat.mul_left_comm M 2 st, Nat.mul_comm M st]
  have x1 : ∀ i : Nat, xOf xs fr st (2 * i) = xOf xs fr (2 * st) i := fun i => by unfold xOf; rw [q1]
  have x2 : ∀ i : Nat, xOf xs fr st (2 * i + 1) = xOf xs (fr + st) (2 * st) i := fun i => by unfold xOf; rw [q2]; congr 1; omega
  have p1 : ∀ i : Nat, pOf st k (2 * i) = pOf (2 * st) k i := fun i => by unfold pOf; rw [q1]
  have p2 : ∀ i : Nat, pOf st k (2 * i + 1) = pOf (2 * st) k i + (k : Int) * (st : Int) := fun i => by unfold pOf; rw [q2, Int.natCast_add, Int.mul_add]
  have p3 : ∀ i : Nat, pOf st (k + M) (2 * i) = pOf (2 * st) k i + ((i * (2 * H) : Nat) : Int) := fun i => by
    unfold pOf; rw [q1, Int.natCast_add, Int.add_mul, ← Int.natCast_mul M, q3]
  have p4 : ∀ i : Nat, pOf st (k + M) (2 * i + 1) = pOf (2 * st) k i + (k : Int) * (st : Int) + (H : Int) + ((i * (2 * H) : Nat) : Int) := fun i => by
    unfold pOf; rw [q2, Int.natCast_add k M, Int.add_mul, Int.natCast_add, Int.mul_add, Int.mul_add, ← Int.natCast_mul M, ← Int.natCast_mul M, q3, Nat.mul_comm M st, hM]; omega
  constructor
  · unfold psS
    rw [S_evenodd]
    congr 1
    · exact S_congr (fun i _ => by rw [x1, p1])
    · exact S_congr (fun i _ => by rw [x2, p2])
  · unfold psS
    rw [S_evenodd]
    rw [Int.sub_eq_add_neg, ← S_neg]
    congr 1
    · exact S_congr (fun i _ => by rw [x1, p3, show j - (pOf (2 * st) k i + ((i * (2 * H) : Nat) : Int)) = j - pOf (2 * st) k i - ((i * (2 * H) : Nat) : Int) by omega, psi_per])
    · refine S_congr (fun i _ => ?_)
      rw [x2, p4, show j - (pOf (2 * st) k i + (k : Int) * (st : Int) + (H : Int) + ((i * (2 * H) : Nat) : Int)) = j - (pOf (2 * st) k i + (k : Int) * (st : Int)) - (H : Int) - ((i * (2 * H) : Nat) : Int) by omega, psi_per, psi_back hH, Int.mul_neg]
theorem halves_ps (xs : List Int) (hin : In64 xs) (H : Nat) (hH : 0 < H) : ∀ e fr st k, k < 2 ^ e → st * 2 ^ e = 2 * H →
    (halvesL xs H e fr st).getD k [] = psRow H (xOf xs fr st) (pOf st k) (2 ^ e)
  | 0, fr, st, k, hk, hst => by
    obtain rfl : k = 0 := by simpa using hk
    show (List.replicate H (0 : Int)).set 0 (xs.getD fr 0) = _
    refine row_ext (by rw [psRow_length]; simp) (fun j hj => ?_)
    have hj' : j < H := by simpa using hj
    rw [psRow_getD _ _ _ _ _ hj']
    show _ = wrap64 (0 + xOf xs fr st 0 * psi H ((j : Int) - pOf st 0 0))
    have hp : pOf st 0 0 = 0 := by simp [pOf]
    have hx0 : xOf xs fr st 0 = xs.getD fr 0 := by simp [xOf]
    rw [hp, hx0, Int.zero_add, Int.sub_zero]
    by_cases h0 : j = 0
    · subst h0
      rw [List.getD_eq_getElem?_getD, List.getElem?_set_self (by simpa using hH)]
      have : psi H ((0 : Nat) : Int) = 1 := by unfold psi; rw [if_pos (by simp)]
      rw [this, Int.mul_one, hin.getD]; rfl
    · rw [List.getD_eq_getElem?_getD, List.getElem?_set_ne (fun h => h0 h.symm), List.getElem?_replicate, if_pos hj']
      have : psi H (j : Int) = 0 := by
        unfold psi
        rw [Int.emod_eq_of_lt (by omega) (by omega), if_neg (by omega), if_neg (by omega)]
      rw [this, Int.mul_zero]; exact (W_in (a := 0) (by decide) (by decide)).symm
  | e + 1, fr, st, k, hk, hst => by
    have hst2 : 2 * st * 2 ^ e = 2 * H := by rw [← hst, Nat.pow_succ, Nat.mul_comm 2 st, Nat.mul_assoc, Nat.mul_comm 2]
    have hstH : st * 2 ^ e = H := by rw [Nat.mul_assoc] at hst2; omega
    have ih1 := halves_ps xs hin H hH e fr (2 * st)
    have ih2 := halves_ps xs hin H hH e (fr + st) (2 * st)
    have hp2 : 2 ^ (e + 1) = 2 * 2 ^ e := by rw [Nat.pow_succ, Nat.mul_comm]
    rcases Nat.lt_or_ge k (2 ^ e) with h | h
    · rw [halvesL_low _ _ _ _ _ _ h, ih1 k h hst2, ih2 k h hst2, turn_ps hH, hp2]
      refine row_ext (by rw [addL_length (by rw [psRow_length, psRow_length]), psRow_length, psRow_length]) (fun j hj => ?_)
      rw [addL_length (by rw [psRow_length, psRow_length]), psRow_length] at hj
      rw [addL_getD (by rw [psRow_length, psRow_length]) j (by rw [psRow_length]; exact hj), psRow_getD _ _ _ _ _ hj, psRow_getD _ _ _ _ _ hj, psRow_getD _ _ _ _ _ hj, W_W_add, W_add_W, (ps_split xs H fr st (2 ^ e) k hH hstH (j : Int)).1]
    · obtain ⟨m, rfl⟩ : ∃ m, k = m + 2 ^ e := ⟨k - 2 ^ e, by omega⟩
      have hm : m < 2 ^ e := by omega
      rw [halvesL_high _ _ _ _ _ _ hm, ih1 m hm hst2, ih2 m hm hst2, turn_ps hH, hp2]
      refine row_ext (by rw [lessL_length (by rw [psRow_length, psRow_length]), psRow_length, psRow_length]) (fun j hj => ?_)
      rw [lessL_length (by rw [psRow_length, psRow_length]), psRow_length] at hj
      rw [lessL_getD (by rw [psRow_length, psRow_length]) j (by rw [psRow_length]; exact hj), psRow_getD _ _ _ _ _ hj, psRow_getD _ _ _ _ _ hj, psRow_getD _ _ _ _ _ hj, W_W_sub, W_sub_W, (ps_split xs H fr st (2 ^ e) m hH hstH (j : Int)).2]
/-- The k-th spin of samples. -/
theorem spins_row (l : List Int) (hin : In64 l) (hm : fftMay l.length = true) (k : Nat) (hk : k < l.length) : (spinsF l).getD k [] = psRow (l.length / 2) (fun i => l.getD i 0) (fun i => (k : Int) * (i : Int)) l.length := by
  have hH : 0 < l.length / 2 ∧ 2 * (l.length / 2) = l.length := by rcases fftMay_cases hm with h | h | h | h | h | h <;> omega
  unfold spinsF
  rw [if_pos hm, halves_ps l hin (l.length / 2) hH.1 (logOf l.length) 0 1 k (by rw [logOf_pow hm]; exact hk) (by rw [logOf_pow hm, hH.2]; omega), logOf_pow hm]
  refine psRow_congr (fun i j _ => ?_)
  unfold xOf pOf
  rw [Nat.mul_one, Nat.zero_add]
theorem spins_len (l : List Int) (hm : fftMay l.length = true) : (spinsF l).length = l.length := by unfold spinsF; rw [if_pos hm, halvesL_length, logOf_pow hm]

theorem ps_unit {H : Nat} (hH : 0 < H) (x : Int) (hx : wrap64 x = x) : (List.replicate H (0 : Int)).set 0 x = psRow H (fun _ => x) (fun _ => 0) 1 := by
  refine row_ext (by rw [psRow_length]; simp) (fun j hj => ?_)
  have hj' : j < H := by simpa using hj
  rw [psRow_getD _ _ _ _ _ hj']
  show _ = wrap64 (0 + x * psi H ((j : Int) - 0))
  rw [Int.zero_add, Int.sub_zero]
  by_cases h0 : j = 0
  · subst h0
    rw [List.getD_eq_getElem?_getD, List.getElem?_set_self (by simpa using hH)]
    have : psi H ((0 : Nat) : Int) = 1 := by unfold psi; rw [if_pos (by simp)]
    rw [this, Int.mul_one, hx]; rfl
  · rw [List.getD_eq_getElem?_getD, List.getElem?_set_ne (fun h => h0 h.symm), List.getElem?_replicate, if_pos hj']
    have : psi H (j : Int) = 0 := by
      unfold psi
      rw [Int.emod_eq_of_lt (by omega) (by omega), if_neg (by omega), if_neg (by omega)]
    rw [this, Int.mul_zero]; exact (W_in (a := 0) (by decide) (by decide)).symm
theorem ps_zero (H : Nat) (x : Nat → Int) (p : Nat → Int) : List.replicate H (0 : Int) = psRow H x p 0 := by
  refine row_ext (by rw [psRow_length]; simp) (fun j hj => ?_)
  have hj' : j < H := by simpa using hj
  rw [psRow_getD _ _ _ _ _ hj', List.getD_eq_getElem?_getD, List.getElem?_replicate, if_pos hj']
  exact (W_in (a := 0) (by decide) (by decide)).symm
theorem ps_step {H : Nat} (hH : 0 < H) (x : Nat → Int) (p : Nat → Int) (t : Nat) (hx : wrap64 (x t) = x t) : addL (psRow H x p t) (turnL ((List.replicate H (0 : Int)).set 0 (x t)) (p t)) = psRow H x p (t + 1) := by
  rw [ps_unit hH (x t) hx, turn_ps hH]
  have e : (psRow H x p t).length = (psRow H (fun _ => x t) (fun i => (fun _ => (0 : Int)) i + p t) 1).length := by rw [psRow_length, psRow_length]
  refine row_ext (by rw [addL_length e, psRow_length, psRow_length]) (fun j hj => ?_)
  rw [addL_length e, psRow_length] at hj
  rw [addL_getD e j (by rw [psRow_length]; exact hj), psRow_getD _ _ _ _ _ hj, psRow_getD _ _ _ _ _ hj, psRow_getD _ _ _ _ _ hj, W_W_add, W_add_W]
  congr 1
  show psS H x p t j + (0 + x t * psi H ((j : Int) - (0 + p t))) = _
  rw [Int.zero_add, Int.zero_add]
  rfl
/-- The spin that samples have at k. -/
def spinAt (l : List Int) (k : Int) : List Int := psRow (l.length / 2) (fun i => l.getD i 0) (fun i => k % (l.length : Int) * (i : Int)) l.length
theorem spinAt_length (l : List Int) (k : Int) : (spinAt l k).length = l.length / 2 := psRow_length _ _ _ _
theorem spinAt_row (l : List Int) (hin : In64 l) (hm : fftMay l.length = true) (k : Nat) (hk : k < l.length) : (spinsF l).getD k [] = spinAt l (k : Int) := by
  rw [spins_row l hin hm k hk]
  unfold spinAt
  rw [Int.emod_eq_of_lt (by omega) (by omega)]
theorem spinAt_mod (l : List Int) (k : Int) : spinAt l (k % (l.length : Int)) = spinAt l k := by
  unfold spinAt
  rw [Int.emod_emod_of_dvd _ (Int.dvd_refl _)]

/-- A call's result is a row that reads as xs; the world is as it was, but for what is new. -/
def CRes (w0 W : World) (h : Nat) (xs : List Int) (e : Ending) (w' : World) : Prop :=
  ∃ A c, e = .returned (.slice A h c) ∧ h ≤ c ∧ Aside0 ((Kd.int .i64).C w' A h xs) ∧ Aside0 (Below w0.heap.size w0 w') ∧ Aside0 (Below W.heap.size W w')
theorem cres_of {w0 W w' : World} {h : Nat} {xs : List Int} {v : Value} {t b : Nat} {ok : Nat → Prop} (hB : Below w0.heap.size w0 W) (hR : (Kd.int .i64).R t w' b ok v xs) (hl : xs.length = h) (hb : Below W.heap.size W w') : CRes w0 W h xs (.returned v) w' := by
  subst hl
  obtain ⟨A, c, rfl, h1, h2⟩ := Kd.R_reads hR
  exact ⟨A, c, rfl, h1, ⟨h2⟩, ⟨below_step hB hb⟩, ⟨hb⟩⟩
theorem same_go (l : List Int) (hl : l.length ≤ 100000000) (d : Nat) : ∀ (k i : Nat), i ≤ l.length → l.length - i = d → d < k → earshotref04_Same.l0 k l l (i : Int) = some true := by
  induction d with
  | zero =>
    intro k i h0 hd hk
    obtain ⟨k, rfl⟩ : ∃ m, k = m + 1 := ⟨k - 1, by omega⟩
    simp only [earshotref04_Same.l0]
    rw [if_neg (by omega)]
  | succ d ih =>
    intro k i h0 hd hk
    obtain ⟨k, rfl⟩ : ∃ m, k = m + 1 := ⟨k - 1, by omega⟩
    simp only [earshotref04_Same.l0]
    have hw : wrap64 ((i : Int) + 1) = ((i + 1 : Nat) : Int) := by unfold wrap64; omega
    rw [if_pos (by omega), if_pos (by omega), if_pos (by omega), if_pos trivial, hw]
    exact ih k (i + 1) (by omega) (by omega) (by omega)
theorem same_f (l : List Int) (hl : l.length ≤ 100000000) : earshotref04_Same.f (l.length + 1) l l = some true := by
  unfold earshotref04_Same.f
  rw [if_pos rfl]
  exact same_go l hl l.length _ 0 (by omega) (by omega) (by omega)
/-- Two rows that read the same. -/
theorem same_c {w0 : World} (A1 : Option Addr) (h c1 : Nat) (A2 : Option Addr) (c2 : Nat) (l1 l2 : List Int) (W : World) (hB : Below w0.heap.size w0 W) (hl : l1.length = h) (he : l1 = l2) (hC1 : (Kd.int .i64).C W A1 h l1) (hC2 : (Kd.int .i64).C W A2 h l2) (h1 : h ≤ c1) (h2 : h ≤ c2) (hh : h ≤ 1000000) :
    Calls Tryd.prog 19 #[.slice A1 h c1, .slice A2 h c2] W fun e w' => e = .returned (.bool true) ∧ Aside0 (Below w0.heap.size w0 w') ∧ Aside0 (Below W.heap.size W w') := by
  subst he
  subst hl
  exact (earshotref04_Same.calls _ A1 c1 l1 A2 c2 l1 true W hC1 h1 hC2 h2 (same_f l1 (by omega))).mono fun e w' ⟨a, ⟨n, b⟩⟩ => by
    subst b
    exact ⟨a, ⟨pw_below_drewN hB n⟩, ⟨pw_below_drewN (Below.refl _ _) n⟩⟩
theorem zeros_c (X : World) (g n : Nat) (hg : g = X.heap.size) (hn : n ≤ 1000000) : (Kd.int .i64).C (X.alloc (.cells (madeCells #[.int .i64 0] n) 3)) (some ⟨g, 0, none⟩) n (List.replicate n 0) := by
  subst hg
  have h := own_made X X.heap.size 3 .i64 n (Nat.le_refl _) (by omega)
  have hR := Kd.R_of_own (enc := Value.int .i64) (h1 := fun _ => rfl) (ok := fun _ => True) (xs := List.replicate n 0) (by rw [List.length_replicate]; exact h) (fun _ _ => trivial)
  obtain ⟨A, c, he, _, h2⟩ := Kd.R_reads hR
  rw [List.length_replicate] at he h2
  injection he with e1 e2 e3
  rw [e1]
  exact h2
/-- A callee that draws only, in a region that is walked once, in a world that has drawn before. -/
theorem quiet_add {P : Program} {f : FuncId} {args : Array Value} {W : World} {K x : Nat} {v : Value} (h : Calls P f args (W.drewN (K + x)) fun e w' => e = .returned v ∧ Drawn0 (W.drewN (K + x)) w') :
    Calls P f args (W.drewN (K + x)) fun e w'' => e = .returned v ∧ ∃ n, w'' = W.drewN (K + n) :=
  h.mono fun _ _ ⟨he, ⟨m, hm⟩⟩ => ⟨he, x + m, by rw [hm, World.drewN_drewN, Nat.add_assoc]⟩
/-- .. likewise, in a world that is named by one count. -/
theorem quiet_d {P : Program} {f : FuncId} {args : Array Value} {W : World} {x : Nat} {v : Value} (h : Calls P f args (W.drewN x) fun e w' => e = .returned v ∧ Drawn0 (W.drewN x) w') :
    Calls P f args (W.drewN x) fun e w'' => e = .returned v ∧ ∃ n, w'' = W.drewN n :=
  h.mono fun _ _ ⟨he, ⟨m, hm⟩⟩ => ⟨he, x + m, by rw [hm, World.drewN_drewN]⟩

theorem sizeOf_may (a : Int) : fftMay (sizeOf_ a) = true := by
  have m0 := Int.emod_nonneg a (show (6 : Int) ≠ 0 by decide)
  have m1 := Int.emod_lt_of_pos a (show (0 : Int) < 6 by decide)
  have h : a % 6 = 0 ∨ a % 6 = 1 ∨ a % 6 = 2 ∨ a % 6 = 3 ∨ a % 6 = 4 ∨ a % 6 = 5 := by omega
  unfold sizeOf_
  rcases h with h | h | h | h | h | h <;> rw [h] <;> decide
theorem sizedL_in {n : Nat} {l : List Int} (h : In64 l) : In64 (sizedL n l) := by
  intro x hx
  simp only [sizedL, List.mem_map] at hx
  obtain ⟨i, _, rfl⟩ := hx
  rw [← h.getD]
  exact ⟨W_lo _, W_hi _⟩
theorem sized_c (A0 : Option Addr) (m c0 N : Nat) (l0 v : List Int) (a : Int) (W : World) (hl : l0.length = m) (hC : (Kd.int .i64).C W A0 m l0) (hmc : m ≤ c0) (hm : m ≤ 4000000000000000000) (hN : sizeOf_ a = N) (hv : sizedL N l0 = v) :
    Calls Tryd.prog 25 #[.slice A0 m c0, .int .i64 a] W fun e w' => ∃ A c, e = .returned (.slice A N c) ∧ N ≤ c ∧ Aside0 ((Kd.int .i64).C w' A N v) ∧ Aside0 (Below W.heap.size W w') := by
  subst hl
  refine (earshotlaw10_sized.calls A0 c0 l0 a _ W hC hmc (by unfold earshotlaw10_sized.f; rw [if_pos (by simpa using hm)])).mono ?_
  rintro e w' ⟨v0, rfl, hR, hB⟩
  obtain ⟨A, c, rfl, h1, h2⟩ := Kd.R_reads hR
  rw [hN, hv] at h1 h2 ⊢
  have hvl : v.length = N := by rw [← hv, sizedL_length]
  rw [hvl] at h1 h2 ⊢
  exact ⟨A, c, rfl, h1, ⟨h2⟩, ⟨hB⟩⟩
theorem i64_mask (i : Nat) (hi : i ≤ 62) (n m : Int) (hm : m = ((2 ^ i - 1 : Nat) : Int)) : Go.bits .and .i64 n m = n % ((2 ^ i : Nat) : Int) := by
  have hp : 0 < 2 ^ i := Nat.two_pow_pos i
  have hle : 2 ^ i ≤ 4611686018427387904 := Nat.pow_le_pow_right (n := 2) (by decide) hi
  have h1 : (BitVec.ofInt 64 m).toNat = 2 ^ i - 1 := by
    subst hm
    rw [BitVec.ofInt_natCast, BitVec.toNat_ofNat]
    exact Nat.mod_eq_of_lt (by omega)
  have key : (BitVec.ofInt 64 n &&& BitVec.ofInt 64 m).toNat = (n % ((2 ^ 64 : Nat) : Int)).toNat % 2 ^ i := by
    rw [BitVec.toNat_and, BitVec.toNat_ofInt, h1, Nat.and_two_pow_sub_one_eq_mod]
  show IntKind.i64.wrap ((BitVec.ofInt 64 n &&& BitVec.ofInt 64 m).toNat : Nat) = n % _
  rw [key, IntKind.wrap_i64]
  have r0 : 0 ≤ n % ((2 ^ 64 : Nat) : Int) := Int.emod_nonneg _ (by decide)
  have e : (((n % ((2 ^ 64 : Nat) : Int)).toNat % 2 ^ i : Nat) : Int) = n % ((2 ^ i : Nat) : Int) := by
    rw [Int.natCast_emod, Int.toNat_of_nonneg r0]
    refine Int.emod_emod_of_dvd _ ?_
    exact Int.natCast_dvd_natCast.2 (Nat.pow_dvd_pow 2 (by omega))
  rw [e]
  generalize hz : n % ((2 ^ i : Nat) : Int) = z
  have m0 : 0 ≤ z := hz ▸ Int.emod_nonneg _ (by omega)
  have m1 : z < ((2 ^ i : Nat) : Int) := hz ▸ Int.emod_lt_of_pos _ (by omega)
  have hle' : ((2 ^ i : Nat) : Int) ≤ 4611686018427387904 := Int.ofNat_le.2 hle
  have m2 : z < 4611686018427387904 := Int.lt_of_lt_of_le m1 hle'
  clear m1 hle' hle hz e key h1
  omega

theorem mask_may (N : Nat) (hm : fftMay N = true) (a : Int) : ∃ t : Nat, t < N ∧ (t : Int) = a % (N : Int) ∧ Go.bits .and .i64 a ((N : Int) - 1) = (t : Int) := by
  have hN : 2 ≤ N := by rcases fftMay_cases hm with rfl | rfl | rfl | rfl | rfl | rfl <;> omega
  have m0 := Int.emod_nonneg a (show (N : Int) ≠ 0 by omega)
  have m1 := Int.emod_lt_of_pos a (show (0 : Int) < (N : Int) by omega)
  obtain ⟨t, ht⟩ := Int.eq_ofNat_of_zero_le m0
  refine ⟨t, by omega, ht.symm, ?_⟩
  rw [← ht]
  rcases fftMay_cases hm with rfl | rfl | rfl | rfl | rfl | rfl
  · exact i64_mask 1 (by decide) a 1 rfl
  · exact i64_mask 2 (by decide) a 3 rfl
  · exact i64_mask 3 (by decide) a 7 rfl
  · exact i64_mask 4 (by decide) a 15 rfl
  · exact i64_mask 5 (by decide) a 31 rfl
  · exact i64_mask 6 (by decide) a 63 rfl
theorem turn_x (A : Option Addr) (h c : Nat) (l : List Int) (k : Int) (W : World) (hl : l.length = h) (hC : (Kd.int .i64).C W A h l) (hh : h ≤ 1000000) (k0 : -9223372036854775808 ≤ k) (k1 : k ≤ 9223372036854775807) :
    Calls Tryd.prog 15 #[.slice A h c, .int .i64 k] W fun e w' => ∃ B d, e = .returned (.slice B h d) ∧ h ≤ d ∧ Aside0 ((Kd.int .i64).C w' B h (turnL l k)) ∧ Aside0 (Below W.heap.size W w') := by
  refine (turn_go A h c l k W hl hC hh k0 k1).mono ?_
  rintro e w' ⟨v, rfl, hR, hb⟩
  have hL : (turnL l k).length = h := by rw [turnL_length, hl]
  obtain ⟨B, d, rfl, h1, h2⟩ := Kd.R_reads hR
  rw [hL] at h1 h2 ⊢
  exact ⟨B, d, rfl, h1, ⟨h2⟩, ⟨hb⟩⟩
theorem add2_x (g : Nat) (A1 A2 : Option Addr) (h c1 c2 : Nat) (l1 l2 : List Int) (W : World) (hg : W.heap[g]? = some (.cells #[.slice A1 h c1, .slice A2 h c2] 22 (0, 0))) (hl1 : l1.length = h) (hl2 : l2.length = h) (hC1 : (Kd.int .i64).C W A1 h l1) (hC2 : (Kd.int .i64).C W A2 h l2) (h1 : h ≤ c1) (h2 : h ≤ c2) (hh : h ≤ 1000000) (hin : In64 l1) :
    Calls Tryd.prog 20 #[.slice (some ⟨g, 0, none⟩) 2 2] W fun e w' => ∃ B d, e = .returned (.slice B h d) ∧ h ≤ d ∧ Aside0 ((Kd.int .i64).C w' B h (addL l1 l2)) ∧ Aside0 (Below W.heap.size W w') := by
  refine (add2_r g A1 A2 h c1 c2 l1 l2 W hg hl1 hl2 hC1 hC2 h1 h2 hh hin).mono ?_
  rintro e w' ⟨v, rfl, hR, hb⟩
  have hL : (addL l1 l2).length = h := by rw [addL_length (by rw [hl1, hl2]), hl1]
  obtain ⟨B, d, rfl, h1, h2⟩ := Kd.R_reads hR
  rw [hL] at h1 h2 ⊢
  exact ⟨B, d, rfl, h1, ⟨h2⟩, ⟨hb⟩⟩

theorem psi16 : ∀ d : Fin 32, d.1 = 0 ∨ ∀ j : Fin 16, S 32 (fun k => psi 16 ((j.1 : Int) - (k : Int) * (d.1 : Int))) = 0 := by decide +kernel
theorem psi8 : ∀ d : Fin 16, d.1 = 0 ∨ ∀ j : Fin 8, S 16 (fun k => psi 8 ((j.1 : Int) - (k : Int) * (d.1 : Int))) = 0 := by decide +kernel
theorem psi4 : ∀ d : Fin 8, d.1 = 0 ∨ ∀ j : Fin 4, S 8 (fun k => psi 4 ((j.1 : Int) - (k : Int) * (d.1 : Int))) = 0 := by decide +kernel
theorem psi2 : ∀ d : Fin 4, d.1 = 0 ∨ ∀ j : Fin 2, S 4 (fun k => psi 2 ((j.1 : Int) - (k : Int) * (d.1 : Int))) = 0 := by decide +kernel
theorem psi1 : ∀ d : Fin 2, d.1 = 0 ∨ ∀ j : Fin 1, S 2 (fun k => psi 1 ((j.1 : Int) - (k : Int) * (d.1 : Int))) = 0 := by decide +kernel
theorem psi_sum (H d j : Nat) (hH : H = 1 ∨ H = 2 ∨ H = 4 ∨ H = 8 ∨ H = 16) (h0 : 0 < d) (hd : d < 2 * H) (hj : j < H) : S (2 * H) (fun k => psi H ((j : Int) - (k : Int) * (d : Int))) = 0 := by
  rcases hH with rfl | rfl | rfl | rfl | rfl
  · exact (psi1 ⟨d, hd⟩).resolve_left (by show d ≠ 0; omega) ⟨j, hj⟩
  · exact (psi2 ⟨d, hd⟩).resolve_left (by show d ≠ 0; omega) ⟨j, hj⟩
  · exact (psi4 ⟨d, hd⟩).resolve_left (by show d ≠ 0; omega) ⟨j, hj⟩
  · exact (psi8 ⟨d, hd⟩).resolve_left (by show d ≠ 0; omega) ⟨j, hj⟩
  · exact (psi16 ⟨d, hd⟩).resolve_left (by show d ≠ 0; omega) ⟨j, hj⟩
/-- All spins up to K, each turned back. -/
def bkRow (H : Nat) (x : Nat → Int) (N : Nat) (t : Int) (K : Nat) : List Int := (List.range H).map fun j : Nat => wrap64 (S K (fun k => psS H x (fun i => (k : Int) * (i : Int) + (0 - (k : Int) * t)) N (j : Int)))
theorem bkRow_length (H : Nat) (x : Nat → Int) (N : Nat) (t : Int) (K : Nat) : (bkRow H x N t K).length = H := by simp [bkRow]
theorem bkRow_getD (H : Nat) (x : Nat → Int) (N : Nat) (t : Int) (K j : Nat) (hj : j < H) : (bkRow H x N t K).getD j 0 = wrap64 (S K (fun k => psS H x (fun i => (k : Int) * (i : Int) + (0 - (k : Int) * t)) N (j : Int))) := getD_map_range H (fun j : Nat => wrap64 (S K (fun k => psS H x (fun i => (k : Int) * (i : Int) + (0 - (k : Int) * t)) N (j : Int)))) j hj
theorem bkRow_in (H : Nat) (x : Nat → Int) (N : Nat) (t : Int) (K : Nat) : In64 (bkRow H x N t K) := by
  intro y hy
  simp only [bkRow, List.mem_map] at hy
  obtain ⟨j, _, rfl⟩ := hy
  exact ⟨W_lo _, W_hi _⟩
theorem bk_zero (H : Nat) (x : Nat → Int) (N : Nat) (t : Int) : List.replicate H (0 : Int) = bkRow H x N t 0 := by
  refine row_ext (by rw [bkRow_length]; simp) (fun j hj => ?_)
  have hj' : j < H := by simpa using hj
  rw [bkRow_getD _ _ _ _ _ _ hj', List.getD_eq_getElem?_getD, List.getElem?_replicate, if_pos hj']
  exact (W_in (a := 0) (by decide) (by decide)).symm
theorem bk_step {H : Nat} (hH : 0 < H) (x : Nat → Int) (N : Nat) (t : Int) (K : Nat) : addL (bkRow H x N t K) (turnL (psRow H x (fun i => (K : Int) * (i : Int)) N) (0 - (K : Int) * t)) = bkRow H x N t (K + 1) := by
  rw [turn_ps hH]
  have e : (bkRow H x N t K).length = (psRow H x (fun i => (K : Int) * (i : Int) + (0 - (K : Int) * t)) N).length := by rw [bkRow_length, psRow_length]
  refine row_ext (by rw [addL_length e, bkRow_length, bkRow_length]) (fun j hj => ?_)
  rw [addL_length e, bkRow_length] at hj
  rw [addL_getD e j (by rw [bkRow_length]; exact hj), bkRow_getD _ _ _ _ _ _ hj, bkRow_getD _ _ _ _ _ _ hj, psRow_getD _ _ _ _ _ hj, W_W_add, W_add_W]
  rfl
theorem psi_turn {H : Nat} (j : Int) (k i t : Nat) (hi : i < 2 * H) (ht : t < 2 * H) (hit : i ≠ t) : ∃ d, 0 < d ∧ d < 2 * H ∧ ∀ k : Nat, psi H (j - ((k : Int) * (i : Int) + (0 - (k : Int) * (t : Int)))) = psi H (j - (k : Int) * (d : Int)) := by
  by_cases h : t < i
  · refine ⟨i - t, by omega, by omega, fun k => ?_⟩
    rw [Int.ofNat_sub (by omega), Int.mul_sub]
    congr 1
    omega
  · refine ⟨i + 2 * H - t, by omega, by omega, fun k => psi_mod ?_⟩
    have e : ((i + 2 * H - t : Nat) : Int) = (i : Int) - (t : Int) + 2 * (H : Int) := by omega
    rw [e, Int.mul_add, Int.mul_sub]
    have e2 : j - ((k : Int) * (i : Int) - (k : Int) * (t : Int) + (k : Int) * (2 * (H : Int))) = (j - ((k : Int) * (i : Int) + (0 - (k : Int) * (t : Int)))) + 2 * (H : Int) * (-(k : Int)) := by
      rw [Int.mul_neg, Int.mul_comm (2 * (H : Int)) (k : Int)]
      omega
    rw [e2, Int.add_mul_emod_self_left]
theorem bk_at (H : Nat) (x : Nat → Int) (t j : Nat) (hH : H = 1 ∨ H = 2 ∨ H = 4 ∨ H = 8 ∨ H = 16) (ht : t < 2 * H) (hj : j < H) : (bkRow H x (2 * H) (t : Int) (2 * H)).getD j 0 = if j = 0 then wrap64 (((2 * H : Nat) : Int) * x t) else 0 := by
  rw [bkRow_getD _ _ _ _ _ _ hj]
  have e1 : S (2 * H) (fun k => psS H x (fun i => (k : Int) * (i : Int) + (0 - (k : Int) * (t : Int))) (2 * H) (j : Int)) = ((2 * H : Nat) : Int) * (x t * psi H (j : Int)) := by
    unfold psS
    rw [S_swap, S_one ht]
    · rw [← S_const]
      refine S_congr (fun k _ => ?_)
      show x t * psi H ((j : Int) - ((k : Int) * (t : Int) + (0 - (k : Int) * (t : Int)))) = _
      rw [show (j : Int) - ((k : Int) * (t : Int) + (0 - (k : Int) * (t : Int))) = (j : Int) by omega]
    · intro i hi hit
      obtain ⟨d, d0, d1, hd⟩ := psi_turn (H := H) (j : Int) 0 i t hi ht hit
      rw [S_mul, S_congr (fun k _ => hd k), psi_sum H d j hH d0 d1 hj, Int.mul_zero]
  rw [e1]
  by_cases h0 : j = 0
  · subst h0
    have : psi H ((0 : Nat) : Int) = 1 := by unfold psi; rw [if_pos (by simp)]
    rw [if_pos rfl, this, Int.mul_one]
  · have : psi H (j : Int) = 0 := by
      unfold psi
      rw [Int.emod_eq_of_lt (by omega) (by omega), if_neg (by omega), if_neg (by omega)]
    rw [if_neg h0, this, Int.mul_zero, Int.mul_zero]
    exact W_in (a := 0) (by decide) (by decide)

theorem size_rem5 {s e : Int} (h : s % 5 = e) : Int.tmod (IntKind.i64.wrap (Int.tmod s 5 + 5)) 5 = e ∧ Int.tmod (wrap64 (Int.tmod s 5 + 5)) 5 = e ∧ Int.tmod (Int.tmod s 5 + 5) 5 = e := by
  have a := Int.lt_tmod_of_pos s (show (0 : Int) < 5 by decide)
  have b := Int.tmod_lt_of_pos s (show (0 : Int) < 5 by decide)
  have c := Int.tmod_eq_emod (a := s) (b := 5)
  have k : IntKind.i64.wrap (Int.tmod s 5 + 5) = Int.tmod s 5 + 5 := by rw [IntKind.wrap_i64]; omega
  have k2 : wrap64 (Int.tmod s 5 + 5) = Int.tmod s 5 + 5 := by unfold wrap64; omega
  have d : Int.tmod (Int.tmod s 5 + 5) 5 = e := by
    rw [Int.tmod_eq_emod_of_nonneg (by omega)]
    split at c <;> omega
  exact ⟨by rw [k]; exact d, by rw [k2]; exact d, d⟩
theorem size5 (e : Int) (h0 : 0 ≤ e) (h1 : e < 5) : ∃ H, (H = 1 ∨ H = 2 ∨ H = 4 ∨ H = 8 ∨ H = 16) ∧ sizeOf_ e = 2 * H := by
  have h : e = 0 ∨ e = 1 ∨ e = 2 ∨ e = 3 ∨ e = 4 := by omega
  rcases h with rfl | rfl | rfl | rfl | rfl
  · exact ⟨1, by decide, by decide⟩
  · exact ⟨2, by decide, by decide⟩
  · exact ⟨4, by decide, by decide⟩
  · exact ⟨8, by decide, by decide⟩
  · exact ⟨16, by decide, by decide⟩
def earshotlaw10_FftBack.f (l0 : List Int) (a1 a2 : Int) : Option (Bool) := if decide (l0.length ≤ 4000000000000000000) && l0.all (fun x => decide (-9223372036854775808 ≤ x) && decide (x ≤ 9223372036854775807)) then some true else none
set_option maxHeartbeats 32000000 in
set_option maxRecDepth 100000 in
theorem back_go (A0 : Option Addr) (m c0 N H : Nat) (l0 v : List Int) (a k e : Int) (w : World) (hG : GlobA w) (hl : l0.length = m) (hC : (Kd.int .i64).C w A0 m l0) (hmc : m ≤ c0) (hm : m ≤ 4000000000000000000) (hin : In64 l0) (he : a % 5 = e) (hN : sizeOf_ e = N) (hH : H = 1 ∨ H = 2 ∨ H = 4 ∨ H = 8 ∨ H = 16) (hNH : N = 2 * H) (hv : sizedL N l0 = v) :
    Calls Tryd.prog 8 #[.slice A0 m c0, .int .i64 a, .int .i64 k] w fun e w' => e = .returned (.bool true) ∧ Below w.heap.size w w' := by
  have hmay := sizeOf_may e
  rw [hN] at hmay
  have hvl : v.length = N := by rw [← hv, sizedL_length]
  have hvin : In64 v := by rw [← hv]; exact sizedL_in hin
  have hN2 : 2 ≤ N := by omega
  have hN32 : N ≤ 32 := by omega
  have hH1 : 1 ≤ H := by omega
  have hH16 : H ≤ 16 := by omega
  have hHN : N / 2 = H := by omega
  obtain ⟨t, ht, htm, hmask⟩ := mask_may N hmay k
  have HSZ : Aside0 (∀ W : World, (Kd.int .i64).C W A0 m l0 → Calls Tryd.prog 25 #[.slice A0 m c0, .int .i64 e] W fun e w' => ∃ A c, e = .returned (.slice A N c) ∧ N ≤ c ∧ Aside0 ((Kd.int .i64).C w' A N v) ∧ Aside0 (Below W.heap.size W w')) := ⟨fun W h => sized_c A0 m c0 N l0 v e W hl h hmc hm hN hv⟩
  have HSP : Aside0 (∀ (W : World) (A : Option Addr) (c : Nat), (Kd.int .i64).C W A N v → Calls Tryd.prog 26 #[.slice A N c] W fun e w' => ∃ v0_ : Value, e = .returned v0_ ∧ R2 w' W.heap.size (fun _ => True) v0_ (spinsF v) ∧ Below W.heap.size W w') := ⟨fun W A c h => spins_go N c A v W hvl h hvin (by omega)⟩
  have HSL : Aside0 ((spinsF v).length = N) := ⟨by rw [spins_len v (by rw [hvl]; exact hmay), hvl]⟩
  have HRL : Aside0 (∀ i : Nat, i < N → ((spinsF v).getD i []).length = H) := ⟨fun i hi => by rw [spins_row v hvin (by rw [hvl]; exact hmay) i (by omega), psRow_length, hvl, hHN]⟩
  have HST : Aside0 (∀ K : Nat, K < N → addL (bkRow H (fun i => v.getD i 0) N (t : Int) K) (turnL ((spinsF v).getD K []) (0 - (K : Int) * (t : Int))) = bkRow H (fun i => v.getD i 0) N (t : Int) (K + 1)) := ⟨fun K hK => by rw [spins_row v hvin (by rw [hvl]; exact hmay) K (by omega), hvl, hHN]; exact bk_step (by omega) _ N _ K⟩
  have HZ0 : Aside0 (List.replicate H (0 : Int) = bkRow H (fun i => v.getD i 0) N (t : Int) 0) := ⟨bk_zero _ _ _ _⟩
  have HAT : Aside0 (∀ j, j < H → (bkRow H (fun i => v.getD i 0) N (t : Int) N).getD j 0 = if j = 0 then wrap64 ((N : Int) * v.getD t 0) else 0) := ⟨fun j hj => by subst hNH; exact bk_at H (fun i => v.getD i 0) t j hH ht hj⟩
  have HLN : Aside0 (∀ K, (bkRow H (fun i => v.getD i 0) N (t : Int) K).length = H ∧ In64 (bkRow H (fun i => v.getD i 0) N (t : Int) K)) := ⟨fun K => ⟨bkRow_length _ _ _ _ _, bkRow_in _ _ _ _ _⟩⟩
  generalize bkRow H (fun i => v.getD i 0) N (t : Int) = Q at *
  obtain ⟨p1, p2, p3⟩ := size_rem5 he
  obtain ⟨N1, hN1⟩ : ∃ N1 : Nat, (N : Int) - 1 = (N1 : Int) := ⟨N - 1, by omega⟩
  have hN1w : IntKind.i64.wrap ((N : Int) - 1) = (N1 : Int) := by rw [IntKind.wrap_i64]; omega
  rw [hN1] at hmask
  have q1 : Int.tdiv (N : Int) 2 = (H : Int) := by rw [Int.tdiv_eq_ediv_of_nonneg (by omega)]; omega
  have q2 : (N : Int) / 2 = (H : Int) := by omega
  have hmk := print_make 22 3 .i64 8 Tryd.underlying22 turn_info (by decide) H (by omega)
  have HC := Aside0.mk hC
  have HG := Aside0.mk hG
  clear hG hl hC hin hN hH hNH hv hmay hvl hvin hm he hHN htm
  have ST0 : True := trivial
  go_enter Tryd.func8, Tryd.ntmps8
  go_wp2_with (first
    | (go_at_call 24; clear ST0; (with_reducible refine (awake_go _ HG.out).mono ?_); rintro e_ w1 ⟨rfl, B1⟩; have HB1 := Aside0.mk B1; clear B1; have ST1 : True := trivial)
    | (go_at_call 25; clear ST1; (with_reducible refine (HSZ.out w1 (Kd.C_below HC.out HB1.out)).mono ?_); rintro e_ w2 ⟨AV, cV, rfl, hcV, CV, B2⟩; have HB2 := Aside0.mk (below_step HB1.out B2.out); clear B2 HB1; have ST2 : True := trivial)
    | (go_at_call 26; clear ST2; (with_reducible refine (HSP.out w2 AV cV CV.out).mono ?_); rintro e_ w3 ⟨vS, rfl, RS, BS⟩; obtain ⟨AS, cS, hvS, hcS, _⟩ := Kd.R_reads RS; rw [HSL.out] at hvS hcS; subst hvS; have RS3 := Aside0.mk (Kd.R_lower RS (Below.size HB2.out)); have CV3 := Aside0.mk (Kd.C_below CV.out BS); have HB3 := Aside0.mk (below_step HB2.out BS); clear RS BS HB2 CV hcS; have ST3 : True := trivial))
  go_loopw [12, 13] (fun v12 v13 wr => ∃ (K : Nat), K ≤ N ∧ v13 = .int .i64 (K : Int) ∧ Aside0 (∃ A7 c7, v12 = .slice A7 H c7 ∧ H ≤ c7 ∧ (Kd.int .i64).C wr A7 H (Q K)) ∧ Aside0 (R2 wr w.heap.size (fun _ => True) (.slice AS N cS) (spinsF v)) ∧ Aside0 ((Kd.int .i64).C wr AV N v) ∧ Aside0 (Below w.heap.size w wr)) (fun _ v _ => N - (intOf v).toNat)
  case atStart =>
    refine ⟨0, by omega, rfl, ⟨_, _, rfl, Nat.le_refl _, ?_⟩, ⟨Kd.R_below RS3.out (below_alloc (Below.refl _ _) _)⟩, ⟨Kd.C_alloc CV3.out _⟩, ⟨below_alloc HB3.out _⟩⟩
    rw [← HZ0.out]
    exact zeros_c w3 _ H rfl (by omega)
  case round =>
    clear RS3 CV3 HB3
    obtain ⟨K, hK, rfl, HS, RS, CV, HB⟩ := hrel
    obtain ⟨A7, c7, rfl, hc7, hC7⟩ := HS.out
    have C7 := Aside0.mk hC7
    clear hC7 HS
    by_cases hlt : K < N
    · obtain ⟨ad, BL, dL, rfl, k5, lB, CB⟩ := R2_at RS.out K hlt
      have hst := HST.out K hlt
      have hrl := HRL.out K hlt
      generalize (spinsF v).getD K [] = row at *
      rw [hrl] at k5 lB CB
      have HCB := Aside0.mk CB
      have HRW := Aside0.mk hrl
      obtain ⟨P, hP⟩ : ∃ P, (K : Int) * (t : Int) = P := ⟨_, rfl⟩
      rw [hP] at hst
      have hP0 : 0 ≤ P := by rw [← hP]; exact Int.mul_nonneg (by omega) (by omega)
      have hP1 : P ≤ 4096 := by rw [← hP]; exact Int.le_trans (Int.mul_le_mul (show (K : Int) ≤ 64 by omega) (show (t : Int) ≤ 64 by omega) (by omega) (by omega)) (by decide)
      obtain ⟨M, hM⟩ : ∃ M, 0 - P = M := ⟨_, rfl⟩
      rw [hM] at hst
      have hM2 : -P = M := by omega
      have hM0 : -9223372036854775808 ≤ M := by omega
      have hM1 : M ≤ 9223372036854775807 := by omega
      have HSTT := Aside0.mk hst
      have HLT : Aside0 ((turnL row M).length = H) := ⟨by rw [turnL_length]; exact HRW.out⟩
      have j0 : (0 : Int) ≤ (K : Int) := by omega
      have j1 : (K : Int) < (N : Int) := by omega
      have ST0 : True := trivial
      clear CB hst hrl
      go_wp2_with (first
        | (go_at_call 15; clear ST0; (with_reducible refine (turn_x BL H dL row M wr HRW.out HCB.out (by omega) hM0 hM1).mono ?_); rintro e_ w4 ⟨BT, dT, rfl, hdT, CT, B4⟩; have RS4 := Aside0.mk (Kd.R_below RS.out B4.out); have CV4 := Aside0.mk (Kd.C_below CV.out B4.out); have C74 := Aside0.mk (Kd.C_below C7.out B4.out); have HB4 := Aside0.mk (below_step HB.out B4.out); clear B4 k5 HCB; have ST1 : True := trivial)
        | (go_at_call 20; clear ST1; refine (add2_x _ A7 BT H c7 dT (Q K) (turnL row M) _ (heap_alloc_new _ _) (HLN.out K).1 HLT.out (Kd.C_alloc C74.out _) (Kd.C_alloc CT.out _) hc7 hdT (by omega) (HLN.out K).2).mono ?_; rintro e_ w5 ⟨BA, dA, rfl, hdA, CA, B5⟩; rw [HSTT.out] at CA; have hb := below_then (below_alloc (Below.refl w4.heap.size w4) (.cells #[.slice A7 H c7, .slice BT H dT] 22)) (by simp) B5.out; have RS5 := Aside0.mk (Kd.R_below RS4.out hb); have CV5 := Aside0.mk (Kd.C_below CV4.out hb); have HB5 := Aside0.mk (below_step HB4.out hb); clear hb B5; have ST2 : True := trivial))
      go_roundw
      case rel => exact ⟨K + 1, by omega, by go_num, ⟨_, _, rfl, hdA, CA.out⟩, RS5, CV5, HB5⟩
      case measure => simp [intOf]; omega
    · obtain rfl : N = K := by omega
      obtain ⟨ads, rfl, hcs1⟩ := sp_ad C7.out (by omega)
      obtain ⟨adv, rfl, hcs2⟩ := sp_ad CV.out (by omega)
      have ks := sp_cell C7.out 0 (by omega)
      have kv := sp_cell CV.out t ht
      rw [HAT.out 0 (by omega), if_pos rfl] at ks
      obtain ⟨y, hy⟩ : ∃ y, v.getD t 0 = y := ⟨_, rfl⟩
      rw [hy] at ks kv
      obtain ⟨z, hz⟩ : ∃ z, wrap64 ((N : Int) * y) = z := ⟨_, rfl⟩
      have hz2 : IntKind.i64.wrap ((N : Int) * y) = z := by rw [IntKind.wrap_i64]; unfold wrap64 at hz; exact hz
      rw [hz] at ks
      have ks2 := ks
      rw [show ads.add 0 = ads by simp [Addr.add]] at ks2
      have j0 : (0 : Int) ≤ (t : Int) := by omega
      have j1 : (t : Int) < (N : Int) := by omega
      have HY := Aside0.mk hy
      clear hy hcs1 hcs2
      go_wp2
      go_quiet (fail)
      go_wp2
      clear ks kv ks2 hz hz2
      go_loopw [14] (fun v14 wr2 => ∃ (j : Nat), 1 ≤ j ∧ j ≤ H ∧ v14 = .int .i64 (j : Int) ∧ Aside0 ((Kd.int .i64).C wr2 (some ads) H (Q N)) ∧ Aside0 (Below w.heap.size w wr2)) (fun v _ => H - (intOf v).toNat)
      case atStart => exact ⟨1, by omega, by omega, rfl, ⟨by repeat (first | exact C7.out | refine Kd.C_drewN ?_ _)⟩, ⟨by repeat (first | exact HB.out | apply pw_below_drewN)⟩⟩
      case round =>
        clear C7 HB
        obtain ⟨j, hj1, hjH, rfl, C7, HB⟩ := hrel
        by_cases hlj : j < H
        · have kj := sp_cell C7.out j hlj
          rw [HAT.out j hlj, if_neg (by omega)] at kj
          have j2 : (0 : Int) ≤ (j : Int) := by omega
          have j3 : (j : Int) < (H : Int) := by omega
          go_wp2
          go_roundw
          case rel => exact ⟨j + 1, by omega, by omega, by go_num, C7, HB⟩
          case measure => simp [intOf]; omega
        · obtain rfl : H = j := by omega
          go_wp2
          go_ret
          exact ⟨rfl, HB.out⟩
theorem earshotlaw10_FftBack.calls (A0 : Option Addr) (c0 : Nat) (l0 : List Int) (a1 a2 : Int) (r : Bool) (w : World) (hG : GlobA w) (hr0 : Kd.C (Kd.int .i64) w A0 l0.length l0) (hc0 : l0.length ≤ c0) (h : earshotlaw10_FftBack.f l0 a1 a2 = some r) :
    Calls Tryd.prog 8 #[.slice A0 l0.length c0, .int .i64 a1, .int .i64 a2] w fun e w' => e = .returned (.bool r) ∧ Below w.heap.size w w' := by
  unfold earshotlaw10_FftBack.f at h
  split at h
  case isFalse => cases h
  rename_i hz
  obtain rfl := Option.some.inj h
  simp only [Bool.and_eq_true, decide_eq_true_eq, List.all_eq_true] at hz
  obtain ⟨H, hH, hN⟩ := size5 (a1 % 5) (Int.emod_nonneg _ (by decide)) (Int.emod_lt_of_pos _ (by decide))
  exact back_go A0 _ c0 _ H l0 _ a1 a2 _ w hG rfl hr0 hc0 hz.1 (fun x hx => hz.2 x hx) rfl rfl hH hN rfl

/-- THE ONE PURE STATEMENT of earshotlaw10_FftBack: yours. -/
def earshotlaw10_FftBack.Pure : Prop := ∀ (l0 : List Int) (a1 : Int) (a2 : Int), l0.length ≤ maxLen → l0.length * 8 ≤ 140737488351232 → (∀ x ∈ l0, (Lit.int .i64 x).wf = true) → (Lit.int .i64 a1).wf = true → (Lit.int .i64 a2).wf = true → earshotlaw10_FftBack.f l0 a1 a2 = some true
theorem earshotlaw10_FftBack.walk (P : earshotlaw10_FftBack.Pure) (a0 : Option Addr) (len0 cap0 : Nat) (z0 : List Int) (a1 : Int) (a2 : Int) (w : World) (w0 : (a0 = none ∧ len0 = 0 ∧ cap0 = 0 ∧ z0 = []) ∨ ∃ x, a0 = some x ∧ len0 ≤ cap0 ∧ cap0 ≤ maxLen ∧ z0.length = cap0 ∧ (∀ i, i < z0.length → w.cell? (x.add i) = some (.int .i64 (z0.getD i 0))) ∧ ∀ n ∈ z0, (Lit.int .i64 n).wf = true) (y0 : len0 * 8 ≤ 140737488351232) (w1 : (Lit.int .i64 a1).wf = true) (w2 : (Lit.int .i64 a2).wf = true) (hG : GlobA w) :
    Calls Tryd.prog 8 #[.slice a0 len0 cap0, .int .i64 a1, .int .i64 a2] w fun e w' => e = .returned (.bool true) ∧ Below w.heap.size w w' := by
  obtain ⟨l0, rfl, hr0, hm0, hw0, hc0⟩ := ReadsInt.ofRowC w0
  have h := P l0 a1 a2 hm0 y0 hw0 w1 w2
  refine (earshotlaw10_FftBack.calls _ _ l0 a1 a2 true w hG (Kd.C_of_reads (d := (0 : Int)) (h1 := fun _ => rfl) hr0) hc0 h).mono ?_
  rintro e w' ⟨rfl, hd⟩
  exact ⟨rfl, hd⟩

end Go.Proofs.YtphmfecabbellaaDoor.PFftBack
