-- Written by a program of this work (wip/tools) for this claim; Lean checks it.
import Derived.Test.YtmhacdnnnebpdaaDoorPFrontTailsx0
import Derived.Test.YtmhacdnnnebpdaaDoorPFrontTailsx1
namespace Go.Proofs.YtmhacdnnnebpdaaDoor.PFrontTails
open Go.RowKit Go.Proofs.YtmhacdnnnebpdaaDoorW.PrintWords Go.Proofs.YtmhacdnnnebpdaaDoorW.PrintLast Go.Proofs.YtmhacdnnnebpdaaDoorW.PrintMore
attribute [local go_sem] max2_int min2_int max_two min_two max_three min_three max_four min_four   -- for this text's walks alone
set_option linter.unusedVariables false
set_option linter.unusedSimpArgs false

/-! ### dct_Row: function 20 -/
/-! ### Words of 64 bits, and sums -/
theorem W_W_add (a b : Int) : wrap64 (wrap64 a + b) = wrap64 (a + b) := by unfold wrap64; omega
theorem W_add_W (a b : Int) : wrap64 (a + wrap64 b) = wrap64 (a + b) := by unfold wrap64; omega
theorem W_W_sub (a b : Int) : wrap64 (wrap64 a - b) = wrap64 (a - b) := by unfold wrap64; omega
theorem W_sub_W (a b : Int) : wrap64 (a - wrap64 b) = wrap64 (a - b) := by unfold wrap64; omega
theorem W_neg_W (a : Int) : wrap64 (-(wrap64 a)) = wrap64 (-a) := by unfold wrap64; omega
theorem W_W (a : Int) : wrap64 (wrap64 a) = wrap64 a := by unfold wrap64; omega
theorem W_in {a : Int} (h0 : -9223372036854775808 ≤ a) (h1 : a ≤ 9223372036854775807) : wrap64 a = a := by unfold wrap64; omega
theorem W_lo (a : Int) : -9223372036854775808 ≤ wrap64 a := by unfold wrap64; omega
theorem W_hi (a : Int) : wrap64 a ≤ 9223372036854775807 := by unfold wrap64; omega
theorem W_q (a : Int) : ∃ q, wrap64 a = a - 18446744073709551616 * q := ⟨(a + 9223372036854775808) / 18446744073709551616, by unfold wrap64; omega⟩
theorem W_of_q (a q : Int) : wrap64 (a - 18446744073709551616 * q) = wrap64 a := by unfold wrap64; omega
theorem W_W_mul (a b : Int) : wrap64 (wrap64 a * b) = wrap64 (a * b) := by
  obtain ⟨q, hq⟩ := W_q a
  rw [hq, Int.sub_mul, Int.mul_assoc]
  exact W_of_q _ _
theorem W_mul_W (a b : Int) : wrap64 (a * wrap64 b) = wrap64 (a * b) := by rw [Int.mul_comm, W_W_mul, Int.mul_comm]
theorem W_inj {a b : Int} (h : wrap64 a = wrap64 b) (c : Int) : wrap64 (c + a) = wrap64 (c + b) := by rw [← W_add_W, h, W_add_W]
def S : Nat → (Nat → Int) → Int
  | 0, _ => 0
  | n + 1, g => S n g + g n
theorem S_congr {n : Nat} {g f : Nat → Int} (h : ∀ i, i < n → g i = f i) : S n g = S n f := by
  induction n with
  | zero => rfl
  | succ n ih => rw [S, S, ih (fun i hi => h i (by omega)), h n (by omega)]
theorem S_add (n : Nat) (g f : Nat → Int) : S n (fun i => g i + f i) = S n g + S n f := by
  induction n with
  | zero => rfl
  | succ n ih => simp only [S, ih]; omega
theorem S_sub (n : Nat) (g f : Nat → Int) : S n (fun i => g i - f i) = S n g - S n f := by
  induction n with
  | zero => rfl
  | succ n ih => simp only [S, ih]; omega
theorem S_neg (n : Nat) (g : Nat → Int) : S n (fun i => -g i) = -S n g := by
  induction n with
  | zero => rfl
  | succ n ih => simp only [S, ih]; omega
theorem S_mul (n : Nat) (c : Int) (g : Nat → Int) : S n (fun i => c * g i) = c * S n g := by
  induction n with
  | zero => simp [S]
  | succ n ih => simp only [S, ih, Int.mul_add]
theorem S_mul_r (n : Nat) (c : Int) (g : Nat → Int) : S n (fun i => g i * c) = S n g * c := by
  induction n with
  | zero => simp [S]
  | succ n ih => simp only [S, ih, Int.add_mul]
theorem S_zero {n : Nat} {g : Nat → Int} (h : ∀ i, i < n → g i = 0) : S n g = 0 := by
  induction n with
  | zero => rfl
  | succ n ih => rw [S, ih (fun i hi => h i (by omega)), h n (by omega)]; rfl
theorem S_const (n : Nat) (c : Int) : S n (fun _ => c) = n * c := by
  induction n with
  | zero => simp [S]
  | succ n ih => simp only [S, ih]; rw [Int.natCast_succ, Int.add_mul]; omega
theorem S_swap (n m : Nat) (g : Nat → Nat → Int) : S n (fun i => S m (fun j => g i j)) = S m (fun j => S n (fun i => g i j)) := by
  induction n with
  | zero => exact (S_zero (fun _ _ => rfl)).symm
  | succ n ih =>
    simp only [S]
    rw [ih, S_add]
theorem S_one {n k : Nat} {g : Nat → Int} (hk : k < n) (h : ∀ i, i < n → i ≠ k → g i = 0) : S n g = g k := by
  induction n with
  | zero => omega
  | succ n ih =>
    rw [S]
    by_cases e : k = n
    · subst e
      rw [S_zero (fun i hi => h i (by omega) (by omega))]; omega
    · rw [ih (by omega) (fun i hi hne => h i (by omega) hne), h n (by omega) (by omega)]; omega
theorem S_split (n m : Nat) (g : Nat → Int) : S (n + m) g = S n g + S m (fun i => g (n + i)) := by
  induction m with
  | zero => simp [S]
  | succ m ih => rw [← Nat.add_assoc, S, ih, S]; omega
theorem S_evenodd (n : Nat) (g : Nat → Int) : S (2 * n) g = S n (fun i => g (2 * i)) + S n (fun i => g (2 * i + 1)) := by
  induction n with
  | zero => rfl
  | succ n ih => rw [show 2 * (n + 1) = 2 * n + 1 + 1 by omega, S, S, ih, S, S]; omega
theorem S_front (n : Nat) (g : Nat → Int) : S (n + 1) g = g 0 + S n (fun i => g (i + 1)) := by
  rw [Nat.add_comm n 1, S_split]
  simp only [S, Int.zero_add]
  congr 1
  exact S_congr (fun i _ => by rw [Nat.add_comm])
theorem S_rev (n : Nat) (g : Nat → Int) : S n g = S n (fun i => g (n - 1 - i)) := by
  induction n generalizing g with
  | zero => rfl
  | succ n ih =>
    rw [S_front, ih, S]
    simp only [Nat.add_sub_cancel, Nat.sub_self]
    rw [Int.add_comm]
    congr 1
    exact S_congr (fun i hi => by rw [show n - 1 - i + 1 = n - i by omega])
theorem S_le {n : Nat} {g f : Nat → Int} (h : ∀ i, i < n → g i ≤ f i) : S n g ≤ S n f := by
  induction n with
  | zero => exact Int.le_refl _
  | succ n ih =>
    rw [S, S]
    have h1 := ih (fun i hi => h i (by omega))
    have h2 := h n (by omega)
    omega
theorem S_bound {n : Nat} {g : Nat → Int} {b : Int} (h : ∀ i, i < n → -b ≤ g i ∧ g i ≤ b) : -(n * b) ≤ S n g ∧ S n g ≤ n * b := by
  have h1 := S_le (n := n) (g := g) (f := fun _ => b) (fun i hi => (h i hi).2)
  have h2 := S_le (n := n) (g := fun _ => -b) (f := g) (fun i hi => (h i hi).1)
  rw [S_const] at h1 h2
  rw [Int.mul_neg] at h2
  exact ⟨h2, h1⟩
/-- Sums whose parts are words: only the whole is cut. -/
theorem W_S (n : Nat) (g : Nat → Int) : wrap64 (S n (fun i => wrap64 (g i))) = wrap64 (S n g) := by
  induction n with
  | zero => rfl
  | succ n ih => rw [S, S, W_add_W, ← W_W_add, ih, W_W_add]
theorem W_S_mul (n : Nat) (g f : Nat → Int) : wrap64 (S n (fun i => wrap64 (g i) * f i)) = wrap64 (S n (fun i => g i * f i)) := by
  rw [← W_S]
  rw [← W_S n (fun i => g i * f i)]
  congr 1
  exact S_congr (fun i _ => W_W_mul _ _)
theorem emod_mk {x m q r : Int} (h : x = m * q + r) (h0 : 0 ≤ r) (h1 : r < m) : x % m = r := by
  rw [h, Int.add_comm, Int.add_mul_emod_self_left]
  exact Int.emod_eq_of_lt h0 h1

/-! ### Spins: rows that come back with the other sign -/
def In64 (l : List Int) : Prop := ∀ x ∈ l, -9223372036854775808 ≤ x ∧ x ≤ 9223372036854775807
theorem In64.getD {l : List Int} (h : In64 l) (i : Nat) : wrap64 (l.getD i 0) = l.getD i 0 := by
  rw [List.getD_eq_getElem?_getD]
  rcases Nat.lt_or_ge i l.length with hi | hi
  · rw [List.getElem?_eq_getElem hi]
    have := h _ (List.getElem_mem hi)
    exact W_in this.1 this.2
  · rw [List.getElem?_eq_none hi]; exact W_in (a := 0) (by decide) (by decide)
/-- A row's number at any place: behind its end it begins anew with the other sign. -/
def ext (l : List Int) (p : Int) : Int :=
  if (p % (2 * (l.length : Int))).toNat < l.length then l.getD (p % (2 * (l.length : Int))).toNat 0 else wrap64 (-(l.getD ((p % (2 * (l.length : Int))).toNat - l.length) 0))
def turnL (l : List Int) (k : Int) : List Int := (List.range l.length).map fun q : Nat => ext l ((q : Int) - k)
theorem turnL_length (l : List Int) (k : Int) : (turnL l k).length = l.length := by simp [turnL]
theorem getD_map_range (n : Nat) (f : Nat → Int) (i : Nat) (hi : i < n) : ((List.range n).map f).getD i 0 = f i := by
  rw [List.getD_eq_getElem?_getD, List.getElem?_map, List.getElem?_range hi]; rfl
theorem turnL_getD (l : List Int) (k : Int) (i : Nat) (hi : i < l.length) : (turnL l k).getD i 0 = ext l ((i : Int) - k) := getD_map_range _ _ _ hi
theorem ext_nil (p : Int) : ext [] p = 0 := by
  unfold ext
  rw [if_neg (by simp)]
  exact W_in (a := 0) (by decide) (by decide)
theorem ext_mod {l : List Int} {p q : Int} (h : p % (2 * (l.length : Int)) = q % (2 * (l.length : Int))) : ext l p = ext l q := by unfold ext; rw [h]
theorem ext_low (l : List Int) (i : Nat) (hi : i < l.length) : ext l (i : Int) = l.getD i 0 := by
  have : (i : Int) % (2 * (l.length : Int)) = i := Int.emod_eq_of_lt (by omega) (by omega)
  unfold ext
  rw [this, if_pos (by omega), Int.toNat_natCast]
theorem ext_in (l : List Int) (hl : In64 l) (p : Int) : wrap64 (ext l p) = ext l p := by
  unfold ext
  split
  · exact hl.getD _
  · exact W_W _
theorem add_half (h : Nat) (h0 : 0 < h) (p : Int) : (p + h) % (2 * (h : Int)) = if p % (2 * (h : Int)) < h then p % (2 * (h : Int)) + h else p % (2 * (h : Int)) - h := by
  have e := Int.mul_ediv_add_emod p (2 * (h : Int))
  have r0 := Int.emod_nonneg p (show 2 * (h : Int) ≠ 0 by omega)
  have r1 := Int.emod_lt_of_pos p (show 0 < 2 * (h : Int) by omega)
  generalize hq : p / (2 * (h : Int)) = q at e
  generalize hr : p % (2 * (h : Int)) = r at e r0 r1
  split
  · exact emod_mk (q := q) (by omega) (by omega) (by omega)
  · refine emod_mk (q := q + 1) ?_ (by omega) (by omega)
    rw [Int.mul_add]; omega
theorem ext_half (l : List Int) (hl : In64 l) (p : Int) : ext l (p + l.length) = wrap64 (-(ext l p)) := by
  rcases Nat.eq_zero_or_pos l.length with h0 | h0
  · have : l = [] := List.eq_nil_of_length_eq_zero h0
    subst this
    rw [ext_nil, ext_nil]
    exact (W_in (a := 0) (by decide) (by decide)).symm
  have r0 := Int.emod_nonneg p (show 2 * (l.length : Int) ≠ 0 by omega)
  have r1 := Int.emod_lt_of_pos p (show 0 < 2 * (l.length : Int) by omega)
  unfold ext
  rw [add_half l.length h0 p]
  generalize p % (2 * (l.length : Int)) = r at r0 r1
  by_cases h : r < l.length
  · rw [if_pos h, if_neg (by omega), if_pos (by omega)]
    rw [show (r + (l.length : Int)).toNat - l.length = r.toNat by omega]
  · rw [if_neg h, if_pos (by omega), if_neg (by omega), W_neg_W, Int.neg_neg, hl.getD, show (r - (l.length : Int)).toNat = r.toNat - l.length by omega]
theorem turnL_in (l : List Int) (hl : In64 l) (k : Int) : In64 (turnL l k) := by
  intro x hx
  simp only [turnL, List.mem_map] at hx
  obtain ⟨q, _, rfl⟩ := hx
  rw [← ext_in l hl]
  exact ⟨W_lo _, W_hi _⟩
theorem ext_turn (l : List Int) (hl : In64 l) (k p : Int) : ext (turnL l k) p = ext l (p - k) := by
  rcases Nat.eq_zero_or_pos l.length with h0 | h0
  · have : l = [] := List.eq_nil_of_length_eq_zero h0
    subst this
    rfl
  have e := Int.mul_ediv_add_emod p (2 * (l.length : Int))
  have r0 := Int.emod_nonneg p (show 2 * (l.length : Int) ≠ 0 by omega)
  have r1 := Int.emod_lt_of_pos p (show 0 < 2 * (l.length : Int) by omega)
  have hm : ext l (p - k) = ext l (p % (2 * (l.length : Int)) - k) := ext_mod (by rw [Int.sub_emod (p % (2 * (l.length : Int))), Int.emod_emod_of_dvd _ (Int.dvd_refl _), ← Int.sub_emod])
  rw [hm]
  unfold ext
  rw [turnL_length]
  generalize p % (2 * (l.length : Int)) = r at r0 r1
  by_cases h : r.toNat < l.length
  · rw [if_pos h, turnL_getD _ _ _ h, Int.toNat_of_nonneg r0]
    rfl
  · rw [if_neg h, turnL_getD _ _ _ (by omega)]
    have e2 : ((r.toNat - l.length : Nat) : Int) - k = r - k - l.length := by omega
    rw [e2, ← ext_half l hl (r - k - l.length), show r - k - (l.length : Int) + l.length = r - k by omega]
    rfl
theorem row_ext {a b : List Int} (hl : a.length = b.length) (h : ∀ i, i < a.length → a.getD i 0 = b.getD i 0) : a = b := by
  apply List.ext_getElem hl
  intro i h1 h2
  have := h i h1
  rwa [List.getD_eq_getElem?_getD, List.getD_eq_getElem?_getD, List.getElem?_eq_getElem h1, List.getElem?_eq_getElem h2] at this
theorem turn_turn (l : List Int) (hl : In64 l) (a b : Int) : turnL (turnL l a) b = turnL l (a + b) := by
  refine row_ext (by simp [turnL_length]) (fun i hi => ?_)
  rw [turnL_length, turnL_length] at hi
  rw [turnL_getD _ _ _ (by rw [turnL_length]; exact hi), turnL_getD _ _ _ hi, ext_turn l hl]
  congr 1
  omega
theorem turn_same (l : List Int) {a b : Int} (h : a % (2 * (l.length : Int)) = b % (2 * (l.length : Int))) : turnL l a = turnL l b := by
  refine row_ext (by simp [turnL_length]) (fun i hi => ?_)
  rw [turnL_length] at hi
  rw [turnL_getD _ _ _ hi, turnL_getD _ _ _ hi]
  exact ext_mod (by rw [Int.sub_emod, h, ← Int.sub_emod])
theorem turn_zero (l : List Int) : turnL l 0 = l := by
  refine row_ext (by simp [turnL_length]) (fun i hi => ?_)
  rw [turnL_length] at hi
  rw [turnL_getD _ _ _ hi, Int.sub_zero, ext_low l i hi]
theorem turn_whole (l : List Int) : turnL l (2 * (l.length : Int)) = l := by
  rw [turn_same l (b := 0) (by simp), turn_zero]
theorem turn_half_getD (l : List Int) (hl : In64 l) (i : Nat) (hi : i < l.length) : (turnL l l.length).getD i 0 = wrap64 (-(l.getD i 0)) := by
  rw [turnL_getD _ _ _ hi, ext_mod (q := (i : Int) + l.length) (by
    rw [← Int.add_mul_emod_self_left ((i : Int) - l.length) (2 * (l.length : Int)) 1]; congr 1; omega), ext_half l hl, ext_low l i hi]
def addL (a b : List Int) : List Int := if a.length = b.length then List.zipWith (fun x y => wrap64 (x + y)) a b else []
def lessL (a b : List Int) : List Int := if a.length = b.length then List.zipWith (fun x y => wrap64 (x - y)) a b else []
theorem addL_length {a b : List Int} (h : a.length = b.length) : (addL a b).length = a.length := by unfold addL; rw [if_pos h, List.length_zipWith]; omega
theorem lessL_length {a b : List Int} (h : a.length = b.length) : (lessL a b).length = a.length := by unfold lessL; rw [if_pos h, List.length_zipWith]; omega
theorem zip_getD {a b : List Int} (f : Int → Int → Int) (i : Nat) (h1 : i < a.length) (h2 : i < b.length) : (List.zipWith f a b).getD i 0 = f (a.getD i 0) (b.getD i 0) := by
  simp only [List.getD_eq_getElem?_getD, List.getElem?_zipWith, List.getElem?_eq_getElem h1, List.getElem?_eq_getElem h2]; rfl
theorem addL_getD {a b : List Int} (h : a.length = b.length) (i : Nat) (hi : i < a.length) : (addL a b).getD i 0 = wrap64 (a.getD i 0 + b.getD i 0) := by
  unfold addL; rw [if_pos h, zip_getD _ i hi (by omega)]
theorem lessL_getD {a b : List Int} (h : a.length = b.length) (i : Nat) (hi : i < a.length) : (lessL a b).getD i 0 = wrap64 (a.getD i 0 - b.getD i 0) := by
  unfold lessL; rw [if_pos h, zip_getD _ i hi (by omega)]
theorem In64_of_getD {l : List Int} (h : ∀ i, i < l.length → ∃ x, l.getD i 0 = wrap64 x) : In64 l := by
  intro x hx
  obtain ⟨i, hi, rfl⟩ := List.getElem_of_mem hx
  obtain ⟨y, hy⟩ := h i hi
  rw [List.getD_eq_getElem?_getD, List.getElem?_eq_getElem hi, Option.getD_some] at hy
  rw [hy]
  exact ⟨W_lo _, W_hi _⟩
theorem addL_in (a b : List Int) : In64 (addL a b) := by
  by_cases h : a.length = b.length
  · exact In64_of_getD fun i hi => ⟨_, addL_getD h i (by rwa [addL_length h] at hi)⟩
  · unfold addL; rw [if_neg h]; intro x hx; cases hx
theorem lessL_in (a b : List Int) : In64 (lessL a b) := by
  by_cases h : a.length = b.length
  · exact In64_of_getD fun i hi => ⟨_, lessL_getD h i (by rwa [lessL_length h] at hi)⟩
  · unfold lessL; rw [if_neg h]; intro x hx; cases hx
theorem ext_add {a b : List Int} (h : a.length = b.length) (p : Int) : ext (addL a b) p = wrap64 (ext a p + ext b p) := by
  rcases Nat.eq_zero_or_pos a.length with h0 | h0
  · have e1 : a = [] := List.eq_nil_of_length_eq_zero h0
    have e2 : b = [] := List.eq_nil_of_length_eq_zero (by omega)
    subst e1; subst e2
    have e3 : addL [] [] = [] := rfl
    have e4 : lessL [] [] = [] := rfl
    simp only [e3, e4, ext_nil]
    exact (W_in (a := 0) (by decide) (by decide)).symm
  have r0 := Int.emod_nonneg p (show 2 * (a.length : Int) ≠ 0 by omega)
  have r1 := Int.emod_lt_of_pos p (show 0 < 2 * (a.length : Int) by omega)
  unfold ext
  rw [addL_length h, ← h]
  generalize p % (2 * (a.length : Int)) = r at r0 r1
  by_cases hr : r.toNat < a.length
  · rw [if_pos hr, if_pos hr, if_pos hr, addL_getD h _ hr]
  · rw [if_neg hr, if_neg hr, if_neg hr, addL_getD h _ (by omega), W_neg_W, W_W_add, W_add_W]
    congr 1; omega
theorem ext_less {a b : List Int} (h : a.length = b.length) (p : Int) : ext (lessL a b) p = wrap64 (ext a p - ext b p) := by
  rcases Nat.eq_zero_or_pos a.length with h0 | h0
  · have e1 : a = [] := List.eq_nil_of_length_eq_zero h0
    have e2 : b = [] := List.eq_nil_of_length_eq_zero (by omega)
    subst e1; subst e2
    have e3 : addL [] [] = [] := rfl
    have e4 : lessL [] [] = [] := rfl
    simp only [e3, e4, ext_nil]
    exact (W_in (a := 0) (by decide) (by decide)).symm
  have r0 := Int.emod_nonneg p (show 2 * (a.length : Int) ≠ 0 by omega)
  have r1 := Int.emod_lt_of_pos p (show 0 < 2 * (a.length : Int) by omega)
  unfold ext
  rw [lessL_length h, ← h]
  generalize p % (2 * (a.length : Int)) = r at r0 r1
  by_cases hr : r.toNat < a.length
  · rw [if_pos hr, if_pos hr, if_pos hr, lessL_getD h _ hr]
  · rw [if_neg hr, if_neg hr, if_neg hr, lessL_getD h _ (by omega), W_neg_W, W_W_sub, W_sub_W]
    congr 1; omega
theorem turn_add {a b : List Int} (h : a.length = b.length) (k : Int) : turnL (addL a b) k = addL (turnL a k) (turnL b k) := by
  refine row_ext (by rw [turnL_length, addL_length h, addL_length (by simpa [turnL_length] using h), turnL_length]) (fun i hi => ?_)
  rw [turnL_length, addL_length h] at hi
  rw [turnL_getD _ _ _ (by rw [addL_length h]; exact hi), ext_add h, addL_getD (by simpa [turnL_length] using h) _ (by rw [turnL_length]; exact hi), turnL_getD _ _ _ hi, turnL_getD _ _ _ (by omega)]
theorem turn_less {a b : List Int} (h : a.length = b.length) (k : Int) : turnL (lessL a b) k = lessL (turnL a k) (turnL b k) := by
  refine row_ext (by rw [turnL_length, lessL_length h, lessL_length (by simpa [turnL_length] using h), turnL_length]) (fun i hi => ?_)
  rw [turnL_length, lessL_length h] at hi
  rw [turnL_getD _ _ _ (by rw [lessL_length h]; exact hi), ext_less h, lessL_getD (by simpa [turnL_length] using h) _ (by rw [turnL_length]; exact hi), turnL_getD _ _ _ hi, turnL_getD _ _ _ (by omega)]
theorem addL_comm (a b : List Int) : addL a b = addL b a := by
  unfold addL
  by_cases h : a.length = b.length
  · rw [if_pos h, if_pos h.symm, List.zipWith_comm]
    congr 1; funext x y; rw [Int.add_comm]
  · rw [if_neg h, if_neg (fun e => h e.symm)]

theorem turn_info : (Tryd.prog.info? 3).map (fun i => (i.zero, i.size, i.bytes)) = some (some (.int .i64 0), 1, 8) := by kernel_rfl
theorem own_free {W : World} {b g h cap : Nat} {xs : List Int} (HO : W.ownsRow b 3 1 (.slice (some ⟨g, 0, none⟩) h cap) h (nums .i64 xs)) (q : Nat) (hq : q < h) : (∃ y : Int, W.cell? ⟨g, q, none⟩ = some (.int .i64 y)) ∧ W.frozen? ⟨g, q, none⟩ = false := by
  have := own_at HO (q : Int) (by omega) (by omega)
  rw [Int.toNat_natCast] at this
  exact ⟨⟨_, this.1⟩, this.2⟩
theorem sp_ad {w : World} {A : Option Addr} {n : Nat} {xs : List Int} (h : (Kd.int .i64).C w A n xs) (hn : 0 < n) : ∃ ad, A = some ad ∧ ∀ j : Nat, j < n → w.cell? (ad.add j) = some (.int .i64 (xs.getD j 0)) := by
  obtain ⟨ad, ha, _⟩ := Kd.at_int h 0 (by omega) (by omega)
  refine ⟨ad, ha, fun j hj => ?_⟩
  obtain ⟨ad2, ha2, h2⟩ := Kd.at_int h (j : Int) (by omega) (by omega)
  rw [ha] at ha2
  obtain rfl := Option.some.inj ha2
  rw [Int.toNat_natCast] at h2
  rw [h2, rd, Int.toNat_natCast]
theorem sp_cell {w : World} {ad : Addr} {n : Nat} {xs : List Int} (h : (Kd.int .i64).C w (some ad) n xs) (j : Nat) (hj : j < n) : w.cell? (ad.add j) = some (.int .i64 (xs.getD j 0)) := by
  obtain ⟨ad2, ha, hw⟩ := sp_ad h (by omega)
  obtain rfl := Option.some.inj ha
  exact hw j hj

/-! ### Rows of cosines, and coefficients -/
def mayB (n : Nat) : Bool := n == 4 || n == 8 || n == 16
theorem mayB_cases {n : Nat} (h : mayB n = true) : n = 4 ∨ n = 8 ∨ n = 16 := by
  simp only [mayB, Bool.or_eq_true, beq_iff_eq] at h; omega
def dctRow (k n : Nat) : List Int := (List.range n).map fun m : Nat => cosAt (((k : Int) * (2 * (m : Int) + 1) * ((16 / n : Nat) : Int)) % 64)
theorem dctRow_length (k n : Nat) : (dctRow k n).length = n := by simp [dctRow]
def dS (c x : List Int) : Nat → Int
  | 0 => 0
  | j + 1 => wrap64 (dS c x j + wrap64 (c.getD j 0 * x.getD j 0))
theorem dS_in (c x : List Int) (n : Nat) : -9223372036854775808 ≤ dS c x n ∧ dS c x n ≤ 9223372036854775807 := by
  cases n with
  | zero => exact ⟨show (-9223372036854775808 : Int) ≤ 0 by decide, show (0 : Int) ≤ 9223372036854775807 by decide⟩
  | succ n => exact ⟨W_lo _, W_hi _⟩

def rowMay (k n : Int) : Bool := mayB n.toNat && decide (0 ≤ k) && decide (k < n)
def rowF (k n : Int) : List Int := if rowMay k n = true then dctRow k.toNat n.toNat else []
def dct_Row.f (a0 a1 : Int) : Option (List Int) := some (rowF a0 a1)
theorem dct_cos {x : Int} (h0 : -9223372036854775808 ≤ x) (h1 : x ≤ 9223372036854775807) : circle_Cos.f x = some (cosAt (x % 64)) := by
  unfold circle_Cos.f; rw [if_pos]; simp [ci64b, h0, h1]
theorem dct_may_f (n : Int) : dct_may.f n = some (mayB n.toNat) := by
  unfold dct_may.f mayB
  by_cases h4 : n = 4
  · subst h4; rfl
  by_cases h8 : n = 8
  · subst h8; rfl
  by_cases h16 : n = 16
  · subst h16; rfl
  rw [if_neg h4, if_neg h8, if_neg h16]
  have e4 : (n.toNat == 4) = false := by simp; omega
  have e8 : (n.toNat == 8) = false := by simp; omega
  have e16 : (n.toNat == 16) = false := by simp; omega
  rw [e4, e8, e16]; rfl
set_option maxHeartbeats 8000000 in
theorem row_4 (k : Nat) (w : World) (hG : GlobA w) (hk : k < 4) :
    Calls Tryd.prog 20 #[.int .i64 (k : Int), .int .i64 4] w fun e w' => ∃ v0_ : Value, e = .returned v0_ ∧ Kd.R (Kd.int .i64) 3 w' w.heap.size (fun _ => True) v0_ (dctRow k 4) ∧ Below w.heap.size w w' := by
  have hmk := print_make 22 3 .i64 8 Tryd.underlying22 turn_info (by decide) 4 (by omega)
  simp only [Int.cast_ofNat_Int] at hmk
  have HG := Aside0.mk hG
  have HMY := Aside0.mk (by rw [dct_may_f]; rfl : dct_may.f 4 = some true)
  have HLV : Aside0 (∀ j, j < 4 → (dctRow k 4).getD j 0 = cosAt (((k : Int) * (2 * (j : Int) + 1) * ((16 / 4 : Nat) : Int)) % 64)) := ⟨fun j hj => getD_map_range 4 (fun m : Nat => cosAt (((k : Int) * (2 * (m : Int) + 1) * ((16 / 4 : Nat) : Int)) % 64)) j hj⟩
  clear hG
  go_enter Tryd.func20, Tryd.ntmps20
  go_wp2_with (go_at_call 44; (with_reducible refine (dct_may.calls _ _ _ HMY.out).mono ?_); rintro e w1 ⟨rfl, ⟨nd, rfl⟩⟩)
  go_loopw [23] (fun v wr => ∃ (t : Nat) (xs : List Int), t ≤ 4 ∧ v = .int .i64 (t : Int) ∧ Aside0 (xs.length = 4) ∧ Aside0 (∀ j, j < t → xs.getD j 0 = (dctRow k 4).getD j 0) ∧ Aside0 (wr.ownsRow w.heap.size 3 1 (.slice (some ⟨w.heap.size, 0, none⟩) 4 4) 4 (nums .i64 xs)) ∧ Aside0 (Below w.heap.size w wr)) (fun v _ => 4 - (intOf v).toNat)
  case atStart =>
    refine ⟨0, List.replicate 4 0, by omega, rfl, ⟨by simp⟩, ⟨fun j hj => by omega⟩, ⟨?_⟩, ⟨by repeat (first | exact Below.refl _ _ | apply below_alloc | apply pw_below_drewN)⟩⟩
    have := own_made (w.drewN nd) w.heap.size 3 .i64 4 (by simp) (by omega)
    simpa using this
  case round =>
    obtain ⟨t, xs, ht, rfl, HX, HJ, HO, HB⟩ := hrel
    by_cases hlt : t < 4
    · obtain ⟨p, hp⟩ : ∃ p, (k : Int) * (2 * (t : Int) + 1) = p := ⟨_, rfl⟩
      have hp0 : 0 ≤ p := by rw [← hp]; exact Int.mul_nonneg (by omega) (by omega)
      have hp1 : p ≤ 1000 := by
        rw [← hp]
        exact Int.le_trans (Int.mul_le_mul_of_nonneg_right (show (k : Int) ≤ 15 by omega) (show (0 : Int) ≤ 2 * (t : Int) + 1 by omega)) (by omega)
      obtain ⟨z, hz⟩ : ∃ z, cosAt ((p * 4) % 64) = z := ⟨_, rfl⟩
      have HZ : Aside0 (circle_Cos.f (p * 4) = some z) := ⟨by rw [dct_cos (by omega) (by omega), hz]⟩
      have HV : Aside0 ((dctRow k 4).getD t 0 = z) := ⟨by rw [HLV.out t hlt, hp, ← hz]; congr 1 <;> omega⟩
      have HP := Aside0.mk hp0
      obtain ⟨⟨yy, hcz⟩, hfz⟩ := own_free HO.out t hlt
      clear hz
      go_wp2_with (go_at_call 45; (with_reducible refine (circle_Cos.calls _ _ _ (HG.out.below HB.out) HZ.out).mono ?_); rintro e w2 ⟨rfl, ⟨nd2, rfl⟩⟩)
      go_roundw
      case rel =>
        have HO2 := pw_own_below HO.out (pw_below_drewN (Below.refl _ _) nd2)
        have hst := own_store HO2 (t : Int) z
        rw [Int.toNat_natCast] at hst
        refine ⟨t + 1, _, by omega, by go_num, ⟨by rw [List.length_set, HX.out]⟩, ⟨?_⟩, ⟨hst.1⟩, ⟨Below.grown (pw_below_drewN HB.out nd2) hst.2 HB.out.size (fun k hk => by injection hk with hk; omega)⟩⟩
        intro j hj
        by_cases e : j = t
        · subst e
          rw [HV.out, List.getD_eq_getElem?_getD, List.getElem?_set_self (by rw [HX.out]; exact hlt)]; rfl
        · have := HJ.out j (by omega)
          rw [List.getD_eq_getElem?_getD] at this ⊢
          rw [List.getElem?_set_ne (fun h => e h.symm)]
          exact this
      case measure => simp [intOf]; omega
    · obtain rfl : t = 4 := by omega
      go_wp2
      go_ret
      refine ⟨_, rfl, ?_, HB.out⟩
      have hU : xs = dctRow k 4 := row_ext (by rw [HX.out, dctRow_length]) (fun j hj => by rw [HX.out] at hj; exact HJ.out j hj)
      rw [← hU]
      exact Kd.R_of_own (enc := Value.int .i64) (h1 := fun _ => rfl) (ok := fun _ => True) (xs := xs) (by rw [HX.out]; exact HO.out) (fun _ _ => trivial)
set_option maxHeartbeats 8000000 in
theorem row_8 (k : Nat) (w : World) (hG : GlobA w) (hk : k < 8) :
    Calls Tryd.prog 20 #[.int .i64 (k : Int), .int .i64 8] w fun e w' => ∃ v0_ : Value, e = .returned v0_ ∧ Kd.R (Kd.int .i64) 3 w' w.heap.size (fun _ => True) v0_ (dctRow k 8) ∧ Below w.heap.size w w' := by
  have hmk := print_make 22 3 .i64 8 Tryd.underlying22 turn_info (by decide) 8 (by omega)
  simp only [Int.cast_ofNat_Int] at hmk
  have HG := Aside0.mk hG
  have HMY := Aside0.mk (by rw [dct_may_f]; rfl : dct_may.f 8 = some true)
  have HLV : Aside0 (∀ j, j < 8 → (dctRow k 8).getD j 0 = cosAt (((k : Int) * (2 * (j : Int) + 1) * ((16 / 8 : Nat) : Int)) % 64)) := ⟨fun j hj => getD_map_range 8 (fun m : Nat => cosAt (((k : Int) * (2 * (m : Int) + 1) * ((16 / 8 : Nat) : Int)) % 64)) j hj⟩
  clear hG
  go_enter Tryd.func20, Tryd.ntmps20
  go_wp2_with (go_at_call 44; (with_reducible refine (dct_may.calls _ _ _ HMY.out).mono ?_); rintro e w1 ⟨rfl, ⟨nd, rfl⟩⟩)
  go_loopw [23] (fun v wr => ∃ (t : Nat) (xs : List Int), t ≤ 8 ∧ v = .int .i64 (t : Int) ∧ Aside0 (xs.length = 8) ∧ Aside0 (∀ j, j < t → xs.getD j 0 = (dctRow k 8).getD j 0) ∧ Aside0 (wr.ownsRow w.heap.size 3 1 (.slice (some ⟨w.heap.size, 0, none⟩) 8 8) 8 (nums .i64 xs)) ∧ Aside0 (Below w.heap.size w wr)) (fun v _ => 8 - (intOf v).toNat)
  case atStart =>
    refine ⟨0, List.replicate 8 0, by omega, rfl, ⟨by simp⟩, ⟨fun j hj => by omega⟩, ⟨?_⟩, ⟨by repeat (first | exact Below.refl _ _ | apply below_alloc | apply pw_below_drewN)⟩⟩
    have := own_made (w.drewN nd) w.heap.size 3 .i64 8 (by simp) (by omega)
    simpa using this
  case round =>
    obtain ⟨t, xs, ht, rfl, HX, HJ, HO, HB⟩ := hrel
    by_cases hlt : t < 8
    · obtain ⟨p, hp⟩ : ∃ p, (k : Int) * (2 * (t : Int) + 1) = p := ⟨_, rfl⟩
      have hp0 : 0 ≤ p := by rw [← hp]; exact Int.mul_nonneg (by omega) (by omega)
      have hp1 : p ≤ 1000 := by
        rw [← hp]
        exact Int.le_trans (Int.mul_le_mul_of_nonneg_right (show (k : Int) ≤ 15 by omega) (show (0 : Int) ≤ 2 * (t : Int) + 1 by omega)) (by omega)
      obtain ⟨z, hz⟩ : ∃ z, cosAt ((p * 2) % 64) = z := ⟨_, rfl⟩
      have HZ : Aside0 (circle_Cos.f (p * 2) = some z) := ⟨by rw [dct_cos (by omega) (by omega), hz]⟩
      have HV : Aside0 ((dctRow k 8).getD t 0 = z) := ⟨by rw [HLV.out t hlt, hp, ← hz]; congr 1 <;> omega⟩
      have HP := Aside0.mk hp0
      obtain ⟨⟨yy, hcz⟩, hfz⟩ := own_free HO.out t hlt
      clear hz
      go_wp2_with (go_at_call 45; (with_reducible refine (circle_Cos.calls _ _ _ (HG.out.below HB.out) HZ.out).mono ?_); rintro e w2 ⟨rfl, ⟨nd2, rfl⟩⟩)
      go_roundw
      case rel =>
        have HO2 := pw_own_below HO.out (pw_below_drewN (Below.refl _ _) nd2)
        have hst := own_store HO2 (t : Int) z
        rw [Int.toNat_natCast] at hst
        refine ⟨t + 1, _, by omega, by go_num, ⟨by rw [List.length_set, HX.out]⟩, ⟨?_⟩, ⟨hst.1⟩, ⟨Below.grown (pw_below_drewN HB.out nd2) hst.2 HB.out.size (fun k hk => by injection hk with hk; omega)⟩⟩
        intro j hj
        by_cases e : j = t
        · subst e
          rw [HV.out, List.getD_eq_getElem?_getD, List.getElem?_set_self (by rw [HX.out]; exact hlt)]; rfl
        · have := HJ.out j (by omega)
          rw [List.getD_eq_getElem?_getD] at this ⊢
          rw [List.getElem?_set_ne (fun h => e h.symm)]
          exact this
      case measure => simp [intOf]; omega
    · obtain rfl : t = 8 := by omega
      go_wp2
      go_ret
      refine ⟨_, rfl, ?_, HB.out⟩
      have hU : xs = dctRow k 8 := row_ext (by rw [HX.out, dctRow_length]) (fun j hj => by rw [HX.out] at hj; exact HJ.out j hj)
      rw [← hU]
      exact Kd.R_of_own (enc := Value.int .i64) (h1 := fun _ => rfl) (ok := fun _ => True) (xs := xs) (by rw [HX.out]; exact HO.out) (fun _ _ => trivial)
set_option maxHeartbeats 8000000 in
theorem row_16 (k : Nat) (w : World) (hG : GlobA w) (hk : k < 16) :
    Calls Tryd.prog 20 #[.int .i64 (k : Int), .int .i64 16] w fun e w' => ∃ v0_ : Value, e = .returned v0_ ∧ Kd.R (Kd.int .i64) 3 w' w.heap.size (fun _ => True) v0_ (dctRow k 16) ∧ Below w.heap.size w w' := by
  have hmk := print_make 22 3 .i64 8 Tryd.underlying22 turn_info (by decide) 16 (by omega)
  simp only [Int.cast_ofNat_Int] at hmk
  have HG := Aside0.mk hG
  have HMY := Aside0.mk (by rw [dct_may_f]; rfl : dct_may.f 16 = some true)
  have HLV : Aside0 (∀ j, j < 16 → (dctRow k 16).getD j 0 = cosAt (((k : Int) * (2 * (j : Int) + 1) * ((16 / 16 : Nat) : Int)) % 64)) := ⟨fun j hj => getD_map_range 16 (fun m : Nat => cosAt (((k : Int) * (2 * (m : Int) + 1) * ((16 / 16 : Nat) : Int)) % 64)) j hj⟩
  clear hG
  go_enter Tryd.func20, Tryd.ntmps20
  go_wp2_with (go_at_call 44; (with_reducible refine (dct_may.calls _ _ _ HMY.out).mono ?_); rintro e w1 ⟨rfl, ⟨nd, rfl⟩⟩)
  go_loopw [23] (fun v wr => ∃ (t : Nat) (xs : List Int), t ≤ 16 ∧ v = .int .i64 (t : Int) ∧ Aside0 (xs.length = 16) ∧ Aside0 (∀ j, j < t → xs.getD j 0 = (dctRow k 16).getD j 0) ∧ Aside0 (wr.ownsRow w.heap.size 3 1 (.slice (some ⟨w.heap.size, 0, none⟩) 16 16) 16 (nums .i64 xs)) ∧ Aside0 (Below w.heap.size w wr)) (fun v _ => 16 - (intOf v).toNat)
  case atStart =>
    refine ⟨0, List.replicate 16 0, by omega, rfl, ⟨by simp⟩, ⟨fun j hj => by omega⟩, ⟨?_⟩, ⟨by repeat (first | exact Below.refl _ _ | apply below_alloc | apply pw_below_drewN)⟩⟩
    have := own_made (w.drewN nd) w.heap.size 3 .i64 16 (by simp) (by omega)
    simpa using this
  case round =>
    obtain ⟨t, xs, ht, rfl, HX, HJ, HO, HB⟩ := hrel
    by_cases hlt : t < 16
    · obtain ⟨p, hp⟩ : ∃ p, (k : Int) * (2 * (t : Int) + 1) = p := ⟨_, rfl⟩
      have hp0 : 0 ≤ p := by rw [← hp]; exact Int.mul_nonneg (by omega) (by omega)
      have hp1 : p ≤ 1000 := by
        rw [← hp]
        exact Int.le_trans (Int.mul_le_mul_of_nonneg_right (show (k : Int) ≤ 15 by omega) (show (0 : Int) ≤ 2 * (t : Int) + 1 by omega)) (by omega)
      obtain ⟨z, hz⟩ : ∃ z, cosAt ((p) % 64) = z := ⟨_, rfl⟩
      have HZ : Aside0 (circle_Cos.f (p) = some z) := ⟨by rw [dct_cos (by omega) (by omega), hz]⟩
      have HV : Aside0 ((dctRow k 16).getD t 0 = z) := ⟨by rw [HLV.out t hlt, hp, ← hz]; congr 1 <;> omega⟩
      have HP := Aside0.mk hp0
      obtain ⟨⟨yy, hcz⟩, hfz⟩ := own_free HO.out t hlt
      clear hz
      go_wp2_with (go_at_call 45; (with_reducible refine (circle_Cos.calls _ _ _ (HG.out.below HB.out) HZ.out).mono ?_); rintro e w2 ⟨rfl, ⟨nd2, rfl⟩⟩)
      go_roundw
      case rel =>
        have HO2 := pw_own_below HO.out (pw_below_drewN (Below.refl _ _) nd2)
        have hst := own_store HO2 (t : Int) z
        rw [Int.toNat_natCast] at hst
        refine ⟨t + 1, _, by omega, by go_num, ⟨by rw [List.length_set, HX.out]⟩, ⟨?_⟩, ⟨hst.1⟩, ⟨Below.grown (pw_below_drewN HB.out nd2) hst.2 HB.out.size (fun k hk => by injection hk with hk; omega)⟩⟩
        intro j hj
        by_cases e : j = t
        · subst e
          rw [HV.out, List.getD_eq_getElem?_getD, List.getElem?_set_self (by rw [HX.out]; exact hlt)]; rfl
        · have := HJ.out j (by omega)
          rw [List.getD_eq_getElem?_getD] at this ⊢
          rw [List.getElem?_set_ne (fun h => e h.symm)]
          exact this
      case measure => simp [intOf]; omega
    · obtain rfl : t = 16 := by omega
      go_wp2
      go_ret
      refine ⟨_, rfl, ?_, HB.out⟩
      have hU : xs = dctRow k 16 := row_ext (by rw [HX.out, dctRow_length]) (fun j hj => by rw [HX.out] at hj; exact HJ.out j hj)
      rw [← hU]
      exact Kd.R_of_own (enc := Value.int .i64) (h1 := fun _ => rfl) (ok := fun _ => True) (xs := xs) (by rw [HX.out]; exact HO.out) (fun _ _ => trivial)
theorem row_no (a0 a1 : Int) (w : World) (hm : rowMay a0 a1 = false) :
    Calls Tryd.prog 20 #[.int .i64 a0, .int .i64 a1] w fun e w' => ∃ v0_ : Value, e = .returned v0_ ∧ Kd.R (Kd.int .i64) 3 w' w.heap.size (fun _ => True) v0_ [] ∧ Below w.heap.size w w' := by
  have HMY := Aside0.mk (dct_may_f a1)
  have hc : mayB a1.toNat = false ∨ mayB a1.toNat = true ∧ decide (a0 < 0) = true ∨ mayB a1.toNat = true ∧ decide (a0 < 0) = false ∧ decide (a1 ≤ a0) = true := by
    unfold rowMay at hm
    cases hb : mayB a1.toNat
    · exact .inl rfl
    · rw [hb, Bool.true_and] at hm
      refine .inr ?_
      by_cases c1 : a0 < 0
      · exact .inl ⟨rfl, decide_eq_true c1⟩
      · refine .inr ⟨rfl, decide_eq_false c1, decide_eq_true ?_⟩
        rw [decide_eq_true (show 0 ≤ a0 by omega), Bool.true_and, decide_eq_false_iff_not] at hm
        omega
  clear hm
  rcases hc with c | ⟨c, c2⟩ | ⟨c, c2, c3⟩
  all_goals
    rw [c] at HMY
    clear c
    go_enter Tryd.func20, Tryd.ntmps20
    go_wp2_with (go_at_call 44; (with_reducible refine (dct_may.calls _ _ _ HMY.out).mono ?_); rintro e w1 ⟨rfl, ⟨nd, rfl⟩⟩)
    go_ret
    exact ⟨_, rfl, Kd.R_nil _ _ _ _ _, by repeat (first | exact Below.refl _ _ | apply below_alloc | apply pw_below_drewN)⟩
theorem dct_Row.calls (a0 a1 : Int) (r : List Int) (w : World) (hG : GlobA w) (h : dct_Row.f a0 a1 = some r) :
    Calls Tryd.prog 20 #[.int .i64 a0, .int .i64 a1] w fun e w' => ∃ v0_ : Value, e = .returned v0_ ∧ Kd.R (Kd.int .i64) 3 w' w.heap.size (fun _ => True) v0_ r ∧ Below w.heap.size w w' := by
  obtain rfl := Option.some.inj h
  unfold rowF
  by_cases h : rowMay a0 a1 = true
  · rw [if_pos h]
    simp only [rowMay, Bool.and_eq_true, decide_eq_true_eq] at h
    obtain ⟨k, rfl⟩ := Int.eq_ofNat_of_zero_le h.1.2
    obtain ⟨n, rfl⟩ := Int.eq_ofNat_of_zero_le (show 0 ≤ a1 by omega)
    simp only [Int.toNat_natCast] at h ⊢
    rcases mayB_cases h.1.1 with rfl | rfl | rfl
    · exact row_4 k w hG (by omega)
    · exact row_8 k w hG (by omega)
    · exact row_16 k w hG (by omega)
  · rw [if_neg h]
    exact row_no a0 a1 w (by simpa using h)
theorem rowF_yes {k n : Nat} (hm : mayB n = true) (hk : k < n) : rowF (k : Int) (n : Int) = dctRow k n := by
  unfold rowF rowMay
  rw [if_pos]
  · simp
  · simp only [Int.toNat_natCast, hm, Bool.true_and, Bool.and_eq_true, decide_eq_true_eq]; omega

-- NOT PRINTED: function 100 (round_Div_1)

/-! ### round_Div: function 73 -/
def i64b (x : Int) : Bool := decide (-9223372036854775808 ≤ x) && decide (x ≤ 9223372036854775807)
theorem i64b_of {x : Int} (h : i64b x = true) : -9223372036854775808 ≤ x ∧ x ≤ 9223372036854775807 := by simpa [i64b] using h
theorem i64b_mk {x : Int} (h0 : -9223372036854775808 ≤ x) (h1 : x ≤ 9223372036854775807) : i64b x = true := by simp [i64b, h0, h1]
theorem div_low {x n : Int} (hn : 1 ≤ n) (hx : -9223372036854775808 ≤ x) : -9223372036854775808 ≤ x / n := by
  refine (Int.le_ediv_iff_mul_le (by omega)).2 ?_
  omega
theorem div_high {x n : Int} (hn : 1 ≤ n) (hx : x ≤ 9223372036854775807) : x / n ≤ 9223372036854775807 := by
  refine Int.le_trans (Int.ediv_le_ediv (by omega) hx) ?_
  exact Int.ediv_le_self _ (by decide)
theorem parts_some {x n : Int} (hx : i64b x = true) (hn : i64b n = true) (h1 : 1 ≤ n) : round_Parts.f x n = some (x / n, x % n) := by
  have hx := i64b_of hx
  have hn := i64b_of hn
  have hl := div_low h1 hx.1
  have hh := div_high h1 hx.2
  have m0 := Int.emod_nonneg x (show n ≠ 0 by omega)
  have m1 := Int.emod_lt_of_pos x (show 0 < n by omega)
  have e1 := Int.tmod_eq_emod (a := x) (b := n)
  have e2 := Int.tdiv_eq_ediv (a := x) (b := n)
  have s1 : n.sign = 1 := Int.sign_eq_one_of_pos (by omega)
  have s2 : (n.natAbs : Int) = n := by omega
  rw [s1] at e2
  unfold round_Parts.f
  rw [if_neg (by omega), if_neg (by omega)]
  by_cases h : 0 ≤ x ∨ n ∣ x
  · rw [if_pos h] at e1 e2
    rw [if_neg (by omega), e1, e2, Int.natCast_zero]
    rw [show wrap64 (x / n + 0) = x / n by unfold wrap64; omega, Int.sub_zero]
  · rw [if_neg h] at e1 e2
    rw [s2] at e1
    have hx0 : x / n < 0 := by
      rcases Int.lt_or_le (x / n) 0 with h' | h'
      · exact h'
      · have := Int.mul_ediv_add_emod x n
        have := Int.mul_nonneg (show 0 ≤ n by omega) h'
        omega
    rw [if_pos (by omega), e1, e2]
    rw [show wrap64 (x / n + 1) = x / n + 1 by unfold wrap64; omega, show wrap64 (x / n + 1 - 1) = x / n by unfold wrap64; omega, show wrap64 (x % n - n + n) = x % n by unfold wrap64; omega]
theorem parts_none {x n : Int} (h1 : n < 1) : round_Parts.f x n = some (0, 0) := by
  unfold round_Parts.f
  rw [if_pos h1]
/-- Division that rounds. -/
def divR (x n : Int) : Int := if n < 1 then 0 else if x % n ≥ n - x % n then x / n + 1 else x / n
def round_Div.f (a0 : Int) (a1 : Int) : Option (Int) := if i64b a0 = true then (if i64b a1 = true then (some (divR a0 a1)) else (none)) else (none)
set_option maxHeartbeats 8000000 in
theorem round_Div.calls (a0 : Int) (a1 : Int) (r : Int) (w : World) (h : round_Div.f a0 a1 = some r) :
    Calls Tryd.prog 73 #[.int .i64 a0, .int .i64 a1] w fun e w' => e = .returned (.int .i64 r) ∧ Below w.heap.size w w' := by
  have hx : i64b a0 = true := by
    unfold round_Div.f at h
    split at h
    · assumption
    · cases h
  have hn : i64b a1 = true := by
    unfold round_Div.f at h
    rw [if_pos hx] at h
    split at h
    · assumption
    · cases h
  have HR : Aside0 (divR a0 a1 = r) := by
    unfold round_Div.f at h
    rw [if_pos hx, if_pos hn] at h
    exact ⟨Option.some.inj h⟩
  clear h
  have hmf : ∀ (fn : Fn) (first cap : Array Value) (w : World), (Instr.makeFunc fn first cap).run Tryd.prog w = .ok (.func fn first cap) w := fun _ _ _ _ => rfl
  by_cases h1 : a1 < 1
  · have HP := Aside0.mk (parts_none (x := a0) h1)
    have hdec : decide (0 < a1) = false := decide_eq_false (by omega)
    have HR2 : Aside0 (r = 0) := ⟨by rw [← HR.out, divR, if_pos h1]⟩
    clear hx hn
    go_enter Tryd.func73, Tryd.ntmps73
    go_wp2_with (first | (go_at_call 83; refine (round_Parts.calls _ _ _ _ _ HP.out).mono ?_; rintro e w' ⟨rfl, ⟨nd, rfl⟩⟩) | go_in)
    all_goals
      go_ret
      exact ⟨by rw [HR2.out]; rfl, by repeat (first | exact Below.refl _ _ | apply below_alloc | apply pw_below_drewN)⟩
  · have HP := Aside0.mk (parts_some hx hn (Int.not_lt.1 h1))
    have m0 := Int.emod_nonneg a0 (show a1 ≠ 0 by omega)
    have m1 := Int.emod_lt_of_pos a0 (show 0 < a1 by omega)
    have hx' := i64b_of hx
    have hn' := i64b_of hn
    have hl := div_low (Int.not_lt.1 h1) hx'.1
    have hh := div_high (Int.not_lt.1 h1) hx'.2
    have hq : 2 ≤ a1 → a0 / a1 ≤ 4611686018427387904 := by
      intro h2
      have e1 := Int.mul_ediv_add_emod a0 a1
      have e2 : 2 * (a0 / a1) ≤ a1 * (a0 / a1) ∨ a0 / a1 < 0 := by
        rcases Int.lt_or_le (a0 / a1) 0 with h' | h'
        · exact .inr h'
        · exact .inl (Int.mul_le_mul_of_nonneg_right h2 h')
      omega
    have HE : Aside0 (r = if a0 % a1 ≥ a1 - a0 % a1 then a0 / a1 + 1 else a0 / a1) := ⟨by rw [← HR.out, divR, if_neg h1]⟩
    clear hx hn HR
    obtain ⟨q, hqq⟩ : ∃ q, a0 / a1 = q := ⟨_, rfl⟩
    obtain ⟨m, hmm⟩ : ∃ m, a0 % a1 = m := ⟨_, rfl⟩
    rw [hqq, hmm] at HP HE
    rw [hqq] at hl hh hq
    rw [hmm] at m0 m1
    clear hqq hmm
    have hx1 := hx'.1
    have hx2 := hx'.2
    have hn2 := hn'.2
    clear hx' hn'
    have hdec : decide (0 < a1) = true := decide_eq_true (by omega)
    by_cases hc : m ≥ a1 - m
    · have hq2 := hq (by omega)
      have HE2 : Aside0 (r = q + 1) := ⟨by rw [HE.out, if_pos hc]⟩
      have hd2 : decide (a1 - m ≤ m) = true := decide_eq_true hc
      clear HE hq hc
      go_enter Tryd.func73, Tryd.ntmps73
      go_wp2_with (first | (go_at_call 83; refine (round_Parts.calls _ _ _ _ _ HP.out).mono ?_; rintro e w' ⟨rfl, ⟨nd, rfl⟩⟩) | go_in)
      all_goals
        go_ret
        exact ⟨by rw [HE2.out]; rfl, by repeat (first | exact Below.refl _ _ | apply below_alloc | apply pw_below_drewN)⟩
    · have HE2 : Aside0 (r = q) := ⟨by rw [HE.out, if_neg hc]⟩
      have hd2 : decide (a1 - m ≤ m) = false := decide_eq_false hc
      clear HE hq hc
      go_enter Tryd.func73, Tryd.ntmps73
      go_wp2_with (first | (go_at_call 83; refine (round_Parts.calls _ _ _ _ _ HP.out).mono ?_; rintro e w' ⟨rfl, ⟨nd, rfl⟩⟩) | go_in)
      all_goals
        go_ret
        exact ⟨by rw [HE2.out]; rfl, by repeat (first | exact Below.refl _ _ | apply below_alloc | apply pw_below_drewN)⟩

/-! ### round_Half: function 47 -/
def round_Half.f (a0 : Int) (a1 : Int) : Option (Int) := if a1 < 0 then (some 0) else (if a1 > 62 then (some 0) else (if 0 ≤ a1 then ((round_Div.f a0 (shl .i64 1 a1)).bind fun t105 => (some t105)) else (none)))
set_option maxHeartbeats 8000000 in
set_option maxRecDepth 100000 in
theorem round_Half.calls (a0 : Int) (a1 : Int) (r : Int) (w : World) (h : round_Half.f a0 a1 = some r) :
    Calls Tryd.prog 47 #[.int .i64 a0, .int .i64 a1] w fun e w' => e = .returned (.int .i64 r) ∧ Below w.heap.size w w' := by
  have HB := Aside0.mk (Below.refl w.heap.size w)
  have H : (if a1 < 0 then (some 0) else (if a1 > 62 then (some 0) else (if 0 ≤ a1 then ((round_Div.f a0 (shl .i64 1 a1)).bind fun t105 => (some t105)) else (none)))) = some r := h
  clear h
  by_cases c3 : a1 < 0
  · rw [if_pos c3] at H
    have c3b0 : decide (a1 < 0) = true := decide_eq_true c3
    clear c3
    obtain rfl := Option.some.inj H
    go_enter Tryd.func47, Tryd.ntmps47
    go_wp2
    go_ret
    exact ⟨by first | rfl | (simp [errW_none, errW_some] <;> rfl) | (simp [*, errW_none, errW_some] <;> rfl), by repeat (first | (with_reducible first | exact HB.out | apply below_alloc | apply pw_below_drewN | apply below_drew1) | exact HB.out)⟩
  · rw [if_neg c3] at H
    have c3b0 : decide (a1 < 0) = false := decide_eq_false c3
    clear c3
    by_cases c4 : a1 > 62
    · rw [if_pos c4] at H
      have c4b0 : decide (62 < a1) = true := decide_eq_true c4
      clear c4
      obtain rfl := Option.some.inj H
      go_enter Tryd.func47, Tryd.ntmps47
      go_wp2
      go_ret
      exact ⟨by first | rfl | (simp [errW_none, errW_some] <;> rfl) | (simp [*, errW_none, errW_some] <;> rfl), by repeat (first | (with_reducible first | exact HB.out | apply below_alloc | apply pw_below_drewN | apply below_drew1) | exact HB.out)⟩
    · rw [if_neg c4] at H
      have c4b0 : decide (62 < a1) = false := decide_eq_false c4
      clear c4
      by_cases c5 : 0 ≤ a1
      · rw [if_pos c5] at H
        have c5b0 := eq_true c5
        have c5b1 : decide (0 ≤ a1) = true := decide_eq_true c5
        clear c5
        obtain ⟨ji6, hji6⟩ : ∃ j_ : Int, (shl .i64 1 a1) = j_ := ⟨_, rfl⟩
        replace H : ((round_Div.f a0 (ji6)).bind fun t105 => (some t105)) = some r := by first | (rw [hji6] at H; exact H) | (simp only [hji6] at H ⊢; exact H)
        have hji6_ : (IntKind.i64.wrap (1 * 2 ^ min a1.toNat 64)) = ji6 := hji6
        have hji6z : a1 ≤ 64 → (IntKind.i64.wrap (1 * 2 ^ a1.toNat)) = ji6 := shl_small hji6
        have hji6u : (IntKind.i64.wrap (2 ^ min a1.toNat 64)) = ji6 := by have h_ := hji6_; rw [Int.one_mul] at h_; exact h_
        have hji6v : a1 ≤ 64 → (IntKind.i64.wrap (2 ^ a1.toNat)) = ji6 := fun hle_ => by have h_ := hji6z hle_; rw [Int.one_mul] at h_; exact h_
        have hji6y : (wrap64 (1 * 2 ^ min a1.toNat 64)) = ji6 := (i64_w _).symm.trans hji6_
        have hji6x : a1 ≤ 64 → (wrap64 (1 * 2 ^ a1.toNat)) = ji6 := fun h_ => (i64_w _).symm.trans (hji6z h_)
        replace H := Option.bind_eq_some_iff.mp H
        obtain ⟨t105, A70, H⟩ := H
        replace H : (some t105) = some r := H
        have A7 := Aside0.mk A70
        clear A70
        obtain rfl := Option.some.inj H
        go_enter Tryd.func47, Tryd.ntmps47
        go_wp2_with (first | ((with_reducible refine gate_callee (f := 73) rfl ?_); refine goesL_ (some 14) rfl rfl Tryd.func73 (by kernel_rfl) rfl #[.int .i64 a0, .int .i64 ji6] rfl (by (try simp only [List.map_toArray, List.map_cons, List.map_nil]); first | done | (simp only [hji6]; rfl) | rfl | (simp only [List.length_drop, List.length_take]; rfl)) ?_; (with_reducible refine (round_Div.calls a0 ji6 t105 _ A7.out).mono ?_); rintro e w8 ⟨rfl, hb⟩; refine ⟨_, rfl, ?_⟩; have n0_ := Aside0.mk (below_step (by repeat (first | (with_reducible first | exact HB.out | apply below_alloc | apply pw_below_drewN | apply below_drew1) | exact HB.out)) hb); clear HB; have HB := n0_; clear n0_; (try clear hb); (try clear hb2); (try clear hk); (try clear hi)))
        go_ret
        exact ⟨by first | rfl | (simp [errW_none, errW_some] <;> rfl) | (simp only [← hji6]; first | rfl | (simp [errW_none, errW_some] <;> rfl)) | (simp [*, errW_none, errW_some] <;> rfl), by repeat (first | (with_reducible first | exact HB.out | apply below_alloc | apply pw_below_drewN | apply below_drew1) | exact HB.out)⟩
      · rw [if_neg c5] at H
        exact absurd H (by simp)

-- NOT PRINTED: function 75 (circle_Window_1)

end Go.Proofs.YtmhacdnnnebpdaaDoor.PFrontTails
