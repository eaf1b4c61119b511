-- Written by a program of this work (wip/tools) for this claim; Lean checks it.
import Derived.Test.YtphmfecabbellaaDoorPFftBlockx0
import Derived.Test.YtphmfecabbellaaDoorPFftBlockx1
namespace Go.Proofs.YtphmfecabbellaaDoor.PFftBlock
open Go.RowKit Go.Proofs.YtphmfecabbellaaDoorW.PrintWords Go.Proofs.YtphmfecabbellaaDoorW.PrintLast Go.Proofs.YtphmfecabbellaaDoorW.PrintMore
attribute [local go_sem] max2_int min2_int max_two min_two max_three min_three max_four min_four   -- for this text's walks alone
set_option linter.unusedVariables false
set_option linter.unusedSimpArgs false

/-! ### spin_Turn: function 15 -/
/-! ### Words of 64 bits, and sums -/
theorem W_W_add (a b : Int) : wrap64 (wrap64 a + b) = wrap64 (a + b) := by unfold wrap64; omega
theorem W_add_W (a b : Int) : wrap64 (a + wrap64 b) = wrap64 (a + b) := by unfold wrap64; omega
theorem W_W_sub (a b : Int) : wrap64 (wrap64 a - b) = wrap64 (a - b) := by unfold wrap64; omega
theorem W_sub_W (a b : Int) : wrap64 (a - wrap64 b) = wrap64 (a - b) := by unfold wrap64; omega
theorem W_neg_W (a : Int) : wrap64 (-(wrap64 a)) = wrap64 (-a) := by unfold wrap64; omega
theorem W_W (a : Int) : wrap64 (wrap64 a) = wrap64 a := by unfold wrap64; omega
theorem W_in {a : Int} (h0 : -9223372036854775808 ≤ a) (h1 : a ≤ 9223372036854775807) : wrap64 a = a := by unfold wrap64; omega
theorem W_lo (a : Int) : -9223372036854775808 ≤ wrap64 a := by unfold wrap64; omega
theorem W_hi (a : Int) : wrap64 a ≤ 9223372036854775807 := by unfold wrap64; omega
theorem W_q (a : Int) : ∃ q, wrap64 a = a - 18446744073709551616 * q := ⟨(a + 9223372036854775808) / 18446744073709551616, by unfold wrap64; omega⟩
theorem W_of_q (a q : Int) : wrap64 (a - 18446744073709551616 * q) = wrap64 a := by unfold wrap64; omega
theorem W_W_mul (a b : Int) : wrap64 (wrap64 a * b) = wrap64 (a * b) := by
  obtain ⟨q, hq⟩ := W_q a
  rw [hq, Int.sub_mul, Int.mul_assoc]
  exact W_of_q _ _
theorem W_mul_W (a b : Int) : wrap64 (a * wrap64 b) = wrap64 (a * b) := by rw [Int.mul_comm, W_W_mul, Int.mul_comm]
theorem W_inj {a b : Int} (h : wrap64 a = wrap64 b) (c : Int) : wrap64 (c + a) = wrap64 (c + b) := by rw [← W_add_W, h, W_add_W]
def S : Nat → (Nat → Int) → Int
  | 0, _ => 0
  | n + 1, g => S n g + g n
theorem S_congr {n : Nat} {g f : Nat → Int} (h : ∀ i, i < n → g i = f i) : S n g = S n f := by
  induction n with
  | zero => rfl
  | succ n ih => rw [S, S, ih (fun i hi => h i (by omega)), h n (by omega)]
theorem S_add (n : Nat) (g f : Nat → Int) : S n (fun i => g i + f i) = S n g + S n f := by
  induction n with
  | zero => rfl
  | succ n ih => simp only [S, ih]; omega
theorem S_sub (n : Nat) (g f : Nat → Int) : S n (fun i => g i - f i) = S n g - S n f := by
  induction n with
  | zero => rfl
  | succ n ih => simp only [S, ih]; omega
theorem S_neg (n : Nat) (g : Nat → Int) : S n (fun i => -g i) = -S n g := by
  induction n with
  | zero => rfl
  | succ n ih => simp only [S, ih]; omega
theorem S_mul (n : Nat) (c : Int) (g : Nat → Int) : S n (fun i => c * g i) = c * S n g := by
  induction n with
  | zero => simp [S]
  | succ n ih => simp only [S, ih, Int.mul_add]
theorem S_mul_r (n : Nat) (c : Int) (g : Nat → Int) : S n (fun i => g i * c) = S n g * c := by
  induction n with
  | zero => simp [S]
  | succ n ih => simp only [S, ih, Int.add_mul]
theorem S_zero {n : Nat} {g : Nat → Int} (h : ∀ i, i < n → g i = 0) : S n g = 0 := by
  induction n with
  | zero => rfl
  | succ n ih => rw [S, ih (fun i hi => h i (by omega)), h n (by omega)]; rfl
theorem S_const (n : Nat) (c : Int) : S n (fun _ => c) = n * c := by
  induction n with
  | zero => simp [S]
  | succ n ih => simp only [S, ih]; rw [Int.natCast_succ, Int.add_mul]; omega
theorem S_swap (n m : Nat) (g : Nat → Nat → Int) : S n (fun i => S m (fun j => g i j)) = S m (fun j => S n (fun i => g i j)) := by
  induction n with
  | zero => exact (S_zero (fun _ _ => rfl)).symm
  | succ n ih =>
    simp only [S]
    rw [ih, S_add]
theorem S_one {n k : Nat} {g : Nat → Int} (hk : k < n) (h : ∀ i, i < n → i ≠ k → g i = 0) : S n g = g k := by
  induction n with
  | zero => omega
  | succ n ih =>
    rw [S]
    by_cases e : k = n
    · subst e
      rw [S_zero (fun i hi => h i (by omega) (by omega))]; omega
    · rw [ih (by omega) (fun i hi hne => h i (by omega) hne), h n (by omega) (by omega)]; omega
theorem S_split (n m : Nat) (g : Nat → Int) : S (n + m) g = S n g + S m (fun i => g (n + i)) := by
  induction m with
  | zero => simp [S]
  | succ m ih => rw [← Nat.add_assoc, S, ih, S]; omega
theorem S_evenodd (n : Nat) (g : Nat → Int) : S (2 * n) g = S n (fun i => g (2 * i)) + S n (fun i => g (2 * i + 1)) := by
  induction n with
  | zero => rfl
  | succ n ih => rw [show 2 * (n + 1) = 2 * n + 1 + 1 by omega, S, S, ih, S, S]; omega
theorem S_front (n : Nat) (g : Nat → Int) : S (n + 1) g = g 0 + S n (fun i => g (i + 1)) := by
  rw [Nat.add_comm n 1, S_split]
  simp only [S, Int.zero_add]
  congr 1
  exact S_congr (fun i _ => by rw [Nat.add_comm])
theorem S_rev (n : Nat) (g : Nat → Int) : S n g = S n (fun i => g (n - 1 - i)) := by
  induction n generalizing g with
  | zero => rfl
  | succ n ih =>
    rw [S_front, ih, S]
    simp only [Nat.add_sub_cancel, Nat.sub_self]
    rw [Int.add_comm]
    congr 1
    exact S_congr (fun i hi => by rw [show n - 1 - i + 1 = n - i by omega])
theorem S_le {n : Nat} {g f : Nat → Int} (h : ∀ i, i < n → g i ≤ f i) : S n g ≤ S n f := by
  induction n with
  | zero => exact Int.le_refl _
  | succ n ih =>
    rw [S, S]
    have h1 := ih (fun i hi => h i (by omega))
    have h2 := h n (by omega)
    omega
theorem S_bound {n : Nat} {g : Nat → Int} {b : Int} (h : ∀ i, i < n → -b ≤ g i ∧ g i ≤ b) : -(n * b) ≤ S n g ∧ S n g ≤ n * b := by
  have h1 := S_le (n := n) (g := g) (f := fun _ => b) (fun i hi => (h i hi).2)
  have h2 := S_le (n := n) (g := fun _ => -b) (f := g) (fun i hi => (h i hi).1)
  rw [S_const] at h1 h2
  rw [Int.mul_neg] at h2
  exact ⟨h2, h1⟩
/-- Sums whose parts are words: only the whole is cut. -/
theorem W_S (n : Nat) (g : Nat → Int) : wrap64 (S n (fun i => wrap64 (g i))) = wrap64 (S n g) := by
  induction n with
  | zero => rfl
  | succ n ih => rw [S, S, W_add_W, ← W_W_add, ih, W_W_add]
theorem W_S_mul (n : Nat) (g f : Nat → Int) : wrap64 (S n (fun i => wrap64 (g i) * f i)) = wrap64 (S n (fun i => g i * f i)) := by
  rw [← W_S]
  rw [← W_S n (fun i => g i * f i)]
  congr 1
  exact S_congr (fun i _ => W_W_mul _ _)
theorem emod_mk {x m q r : Int} (h : x = m * q + r) (h0 : 0 ≤ r) (h1 : r < m) : x % m = r := by
  rw [h, Int.add_comm, Int.add_mul_emod_self_left]
  exact Int.emod_eq_of_lt h0 h1

/-! ### Spins: rows that come back with the other sign -/
def In64 (l : List Int) : Prop := ∀ x ∈ l, -9223372036854775808 ≤ x ∧ x ≤ 9223372036854775807
theorem In64.getD {l : List Int} (h : In64 l) (i : Nat) : wrap64 (l.getD i 0) = l.getD i 0 := by
  rw [List.getD_eq_getElem?_getD]
  rcases Nat.lt_or_ge i l.length with hi | hi
  · rw [List.getElem?_eq_getElem hi]
    have := h _ (List.getElem_mem hi)
    exact W_in this.1 this.2
  · rw [List.getElem?_eq_none hi]; exact W_in (a := 0) (by decide) (by decide)
/-- A row's number at any place: behind its end it begins anew with the other sign. -/
def ext (l : List Int) (p : Int) : Int :=
  if (p % (2 * (l.length : Int))).toNat < l.length then l.getD (p % (2 * (l.length : Int))).toNat 0 else wrap64 (-(l.getD ((p % (2 * (l.length : Int))).toNat - l.length) 0))
def turnL (l : List Int) (k : Int) : List Int := (List.range l.length).map fun q : Nat => ext l ((q : Int) - k)
theorem turnL_length (l : List Int) (k : Int) : (turnL l k).length = l.length := by simp [turnL]
theorem getD_map_range (n : Nat) (f : Nat → Int) (i : Nat) (hi : i < n) : ((List.range n).map f).getD i 0 = f i := by
  rw [List.getD_eq_getElem?_getD, List.getElem?_map, List.getElem?_range hi]; rfl
theorem turnL_getD (l : List Int) (k : Int) (i : Nat) (hi : i < l.length) : (turnL l k).getD i 0 = ext l ((i : Int) - k) := getD_map_range _ _ _ hi
theorem ext_nil (p : Int) : ext [] p = 0 := by
  unfold ext
  rw [if_neg (by simp)]
  exact W_in (a := 0) (by decide) (by decide)
theorem ext_mod {l : List Int} {p q : Int} (h : p % (2 * (l.length : Int)) = q % (2 * (l.length : Int))) : ext l p = ext l q := by unfold ext; rw [h]
theorem ext_low (l : List Int) (i : Nat) (hi : i < l.length) : ext l (i : Int) = l.getD i 0 := by
  have : (i : Int) % (2 * (l.length : Int)) = i := Int.emod_eq_of_lt (by omega) (by omega)
  unfold ext
  rw [this, if_pos (by omega), Int.toNat_natCast]
theorem ext_in (l : List Int) (hl : In64 l) (p : Int) : wrap64 (ext l p) = ext l p := by
  unfold ext
  split
  · exact hl.getD _
  · exact W_W _
theorem add_half (h : Nat) (h0 : 0 < h) (p : Int) : (p + h) % (2 * (h : Int)) = if p % (2 * (h : Int)) < h then p % (2 * (h : Int)) + h else p % (2 * (h : Int)) - h := by
  have e := Int.mul_ediv_add_emod p (2 * (h : Int))
  have r0 := Int.emod_nonneg p (show 2 * (h : Int) ≠ 0 by omega)
  have r1 := Int.emod_lt_of_pos p (show 0 < 2 * (h : Int) by omega)
  generalize hq : p / (2 * (h : Int)) = q at e
  generalize hr : p % (2 * (h : Int)) = r at e r0 r1
  split
  · exact emod_mk (q := q) (by omega) (by omega) (by omega)
  · refine emod_mk (q := q + 1) ?_ (by omega) (by omega)
    rw [Int.mul_add]; omega
theorem ext_half (l : List Int) (hl : In64 l) (p : Int) : ext l (p + l.length) = wrap64 (-(ext l p)) := by
  rcases Nat.eq_zero_or_pos l.length with h0 | h0
  · have : l = [] := List.eq_nil_of_length_eq_zero h0
    subst this
    rw [ext_nil, ext_nil]
    exact (W_in (a := 0) (by decide) (by decide)).symm
  have r0 := Int.emod_nonneg p (show 2 * (l.length : Int) ≠ 0 by omega)
  have r1 := Int.emod_lt_of_pos p (show 0 < 2 * (l.length : Int) by omega)
  unfold ext
  rw [add_half l.length h0 p]
  generalize p % (2 * (l.length : Int)) = r at r0 r1
  by_cases h : r < l.length
  · rw [if_pos h, if_neg (by omega), if_pos (by omega)]
    rw [show (r + (l.length : Int)).toNat - l.length = r.toNat by omega]
  · rw [if_neg h, if_pos (by omega), if_neg (by omega), W_neg_W, Int.neg_neg, hl.getD, show (r - (l.length : Int)).toNat = r.toNat - l.length by omega]
theorem turnL_in (l : List Int) (hl : In64 l) (k : Int) : In64 (turnL l k) := by
  intro x hx
  simp only [turnL, List.mem_map] at hx
  obtain ⟨q, _, rfl⟩ := hx
  rw [← ext_in l hl]
  exact ⟨W_lo _, W_hi _⟩
theorem ext_turn (l : List Int) (hl : In64 l) (k p : Int) : ext (turnL l k) p = ext l (p - k) := by
  rcases Nat.eq_zero_or_pos l.length with h0 | h0
  · have : l = [] := List.eq_nil_of_length_eq_zero h0
    subst this
    rfl
  have e := Int.mul_ediv_add_emod p (2 * (l.length : Int))
  have r0 := Int.emod_nonneg p (show 2 * (l.length : Int) ≠ 0 by omega)
  have r1 := Int.emod_lt_of_pos p (show 0 < 2 * (l.length : Int) by omega)
  have hm : ext l (p - k) = ext l (p % (2 * (l.length : Int)) - k) := ext_mod (by rw [Int.sub_emod (p % (2 * (l.length : Int))), Int.emod_emod_of_dvd _ (Int.dvd_refl _), ← Int.sub_emod])
  rw [hm]
  unfold ext
  rw [turnL_length]
  generalize p % (2 * (l.length : Int)) = r at r0 r1
  by_cases h : r.toNat < l.length
  · rw [if_pos h, turnL_getD _ _ _ h, Int.toNat_of_nonneg r0]
    rfl
  · rw [if_neg h, turnL_getD _ _ _ (by omega)]
    have e2 : ((r.toNat - l.length : Nat) : Int) - k = r - k - l.length := by omega
    rw [e2, ← ext_half l hl (r - k - l.length), show r - k - (l.length : Int) + l.length = r - k by omega]
    rfl
theorem row_ext {a b : List Int} (hl : a.length = b.length) (h : ∀ i, i < a.length → a.getD i 0 = b.getD i 0) : a = b := by
  apply List.ext_getElem hl
  intro i h1 h2
  have := h i h1
  rwa [List.getD_eq_getElem?_getD, List.getD_eq_getElem?_getD, List.getElem?_eq_getElem h1, List.getElem?_eq_getElem h2] at this
theorem turn_turn (l : List Int) (hl : In64 l) (a b : Int) : turnL (turnL l a) b = turnL l (a + b) := by
  refine row_ext (by simp [turnL_length]) (fun i hi => ?_)
  rw [turnL_length, turnL_length] at hi
  rw [turnL_getD _ _ _ (by rw [turnL_length]; exact hi), turnL_getD _ _ _ hi, ext_turn l hl]
  congr 1
  omega
theorem turn_same (l : List Int) {a b : Int} (h : a % (2 * (l.length : Int)) = b % (2 * (l.length : Int))) : turnL l a = turnL l b := by
  refine row_ext (by simp [turnL_length]) (fun i hi => ?_)
  rw [turnL_length] at hi
  rw [turnL_getD _ _ _ hi, turnL_getD _ _ _ hi]
  exact ext_mod (by rw [Int.sub_emod, h, ← Int.sub_emod])
theorem turn_zero (l : List Int) : turnL l 0 = l := by
  refine row_ext (by simp [turnL_length]) (fun i hi => ?_)
  rw [turnL_length] at hi
  rw [turnL_getD _ _ _ hi, Int.sub_zero, ext_low l i hi]
theorem turn_whole (l : List Int) : turnL l (2 * (l.length : Int)) = l := by
  rw [turn_same l (b := 0) (by simp), turn_zero]
theorem turn_half_getD (l : List Int) (hl : In64 l) (i : Nat) (hi : i < l.length) : (turnL l l.length).getD i 0 = wrap64 (-(l.getD i 0)) := by
  rw [turnL_getD _ _ _ hi, ext_mod (q := (i : Int) + l.length) (by
    rw [← Int.add_mul_emod_self_left ((i : Int) - l.length) (2 * (l.length : Int)) 1]; congr 1; omega), ext_half l hl, ext_low l i hi]
def addL (a b : List Int) : List Int := if a.length = b.length then List.zipWith (fun x y => wrap64 (x + y)) a b else []
def lessL (a b : List Int) : List Int := if a.length = b.length then List.zipWith (fun x y => wrap64 (x - y)) a b else []
theorem addL_length {a b : List Int} (h : a.length = b.length) : (addL a b).length = a.length := by unfold addL; rw [if_pos h, List.length_zipWith]; omega
theorem lessL_length {a b : List Int} (h : a.length = b.length) : (lessL a b).length = a.length := by unfold lessL; rw [if_pos h, List.length_zipWith]; omega
theorem zip_getD {a b : List Int} (f : Int → Int → Int) (i : Nat) (h1 : i < a.length) (h2 : i < b.length) : (List.zipWith f a b).getD i 0 = f (a.getD i 0) (b.getD i 0) := by
  simp only [List.getD_eq_getElem?_getD, List.getElem?_zipWith, List.getElem?_eq_getElem h1, List.getElem?_eq_getElem h2]; rfl
theorem addL_getD {a b : List Int} (h : a.length = b.length) (i : Nat) (hi : i < a.length) : (addL a b).getD i 0 = wrap64 (a.getD i 0 + b.getD i 0) := by
  unfold addL; rw [if_pos h, zip_getD _ i hi (by omega)]
theorem lessL_getD {a b : List Int} (h : a.length = b.length) (i : Nat) (hi : i < a.length) : (lessL a b).getD i 0 = wrap64 (a.getD i 0 - b.getD i 0) := by
  unfold lessL; rw [if_pos h, zip_getD _ i hi (by omega)]
theorem In64_of_getD {l : List Int} (h : ∀ i, i < l.length → ∃ x, l.getD i 0 = wrap64 x) : In64 l := by
  intro x hx
  obtain ⟨i, hi, rfl⟩ := List.getElem_of_mem hx
  obtain ⟨y, hy⟩ := h i hi
  rw [List.getD_eq_getElem?_getD, List.getElem?_eq_getElem hi, Option.getD_some] at hy
  rw [hy]
  exact ⟨W_lo _, W_hi _⟩
theorem addL_in (a b : List Int) : In64 (addL a b) := by
  by_cases h : a.length = b.length
  · exact In64_of_getD fun i hi => ⟨_, addL_getD h i (by rwa [addL_length h] at hi)⟩
  · unfold addL; rw [if_neg h]; intro x hx; cases hx
theorem lessL_in (a b : List Int) : In64 (lessL a b) := by
  by_cases h : a.length = b.length
  · exact In64_of_getD fun i hi => ⟨_, lessL_getD h i (by rwa [lessL_length h] at hi)⟩
  · unfold lessL; rw [if_neg h]; intro x hx; cases hx
theorem ext_add {a b : List Int} (h : a.length = b.length) (p : Int) : ext (addL a b) p = wrap64 (ext a p + ext b p) := by
  rcases Nat.eq_zero_or_pos a.length with h0 | h0
  · have e1 : a = [] := List.eq_nil_of_length_eq_zero h0
    have e2 : b = [] := List.eq_nil_of_length_eq_zero (by omega)
    subst e1; subst e2
    have e3 : addL [] [] = [] := rfl
    have e4 : lessL [] [] = [] := rfl
    simp only [e3, e4, ext_nil]
    exact (W_in (a := 0) (by decide) (by decide)).symm
  have r0 := Int.emod_nonneg p (show 2 * (a.length : Int) ≠ 0 by omega)
  have r1 := Int.emod_lt_of_pos p (show 0 < 2 * (a.length : Int) by omega)
  unfold ext
  rw [addL_length h, ← h]
  generalize p % (2 * (a.length : Int)) = r at r0 r1
  by_cases hr : r.toNat < a.length
  · rw [if_pos hr, if_pos hr, if_pos hr, addL_getD h _ hr]
  · rw [if_neg hr, if_neg hr, if_neg hr, addL_getD h _ (by omega), W_neg_W, W_W_add, W_add_W]
    congr 1; omega
theorem ext_less {a b : List Int} (h : a.length = b.length) (p : Int) : ext (lessL a b) p = wrap64 (ext a p - ext b p) := by
  rcases Nat.eq_zero_or_pos a.length with h0 | h0
  · have e1 : a = [] := List.eq_nil_of_length_eq_zero h0
    have e2 : b = [] := List.eq_nil_of_length_eq_zero (by omega)
    subst e1; subst e2
    have e3 : addL [] [] = [] := rfl
    have e4 : lessL [] [] = [] := rfl
    simp only [e3, e4, ext_nil]
    exact (W_in (a := 0) (by decide) (by decide)).symm
  have r0 := Int.emod_nonneg p (show 2 * (a.length : Int) ≠ 0 by omega)
  have r1 := Int.emod_lt_of_pos p (show 0 < 2 * (a.length : Int) by omega)
  unfold ext
  rw [lessL_length h, ← h]
  generalize p % (2 * (a.length : Int)) = r at r0 r1
  by_cases hr : r.toNat < a.length
  · rw [if_pos hr, if_pos hr, if_pos hr, lessL_getD h _ hr]
  · rw [if_neg hr, if_neg hr, if_neg hr, lessL_getD h _ (by omega), W_neg_W, W_W_sub, W_sub_W]
    congr 1; omega
theorem turn_add {a b : List Int} (h : a.length = b.length) (k : Int) : turnL (addL a b) k = addL (turnL a k) (turnL b k) := by
  refine row_ext (by rw [turnL_length, addL_length h, addL_length (by simpa [turnL_length] using h), turnL_length]) (fun i hi => ?_)
  rw [turnL_length, addL_length h] at hi
  rw [turnL_getD _ _ _ (by rw [addL_length h]; exact hi), ext_add h, addL_getD (by simpa [turnL_length] using h) _ (by rw [turnL_length]; exact hi), turnL_getD _ _ _ hi, turnL_getD _ _ _ (by omega)]
theorem turn_less {a b : List Int} (h : a.length = b.length) (k : Int) : turnL (lessL a b) k = lessL (turnL a k) (turnL b k) := by
  refine row_ext (by rw [turnL_length, lessL_length h, lessL_length (by simpa [turnL_length] using h), turnL_length]) (fun i hi => ?_)
  rw [turnL_length, lessL_length h] at hi
  rw [turnL_getD _ _ _ (by rw [lessL_length h]; exact hi), ext_less h, lessL_getD (by simpa [turnL_length] using h) _ (by rw [turnL_length]; exact hi), turnL_getD _ _ _ hi, turnL_getD _ _ _ (by omega)]
theorem addL_comm (a b : List Int) : addL a b = addL b a := by
  unfold addL
  by_cases h : a.length = b.length
  · rw [if_pos h, if_pos h.symm, List.zipWith_comm]
    congr 1; funext x y; rw [Int.add_comm]
  · rw [if_neg h, if_neg (fun e => h e.symm)]

/-! ### How spin.Turn lays a row out, place by place -/
def posOf (h b m : Nat) : Nat := if m + b ≥ 2 * h then m + b - 2 * h else if m + b ≥ h then m + b - h else m + b
def valOf (l : List Int) (b m : Nat) : Int := if m + b ≥ 2 * l.length then l.getD m 0 else if m + b ≥ l.length then wrap64 (-(l.getD m 0)) else l.getD m 0
def turnGo (l : List Int) (b : Nat) : Nat → List Int
  | 0 => List.replicate l.length 0
  | n + 1 => (turnGo l b n).set (posOf l.length b n) (valOf l b n)
theorem turnGo_length (l : List Int) (b : Nat) : ∀ n, (turnGo l b n).length = l.length
  | 0 => List.length_replicate
  | n + 1 => by rw [turnGo, List.length_set, turnGo_length l b n]
theorem posOf_lt {h b m : Nat} (hm : m < h) (hb : b < 2 * h) : posOf h b m < h := by unfold posOf; split <;> (try split) <;> omega
theorem posOf_inj {h b m n : Nat} (hm : m < h) (hn : n < h) (he : posOf h b m = posOf h b n) : m = n := by
  unfold posOf at he
  split at he <;> split at he <;> (try split at he) <;> (try split at he) <;> omega
theorem posOf_sur {h b q : Nat} (hq : q < h) (hb : b < 2 * h) : ∃ m, m < h ∧ posOf h b m = q := by
  by_cases h1 : b ≤ q
  · exact ⟨q - b, by omega, by unfold posOf; rw [if_neg (by omega), if_neg (by omega)]; omega⟩
  by_cases h2 : b ≤ q + h
  · exact ⟨q + h - b, by omega, by unfold posOf; rw [if_neg (by omega), if_pos (by omega)]; omega⟩
  · exact ⟨q + 2 * h - b, by omega, by unfold posOf; rw [if_pos (by omega)]; omega⟩
theorem turnGo_at (l : List Int) (b : Nat) (hb : b < 2 * l.length) : ∀ n, n ≤ l.length → ∀ m, m < n → (turnGo l b n).getD (posOf l.length b m) 0 = valOf l b m
  | n + 1, hn, m, hm => by
    rw [turnGo, List.getD_eq_getElem?_getD]
    by_cases e : m = n
    · subst e
      rw [List.getElem?_set_self (by rw [turnGo_length]; exact posOf_lt (by omega) hb)]; rfl
    · rw [List.getElem?_set_ne (fun h => e (posOf_inj (by omega) (by omega) h.symm)), ← List.getD_eq_getElem?_getD]
      exact turnGo_at l b hb n (by omega) m (by omega)
theorem turnGo_all (l : List Int) (k : Int) (b : Nat) (hb : (b : Int) = k % (2 * (l.length : Int))) (h0 : 0 < l.length) : turnGo l b l.length = turnL l k := by
  have hb2 : b < 2 * l.length := by have := Int.emod_lt_of_pos k (show 0 < 2 * (l.length : Int) by omega); omega
  refine row_ext (by rw [turnGo_length, turnL_length]) (fun q hq => ?_)
  rw [turnGo_length] at hq
  obtain ⟨m, hm, rfl⟩ := posOf_sur hq hb2
  rw [turnGo_at l b hb2 _ (Nat.le_refl _) m hm, turnL_getD _ _ _ hq]
  have e : ext l ((posOf l.length b m : Nat) - k) = ext l ((posOf l.length b m : Nat) - (b : Int)) := ext_mod (by rw [hb]; conv => rhs; rw [Int.sub_emod, Int.emod_emod_of_dvd _ (Int.dvd_refl _), ← Int.sub_emod])
  rw [e]
  unfold posOf valOf
  split
  · rw [← ext_low l m hm]
    refine ext_mod ?_
    rw [show (m : Int) = ((m + b - 2 * l.length : Nat) - (b : Int)) + (2 * (l.length : Int)) * 1 by omega, Int.add_mul_emod_self_left]
  split
  · unfold ext
    rw [show (((m + b - l.length : Nat) : Int) - (b : Int)) % (2 * (l.length : Int)) = (m : Int) + l.length from emod_mk (q := -1) (by omega) (by omega) (by omega)]
    rw [if_neg (by omega), show ((m : Int) + l.length).toNat - l.length = m by omega]
  · rw [show (((m + b : Nat) : Int) - (b : Int)) = (m : Int) by omega, ext_low l m hm]

theorem prt_low {x n : Int} (hn : 1 ≤ n) (hx : -9223372036854775808 ≤ x) : -9223372036854775808 ≤ x / n := by
  refine (Int.le_ediv_iff_mul_le (by omega)).2 ?_
  omega
theorem prt_high {x n : Int} (hn : 1 ≤ n) (hx : x ≤ 9223372036854775807) : x / n ≤ 9223372036854775807 := by
  refine Int.le_trans (Int.ediv_le_ediv (by omega) hx) ?_
  exact Int.ediv_le_self _ (by decide)
theorem prt_some {x n : Int} (hx : -9223372036854775808 ≤ x ∧ x ≤ 9223372036854775807) (hn : -9223372036854775808 ≤ n ∧ n ≤ 9223372036854775807) (h1 : 1 ≤ n) : round_Parts.f x n = some (x / n, x % n) := by
  have hl := prt_low h1 hx.1
  have hh := prt_high h1 hx.2
  have m0 := Int.emod_nonneg x (show n ≠ 0 by omega)
  have m1 := Int.emod_lt_of_pos x (show 0 < n by omega)
  have e1 := Int.tmod_eq_emod (a := x) (b := n)
  have e2 := Int.tdiv_eq_ediv (a := x) (b := n)
  have s1 : n.sign = 1 := Int.sign_eq_one_of_pos (by omega)
  have s2 : (n.natAbs : Int) = n := by omega
  rw [s1] at e2
  unfold round_Parts.f
  rw [if_neg (by omega), if_neg (by omega)]
  by_cases h : 0 ≤ x ∨ n ∣ x
  · rw [if_pos h] at e1 e2
    rw [if_neg (by omega), e1, e2, Int.natCast_zero]
    rw [show wrap64 (x / n + 0) = x / n by unfold wrap64; omega, Int.sub_zero]
  · rw [if_neg h] at e1 e2
    rw [s2] at e1
    have hx0 : x / n < 0 := by
      rcases Int.lt_or_le (x / n) 0 with h' | h'
      · exact h'
      · have := Int.mul_ediv_add_emod x n
        have := Int.mul_nonneg (show 0 ≤ n by omega) h'
        omega
    rw [if_pos (by omega), e1, e2]
    rw [show wrap64 (x / n + 1) = x / n + 1 by unfold wrap64; omega, show wrap64 (x / n + 1 - 1) = x / n by unfold wrap64; omega, show wrap64 (x % n - n + n) = x % n by unfold wrap64; omega]
theorem prt_none {x n : Int} (h1 : n < 1) : round_Parts.f x n = some (0, 0) := by
  unfold round_Parts.f
  rw [if_pos h1]


def spin_ok (l : List Int) (k : Int) : Bool := decide (l.length ≤ 1000000) && decide (-9223372036854775808 ≤ k) && decide (k ≤ 9223372036854775807)
def spin_Turn.f (l0 : List Int) (a1 : Int) : Option (List Int) := if spin_ok l0 a1 = true then some (turnL l0 a1) else none
set_option maxHeartbeats 8000000 in
theorem turn_put (h m b : Nat) (x : Int) (gh go g cap base : Nat) (xs : List Int) (W : World) (H1 : W.heap[gh]? = some (.cells #[.int .i64 (h : Int)] 3 (0, 0)))
    (H2 : W.heap[go]? = some (.cells #[.slice (some ⟨g, 0, none⟩) h cap] 22 (0, 0))) (HO : W.ownsRow base 3 1 (.slice (some ⟨g, 0, none⟩) h cap) h (nums .i64 xs)) (hm : m < h) (hb : b < 2 * h) (hh : h ≤ 1000000) :
    Calls Tryd.prog 33 #[.int .i64 ((m : Int) + (b : Int)), .int .i64 x, .pointer (some ⟨gh, 0, none⟩), .pointer (some ⟨go, 0, none⟩)] W
      fun e w' => e = .returned (.tuple #[]) ∧ w' = W.setCell ⟨g, posOf h b m, none⟩ (.int .i64 (if m + b ≥ 2 * h then x else if m + b ≥ h then wrap64 (-x) else x)) := by
  have hpos := posOf_lt hm hb
  obtain ⟨⟨y, hy⟩, hfr⟩ := own_free HO _ hpos
  have hc1 := cell_of_one H1
  have hc2 := cell_of_one H2
  obtain ⟨p, hp⟩ : ∃ p : Nat, p = m + b := ⟨_, rfl⟩
  have hpe : (m : Int) + (b : Int) = (p : Int) := by omega
  rw [hpe, ← hp]
  have hp3 : p < 3 * h := by omega
  have hpd : posOf h b m = if p ≥ 2 * h then p - 2 * h else if p ≥ h then p - h else p := by unfold posOf; rw [← hp]
  rw [hpd] at hy hfr hpos ⊢
  clear hpd hpe hm hb HO H1 H2
  by_cases h2 : p ≥ 2 * h
  · rw [if_pos h2] at hy hfr hpos
    rw [if_pos h2, if_pos h2]
    obtain ⟨q, hq⟩ : ∃ q : Nat, p - 2 * h = q := ⟨_, rfl⟩
    rw [hq] at hy hfr hpos ⊢
    obtain rfl : p = q + 2 * h := by omega
    clear hq hp
    go_enter Tryd.func33, Tryd.ntmps33
    go_wp2
    go_end0
    exact ⟨rfl, rfl⟩
  · by_cases h1 : p ≥ h
    · rw [if_neg h2, if_pos h1] at hy hfr hpos
      rw [if_neg h2, if_pos h1, if_neg h2, if_pos h1]
      obtain ⟨q, hq⟩ : ∃ q : Nat, p - h = q := ⟨_, rfl⟩
      rw [hq] at hy hfr hpos ⊢
      obtain rfl : p = q + h := by omega
      clear hq hp
      go_enter Tryd.func33, Tryd.ntmps33
      go_wp2
      go_end0
      exact ⟨rfl, rfl⟩
    · rw [if_neg h2, if_neg h1] at hy hfr hpos
      rw [if_neg h2, if_neg h1, if_neg h2, if_neg h1]
      clear hp
      go_enter Tryd.func33, Tryd.ntmps33
      go_wp2
      go_end0
      exact ⟨rfl, rfl⟩
def sByOf (h : Nat) (k : Int) : Nat := (k % (2 * (h : Int))).toNat
theorem sBy_eq (h : Nat) (k : Int) (h0 : 0 < h) : ((sByOf h k : Nat) : Int) = k % (2 * (h : Int)) := Int.toNat_of_nonneg (Int.emod_nonneg _ (by omega))
theorem sBy_lt (h : Nat) (k : Int) (h0 : 0 < h) : sByOf h k < 2 * h := by have := sBy_eq h k h0; have := Int.emod_lt_of_pos k (show 0 < 2 * (h : Int) by omega); omega
theorem parts_by (h : Nat) (k : Int) (h0 : 0 < h) (hh : h ≤ 1000000) (k0 : -9223372036854775808 ≤ k) (k1 : k ≤ 9223372036854775807) : ∃ q, round_Parts.f k (2 * (h : Int)) = some (q, ((sByOf h k : Nat) : Int)) := by
  rw [prt_some ⟨k0, k1⟩ (by omega) (by omega), sBy_eq h k h0]
  exact ⟨_, rfl⟩
theorem val_eq (l : List Int) (h b m : Nat) (x : Int) (hl : l.length = h) (hx : l.getD m 0 = x) : (if m + b ≥ 2 * h then x else if m + b ≥ h then wrap64 (-x) else x) = valOf l b m := by
  unfold valOf; rw [hl, hx]
set_option maxHeartbeats 8000000 in
theorem turn_go (A0 : Option Addr) (h c0 : Nat) (l0 : List Int) (a1 : Int) (w : World) (hl : l0.length = h) (hr0 : Kd.C (Kd.int .i64) w A0 h l0) (hh : h ≤ 1000000) (k0 : -9223372036854775808 ≤ a1) (k1 : a1 ≤ 9223372036854775807) :
    Calls Tryd.prog 15 #[.slice A0 h c0, .int .i64 a1] w fun e w' => ∃ v0_ : Value, e = .returned v0_ ∧ Kd.R (Kd.int .i64) 3 w' w.heap.size (fun _ => True) v0_ (turnL l0 a1) ∧ Below w.heap.size w w' := by
  have hmf : ∀ (fn : Fn) (first cap : Array Value) (w : World), (Instr.makeFunc fn first cap).run Tryd.prog w = .ok (.func fn first cap) w := fun _ _ _ _ => rfl
  have hmk := print_make 22 3 .i64 8 Tryd.underlying22 turn_info (by decide) h (by omega)
  have HL := Aside0.mk hl
  have HC := Aside0.mk hr0
  have hpar : ∃ (q : Int) (b : Nat), round_Parts.f a1 (2 * (h : Int)) = some (q, (b : Int)) ∧ (0 < h → b < 2 * h) ∧ turnGo l0 b h = turnL l0 a1 := by
    rcases Nat.eq_zero_or_pos h with h0 | h0
    · subst h0
      refine ⟨0, 0, prt_none (by omega), fun h => by omega, ?_⟩
      have : l0 = [] := List.eq_nil_of_length_eq_zero hl
      subst this
      rfl
    · obtain ⟨q, hq⟩ := parts_by h a1 h0 hh k0 k1
      refine ⟨q, _, hq, fun _ => sBy_lt h a1 h0, ?_⟩
      have hT := turnGo_all l0 a1 (sByOf h a1) (by rw [sBy_eq h a1 h0, hl]) (by omega)
      rwa [hl] at hT
  obtain ⟨q, b, hq, hb, hT⟩ := hpar
  have HP := Aside0.mk hq
  have HT := Aside0.mk hT
  have HBB := Aside0.mk hb
  clear hl hr0 k0 k1 hq hT hb
  go_enter Tryd.func15, Tryd.ntmps15
  go_wp2_with (go_at_call 32; (with_reducible refine (round_Parts.calls _ _ _ _ _ HP.out).mono ?_); rintro e w' ⟨rfl, ⟨nd, rfl⟩⟩)
  have hlt0 : w.heap.size < w.heap.size + 1 := by omega
  go_loopw [26] (fun v wr => ∃ (n : Nat) (xs : List Int), n ≤ h ∧ v = .int .i64 (n : Int) ∧ Aside0 (xs = turnGo l0 b n) ∧ Aside0 (wr.heap[w.heap.size]? = some (.cells #[.int .i64 (h : Int)] 3 (0, 0))) ∧ Aside0 (wr.heap[w.heap.size + 1 + 1]? = some (.cells #[.slice (some ⟨w.heap.size + 1, 0, none⟩) h h] 22 (0, 0))) ∧ Aside0 (wr.ownsRow w.heap.size 3 1 (.slice (some ⟨w.heap.size + 1, 0, none⟩) h h) h (nums .i64 xs)) ∧ Aside0 (Below w.heap.size w wr)) (fun v _ => h - (intOf v).toNat)
  case atStart =>
    refine ⟨0, List.replicate h 0, by omega, rfl, ⟨by rw [turnGo, HL.out]⟩, ⟨?_⟩, ⟨?_⟩, ⟨?_⟩, ⟨by repeat (first | exact Below.refl _ _ | apply below_alloc | apply pw_below_drewN)⟩⟩
    · show (((w.alloc _).alloc _).alloc _).heap[w.heap.size]? = _
      rw [Below.heap_alloc _ _ _ (by simp; omega), Below.heap_alloc _ _ _ (by simp)]
      exact heap_alloc_new w _
    · show (((w.alloc _).alloc _).alloc _).heap[w.heap.size + 1 + 1]? = _
      have := heap_alloc_new ((w.alloc (.cells #[.int .i64 (h : Int)] 3)).alloc (.cells (madeCells #[.int .i64 0] h) 3)) (.cells #[.slice (some ⟨w.heap.size + 1, 0, none⟩) h h] 22)
      simpa using this
    · have := own_made (w.alloc (.cells #[.int .i64 (h : Int)] 3)) w.heap.size 3 .i64 h (by simp) (by omega)
      have h2 := pw_own_below this (pw_below_drewN (below_alloc (Below.refl _ _) (.cells #[.slice (some ⟨w.heap.size + 1, 0, none⟩) h h] 22)) nd)
      simpa using h2
  case round =>
    obtain ⟨n, xs, hn, rfl, HX, H1, H2, HO, HB⟩ := hrel
    by_cases hlt : n < h
    · obtain ⟨ad, rfl, hcs⟩ := sp_ad HC.out (by omega)
      have hcell := sp_cell (Kd.C_below HC.out HB.out) n hlt
      obtain ⟨x, hx⟩ : ∃ x, l0.getD n 0 = x := ⟨_, rfl⟩
      rw [hx] at hcell
      have HXV := Aside0.mk hx
      have hb2 := HBB.out (by omega)
      clear hx hcs
      go_wp2_with (go_at_call 33; (with_reducible refine (turn_put h n b x _ _ _ h w.heap.size xs _ H1.out H2.out HO.out hlt hb2 hh).mono ?_); rintro e w' ⟨rfl, rfl⟩)
      go_roundw
      case rel =>
        have hst := own_store HO.out ((posOf h b n : Nat) : Int) (if n + b ≥ 2 * h then x else if n + b ≥ h then wrap64 (-x) else x)
        rw [Int.toNat_natCast] at hst
        refine ⟨n + 1, _, by omega, by go_num, ⟨?_⟩, ⟨blk_grown H1.out hst.2 (by simp)⟩, ⟨blk_grown H2.out hst.2 (by simp)⟩, ⟨hst.1⟩, ⟨Below.grown HB.out hst.2 HB.out.size (fun k hk => by injection hk with hk; omega)⟩⟩
        rw [turnGo, HX.out, HL.out, val_eq l0 h b n x HL.out HXV.out]
      case measure => simp [intOf]; omega
    · obtain rfl : h = n := by omega
      have hlast := H2.out
      have hcl := cell_of_one hlast
      clear hlast
      go_wp2
      go_ret
      refine ⟨_, rfl, ?_, HB.out⟩
      rw [← HT.out, ← HX.out]
      have hxl : xs.length = h := by rw [HX.out, turnGo_length, HL.out]
      exact Kd.R_of_own (enc := Value.int .i64) (h1 := fun _ => rfl) (ok := fun _ => True) (xs := xs) (by rw [hxl]; exact HO.out) (fun _ _ => trivial)
theorem spin_Turn.calls (A0 : Option Addr) (c0 : Nat) (l0 : List Int) (a1 : Int) (r : List Int) (w : World) (hr0 : Kd.C (Kd.int .i64) w A0 l0.length l0) (hc0 : l0.length ≤ c0) (h : spin_Turn.f l0 a1 = some r) :
    Calls Tryd.prog 15 #[.slice A0 l0.length c0, .int .i64 a1] w fun e w' => ∃ v0_ : Value, e = .returned v0_ ∧ Kd.R (Kd.int .i64) 3 w' w.heap.size (fun _ => True) v0_ r ∧ Below w.heap.size w w' := by
  unfold spin_Turn.f at h
  split at h
  case isFalse => cases h
  rename_i hz
  obtain rfl := Option.some.inj h
  simp only [spin_ok, Bool.and_eq_true, decide_eq_true_eq] at hz
  exact turn_go A0 _ c0 l0 a1 w rfl hr0 hz.1.1 hz.1.2 hz.2

-- NOT PRINTED: function 37 (spin_each_int)

-- NOT PRINTED: function 38 (spin_Add_1)

/-! ### spin_Add: function 20 -/
theorem add_one (x y : Int) (w : World) : Calls Tryd.prog 38 #[.int .i64 x, .int .i64 y] w fun e w' => e = .returned (.int .i64 (wrap64 (x + y))) ∧ w = w' := by
  go_enter Tryd.func38, Tryd.ntmps38
  go_wp2
  go_ret
  exact ⟨rfl, rfl⟩
set_option maxHeartbeats 8000000 in
theorem each_add (A0 A1 : Option Addr) (n c0 m c1 : Nat) (l0 l1 : List Int) (w : World) (hl0 : l0.length = n) (hr0 : Kd.C (Kd.int .i64) w A0 n l0) (hl1 : l1.length = m) (hr1 : Kd.C (Kd.int .i64) w A1 m l1) (hn : n ≤ 1000000) (hm : m ≤ 1000000) :
    Calls Tryd.prog 37 #[.slice A0 n c0, .slice A1 m c1, .func (.func 38) #[] #[]] w fun e w' => ∃ v0_ : Value, e = .returned v0_ ∧ Kd.R (Kd.int .i64) 3 w' w.heap.size (fun _ => True) v0_ (addL l0 l1) ∧ Below w.heap.size w w' := by
  have hmk := print_make 22 3 .i64 8 Tryd.underlying22 turn_info (by decide) n (by omega)
  have HL0 := Aside0.mk hl0
  have HL1 := Aside0.mk hl1
  have HC0 := Aside0.mk hr0
  have HC1 := Aside0.mk hr1
  by_cases hnm : n = m
  · have HU : Aside0 (∀ xs : List Int, xs.length = n → (∀ j, j < n → xs.getD j 0 = wrap64 (l0.getD j 0 + l1.getD j 0)) → xs = addL l0 l1) := ⟨fun xs hx hj => by
      have e : l0.length = l1.length := by omega
      refine row_ext (by rw [addL_length e, hx, hl0]) (fun i hi => ?_)
      rw [hj i (by omega), addL_getD e i (by omega)]⟩
    subst hnm
    clear hl0 hl1 hr0 hr1
    go_enter Tryd.func37, Tryd.ntmps37
    go_wp2
    go_loopw [20] (fun v wr => ∃ (i : Nat) (xs : List Int), i ≤ n ∧ v = .int .i64 (i : Int) ∧ Aside0 (xs.length = n) ∧ Aside0 (∀ j, j < i → xs.getD j 0 = wrap64 (l0.getD j 0 + l1.getD j 0)) ∧ Aside0 (wr.ownsRow w.heap.size 3 1 (.slice (some ⟨w.heap.size, 0, none⟩) n n) n (nums .i64 xs)) ∧ Aside0 (Below w.heap.size w wr)) (fun v _ => n - (intOf v).toNat)
    case atStart =>
      refine ⟨0, List.replicate n 0, by omega, rfl, ⟨by simp⟩, ⟨fun j hj => by omega⟩, ⟨?_⟩, ⟨by repeat (first | exact Below.refl _ _ | apply below_alloc | apply pw_below_drewN)⟩⟩
      exact own_made w w.heap.size 3 .i64 n (Nat.le_refl _) (by omega)
    case round =>
      obtain ⟨i, xs, hi, rfl, HX, HJ, HO, HB⟩ := hrel
      by_cases hlt : i < n
      · obtain ⟨ad, rfl, hcs⟩ := sp_ad HC0.out (by omega)
        obtain ⟨ad1, rfl, hcs1⟩ := sp_ad HC1.out (by omega)
        have hcell := sp_cell (Kd.C_below HC0.out HB.out) i hlt
        have hcell1 := sp_cell (Kd.C_below HC1.out HB.out) i hlt
        obtain ⟨⟨y, hy⟩, hfr⟩ := own_free HO.out i hlt
        obtain ⟨x0, hx0⟩ : ∃ x, l0.getD i 0 = x := ⟨_, rfl⟩
        obtain ⟨x1, hx1⟩ : ∃ x, l1.getD i 0 = x := ⟨_, rfl⟩
        rw [hx0] at hcell
        rw [hx1] at hcell1
        have HX0 := Aside0.mk hx0
        have HX1 := Aside0.mk hx1
        clear hcs hcs1 hx0 hx1
        go_wp2_with (go_at_call 38; (with_reducible refine (add_one x0 x1 _).mono ?_); rintro e w' ⟨rfl, rfl⟩)
        go_roundw
        case rel =>
          have hst := own_store HO.out (i : Int) (wrap64 (x0 + x1))
          rw [Int.toNat_natCast] at hst
          refine ⟨i + 1, _, by omega, by go_num, ⟨by rw [List.length_set, HX.out]⟩, ⟨?_⟩, ⟨hst.1⟩, ⟨Below.grown HB.out hst.2 HB.out.size (fun k hk => by injection hk with hk; omega)⟩⟩
          intro j hj
          by_cases e : j = i
          · subst e
            rw [List.getD_eq_getElem?_getD, List.getElem?_set_self (by rw [HX.out]; exact hlt), HX0.out, HX1.out]; rfl
          · have := HJ.out j (by omega)
            rw [List.getD_eq_getElem?_getD] at this ⊢
            rw [List.getElem?_set_ne (fun h => e h.symm)]
            exact this
        case measure => simp [intOf]; omega
      · obtain rfl : n = i := by omega
        go_wp2
        go_ret
        refine ⟨_, rfl, ?_, HB.out⟩
        rw [← HU.out xs HX.out HJ.out]
        exact Kd.R_of_own (enc := Value.int .i64) (h1 := fun _ => rfl) (ok := fun _ => True) (xs := xs) (by rw [HX.out]; exact HO.out) (fun _ _ => trivial)
  · have hd : ((n : Int) != (m : Int)) = true := by simp; omega
    have HE : Aside0 (addL l0 l1 = []) := ⟨by unfold addL; rw [if_neg (by omega)]⟩
    clear hnm hl0 hl1 hr0 hr1
    go_enter Tryd.func37, Tryd.ntmps37
    go_wp2
    go_ret
    exact ⟨_, rfl, by rw [HE.out]; exact Kd.R_nil _ _ _ _ _, by repeat (first | exact Below.refl _ _ | apply below_alloc | apply pw_below_drewN)⟩
def addGo (h : Nat) : List (List Int) → List Int → List Int
  | [], o => o
  | v :: vs, o => if (addL o v).length = h then addGo h vs (addL o v) else []
def addAll : List (List Int) → List Int
  | [] => []
  | v :: vs => addGo v.length (v :: vs) (List.replicate v.length 0)
theorem row_at {w : World} {A : Option Addr} {n e : Nat} {vs : List (List Int)} (h : (Kd.slice e (Kd.int .i64)).C w A n vs) (j : Nat) (hj : j < n) :
    ∃ ad B c, A = some ad ∧ w.cell? (ad.add j) = some (.slice B (vs.getD j []).length c) ∧ (vs.getD j []).length ≤ c ∧ (Kd.int .i64).C w B (vs.getD j []).length (vs.getD j []) := by
  obtain ⟨ad, c, ha, hs, ⟨B, cp, hc, hle, hC⟩, hcell⟩ := ReadsRow.get_ h [] (j : Int) (by omega) (by omega)
  rw [Int.toNat_natCast] at hc hle hC hcell
  refine ⟨ad, B, cp, ha, ?_, hle, hC⟩
  have := hcell 0 (.slice B (vs.getD j []).length cp) (by rw [hc]; rfl)
  rwa [show j * (Kd.slice e (Kd.int .i64)).sz + 0 = j from by show j * 1 + 0 = j; omega] at this
def add_ok (vs : List (List Int)) : Bool := decide (vs.length ≤ 1000000) && vs.all fun v => decide (v.length ≤ 1000000)
def spin_Add.f (l0 : List (List Int)) : Option (List Int) := if add_ok l0 = true then some (addAll l0) else none
set_option maxHeartbeats 8000000 in
theorem add_go (A0 : Option Addr) (m c0 : Nat) (vs : List (List Int)) (w : World) (hl : vs.length = m) (hr0 : Kd.C (Kd.slice 3 (Kd.int .i64)) w A0 m vs) (hm : m ≤ 1000000) (hv : ∀ v ∈ vs, v.length ≤ 1000000) :
    Calls Tryd.prog 20 #[.slice A0 m c0] w fun e w' => ∃ v0_ : Value, e = .returned v0_ ∧ Kd.R (Kd.int .i64) 3 w' w.heap.size (fun _ => True) v0_ (addAll vs) ∧ Below w.heap.size w w' := by
  rcases Nat.eq_zero_or_pos m with h0 | h0
  · subst h0
    have HE : Aside0 (addAll vs = []) := ⟨by rw [List.eq_nil_of_length_eq_zero hl]; rfl⟩
    clear hl hr0 hv
    go_enter Tryd.func20, Tryd.ntmps20
    go_wp2
    go_ret
    exact ⟨_, rfl, by rw [HE.out]; exact Kd.R_nil _ _ _ _ _, by repeat (first | exact Below.refl _ _ | apply below_alloc | apply pw_below_drewN)⟩
  · obtain ⟨ad, B0, b0, rfl, hc0, _, _⟩ := row_at hr0 0 h0
    obtain ⟨h, hh⟩ : ∃ h, (vs.getD 0 []).length = h := ⟨_, rfl⟩
    rw [hh] at hc0
    have hmem : ∀ j, j < m → (vs.getD j []).length ≤ 1000000 := fun j hj => by
      rw [List.getD_eq_getElem?_getD, List.getElem?_eq_getElem (by omega)]
      exact hv _ (List.getElem_mem _)
    have hh1 : h ≤ 1000000 := by rw [← hh]; exact hmem 0 h0
    have hst : addGo h vs (List.replicate h 0) = addAll vs := by
      cases vs with
      | nil => simp at hl; omega
      | cons v vs => rw [← hh]; rfl
    have hmk := print_make 22 3 .i64 8 Tryd.underlying22 turn_info (by decide) h (by omega)
    have HL := Aside0.mk hl
    have HC := Aside0.mk hr0
    have HM := Aside0.mk hmem
    have HST := Aside0.mk hst
    rw [show ad.add 0 = ad by simp [Addr.add]] at hc0
    have HC0 := Aside0.mk hc0
    have hm0 : ((m : Int) == 0) = false := by simp; omega
    clear hl hr0 hv hmem hst hh
    go_enter Tryd.func20, Tryd.ntmps20
    go_wp2
    clear hc0
    go_loopw [3, 16] (fun v3 v wr => ∃ (i : Nat) (o : List Int), i ≤ m ∧ v = .int .i64 (i : Int) ∧ Aside0 (o.length = h) ∧ Aside0 (addGo h (vs.drop i) o = addAll vs) ∧ Aside0 (Kd.R (Kd.int .i64) 3 wr w.heap.size (fun _ => True) v3 o) ∧ Aside0 (Below w.heap.size w wr)) (fun _ v _ => m - (intOf v).toNat)
    case atStart =>
      refine ⟨0, List.replicate h 0, by omega, rfl, ⟨by simp⟩, HST, ⟨?_⟩, ⟨by repeat (first | exact Below.refl _ _ | apply below_alloc | apply pw_below_drewN)⟩⟩
      have := own_made w w.heap.size 3 .i64 h (Nat.le_refl _) (by omega)
      exact Kd.R_of_own (enc := Value.int .i64) (h1 := fun _ => rfl) (ok := fun _ => True) (xs := List.replicate h 0) (by rw [List.length_replicate]; exact this) (fun _ _ => trivial)
    case round =>
      obtain ⟨i, o, hi, rfl, HO, HG, HR, HB⟩ := hrel
      by_cases hlt : i < m
      · obtain ⟨ad', B, b, he, hcell, _, hCB⟩ := row_at (Kd.C_below HC.out HB.out) i hlt
        obtain rfl := Option.some.inj he
        obtain ⟨v, hvv⟩ : ∃ v, vs.getD i [] = v := ⟨_, rfl⟩
        have hvl := HM.out i hlt
        rw [hvv] at hcell hCB hvl
        have hdrop : vs.drop i = v :: vs.drop (i + 1) := by
          rw [List.drop_eq_getElem_cons (by rw [HL.out]; exact hlt), ← hvv, List.getD_eq_getElem?_getD, List.getElem?_eq_getElem (by rw [HL.out]; exact hlt)]
          rfl
        obtain ⟨q, hq⟩ : ∃ q, v.length = q := ⟨_, rfl⟩
        rw [hq] at hcell hCB hvl
        obtain ⟨A3, c3, rfl, _, hC3⟩ := Kd.R_reads HR.out
        rw [HO.out] at hC3 ⊢
        have HC3 := Aside0.mk hC3
        have HCB := Aside0.mk hCB
        have HQ := Aside0.mk hq
        have HD := Aside0.mk hdrop
        clear hvv hdrop hq hC3 hCB he
        by_cases hz : (addL o v).length = h
        · have HZ := Aside0.mk hz
          clear hz
          go_wp2_with (go_at_call 37; (with_reducible refine (each_add A3 B h c3 q b o v _ HO.out HC3.out HQ.out HCB.out hh1 hvl).mono ?_); rintro e w2 ⟨v4, rfl, hR, hb⟩; obtain ⟨A4, c4, rfl, _, _⟩ := Kd.R_reads hR; have HR4 := Aside0.mk (Kd.R_lower hR HB.out.size); have HB4 := Aside0.mk (below_step HB.out hb); clear hR hb; have hc1 := pw_cell_below HB4.out HC0.out; rw [HZ.out] at HR4 ⊢)
          go_roundw
          case rel => exact ⟨i + 1, _, by omega, by go_num, HZ, ⟨by rw [← HG.out, HD.out, addGo, if_pos HZ.out]⟩, HR4, HB4⟩
          case measure => simp [intOf]; omega
        · obtain ⟨z, hz2⟩ : ∃ z, (addL o v).length = z := ⟨_, rfl⟩
          rw [hz2] at hz
          have HE : Aside0 (addAll vs = []) := ⟨by rw [← HG.out, HD.out, addGo, if_neg (by rw [hz2]; exact hz)]⟩
          have hd : ((z : Int) != (h : Int)) = true := by simp; omega
          have HZ := Aside0.mk hz2
          clear hz hz2
          go_wp2_with (go_at_call 37; (with_reducible refine (each_add A3 B h c3 q b o v _ HO.out HC3.out HQ.out HCB.out hh1 hvl).mono ?_); rintro e w2 ⟨v4, rfl, hR, hb⟩; obtain ⟨A4, c4, rfl, _, _⟩ := Kd.R_reads hR; have HB4 := Aside0.mk (below_step HB.out hb); clear hR hb; have hc1 := pw_cell_below HB4.out HC0.out; rw [HZ.out])
          go_ret
          exact ⟨_, rfl, by rw [HE.out]; exact Kd.R_nil _ _ _ _ _, HB4.out⟩
      · obtain rfl : m = i := by omega
        go_wp2
        go_ret
        refine ⟨_, rfl, ?_, HB.out⟩
        have hg := HG.out
        rw [← HL.out, List.drop_length, addGo] at hg
        rw [← hg]
        exact HR.out
theorem spin_Add.calls (A0 : Option Addr) (c0 : Nat) (l0 : List (List Int)) (r : List Int) (w : World) (hr0 : Kd.C (Kd.slice 3 (Kd.int .i64)) w A0 l0.length l0) (hc0 : l0.length ≤ c0) (h : spin_Add.f l0 = some r) :
    Calls Tryd.prog 20 #[.slice A0 l0.length c0] w fun e w' => ∃ v0_ : Value, e = .returned v0_ ∧ Kd.R (Kd.int .i64) 3 w' w.heap.size (fun _ => True) v0_ r ∧ Below w.heap.size w w' := by
  unfold spin_Add.f at h
  split at h
  case isFalse => cases h
  rename_i hz
  obtain rfl := Option.some.inj h
  simp only [add_ok, Bool.and_eq_true, decide_eq_true_eq, List.all_eq_true] at hz
  exact add_go A0 _ c0 l0 w rfl hr0 hz.1 hz.2

-- NOT PRINTED: function 44 (spin_Less_1)

/-! ### spin_Less: function 22 -/
theorem less_one (x y : Int) (w : World) : Calls Tryd.prog 44 #[.int .i64 x, .int .i64 y] w fun e w' => e = .returned (.int .i64 (wrap64 (x - y))) ∧ w = w' := by
  go_enter Tryd.func44, Tryd.ntmps44
  go_wp2
  go_ret
  exact ⟨rfl, rfl⟩
set_option maxHeartbeats 8000000 in
theorem each_less (A0 A1 : Option Addr) (n c0 m c1 : Nat) (l0 l1 : List Int) (w : World) (hl0 : l0.length = n) (hr0 : Kd.C (Kd.int .i64) w A0 n l0) (hl1 : l1.length = m) (hr1 : Kd.C (Kd.int .i64) w A1 m l1) (hn : n ≤ 1000000) (hm : m ≤ 1000000) :
    Calls Tryd.prog 37 #[.slice A0 n c0, .slice A1 m c1, .func (.func 44) #[] #[]] w fun e w' => ∃ v0_ : Value, e = .returned v0_ ∧ Kd.R (Kd.int .i64) 3 w' w.heap.size (fun _ => True) v0_ (lessL l0 l1) ∧ Below w.heap.size w w' := by
  have hmk := print_make 22 3 .i64 8 Tryd.underlying22 turn_info (by decide) n (by omega)
  have HL0 := Aside0.mk hl0
  have HL1 := Aside0.mk hl1
  have HC0 := Aside0.mk hr0
  have HC1 := Aside0.mk hr1
  by_cases hnm : n = m
  · have HU : Aside0 (∀ xs : List Int, xs.length = n → (∀ j, j < n → xs.getD j 0 = wrap64 (l0.getD j 0 - l1.getD j 0)) → xs = lessL l0 l1) := ⟨fun xs hx hj => by
      have e : l0.length = l1.length := by omega
      refine row_ext (by rw [lessL_length e, hx, hl0]) (fun i hi => ?_)
      rw [hj i (by omega), lessL_getD e i (by omega)]⟩
    subst hnm
    clear hl0 hl1 hr0 hr1
    go_enter Tryd.func37, Tryd.ntmps37
    go_wp2
    go_loopw [20] (fun v wr => ∃ (i : Nat) (xs : List Int), i ≤ n ∧ v = .int .i64 (i : Int) ∧ Aside0 (xs.length = n) ∧ Aside0 (∀ j, j < i → xs.getD j 0 = wrap64 (l0.getD j 0 - l1.getD j 0)) ∧ Aside0 (wr.ownsRow w.heap.size 3 1 (.slice (some ⟨w.heap.size, 0, none⟩) n n) n (nums .i64 xs)) ∧ Aside0 (Below w.heap.size w wr)) (fun v _ => n - (intOf v).toNat)
    case atStart =>
      refine ⟨0, List.replicate n 0, by omega, rfl, ⟨by simp⟩, ⟨fun j hj => by omega⟩, ⟨?_⟩, ⟨by repeat (first | exact Below.refl _ _ | apply below_alloc | apply pw_below_drewN)⟩⟩
      exact own_made w w.heap.size 3 .i64 n (Nat.le_refl _) (by omega)
    case round =>
      obtain ⟨i, xs, hi, rfl, HX, HJ, HO, HB⟩ := hrel
      by_cases hlt : i < n
      · obtain ⟨ad, rfl, hcs⟩ := sp_ad HC0.out (by omega)
        obtain ⟨ad1, rfl, hcs1⟩ := sp_ad HC1.out (by omega)
        have hcell := sp_cell (Kd.C_below HC0.out HB.out) i hlt
        have hcell1 := sp_cell (Kd.C_below HC1.out HB.out) i hlt
        obtain ⟨⟨y, hy⟩, hfr⟩ := own_free HO.out i hlt
        obtain ⟨x0, hx0⟩ : ∃ x, l0.getD i 0 = x := ⟨_, rfl⟩
        obtain ⟨x1, hx1⟩ : ∃ x, l1.getD i 0 = x := ⟨_, rfl⟩
        rw [hx0] at hcell
        rw [hx1] at hcell1
        have HX0 := Aside0.mk hx0
        have HX1 := Aside0.mk hx1
        clear hcs hcs1 hx0 hx1
        go_wp2_with (go_at_call 44; (with_reducible refine (less_one x0 x1 _).mono ?_); rintro e w' ⟨rfl, rfl⟩)
        go_roundw
        case rel =>
          have hst := own_store HO.out (i : Int) (wrap64 (x0 - x1))
          rw [Int.toNat_natCast] at hst
          refine ⟨i + 1, _, by omega, by go_num, ⟨by rw [List.length_set, HX.out]⟩, ⟨?_⟩, ⟨hst.1⟩, ⟨Below.grown HB.out hst.2 HB.out.size (fun k hk => by injection hk with hk; omega)⟩⟩
          intro j hj
          by_cases e : j = i
          · subst e
            rw [List.getD_eq_getElem?_getD, List.getElem?_set_self (by rw [HX.out]; exact hlt), HX0.out, HX1.out]; rfl
          · have := HJ.out j (by omega)
            rw [List.getD_eq_getElem?_getD] at this ⊢
            rw [List.getElem?_set_ne (fun h => e h.symm)]
            exact this
        case measure => simp [intOf]; omega
      · obtain rfl : n = i := by omega
        go_wp2
        go_ret
        refine ⟨_, rfl, ?_, HB.out⟩
        rw [← HU.out xs HX.out HJ.out]
        exact Kd.R_of_own (enc := Value.int .i64) (h1 := fun _ => rfl) (ok := fun _ => True) (xs := xs) (by rw [HX.out]; exact HO.out) (fun _ _ => trivial)
  · have hd : ((n : Int) != (m : Int)) = true := by simp; omega
    have HE : Aside0 (lessL l0 l1 = []) := ⟨by unfold lessL; rw [if_neg (by omega)]⟩
    clear hnm hl0 hl1 hr0 hr1
    go_enter Tryd.func37, Tryd.ntmps37
    go_wp2
    go_ret
    exact ⟨_, rfl, by rw [HE.out]; exact Kd.R_nil _ _ _ _ _, by repeat (first | exact Below.refl _ _ | apply below_alloc | apply pw_below_drewN)⟩
def spin_Less.f (l0 l1 : List Int) : Option (List Int) := if decide (l0.length ≤ 1000000) && decide (l1.length ≤ 1000000) then some (lessL l0 l1) else none
theorem less_go (A0 A1 : Option Addr) (n c0 m c1 : Nat) (l0 l1 : List Int) (w : World) (hl0 : l0.length = n) (hr0 : Kd.C (Kd.int .i64) w A0 n l0) (hl1 : l1.length = m) (hr1 : Kd.C (Kd.int .i64) w A1 m l1) (hn : n ≤ 1000000) (hm : m ≤ 1000000) :
    Calls Tryd.prog 22 #[.slice A0 n c0, .slice A1 m c1] w fun e w' => ∃ v0_ : Value, e = .returned v0_ ∧ Kd.R (Kd.int .i64) 3 w' w.heap.size (fun _ => True) v0_ (lessL l0 l1) ∧ Below w.heap.size w w' := by
  have HL0 := Aside0.mk hl0
  have HL1 := Aside0.mk hl1
  have HC0 := Aside0.mk hr0
  have HC1 := Aside0.mk hr1
  clear hl0 hl1 hr0 hr1
  go_enter Tryd.func22, Tryd.ntmps22
  go_wp2_with (go_at_call 37; (with_reducible refine (each_less A0 A1 n c0 m c1 l0 l1 _ HL0.out HC0.out HL1.out HC1.out hn hm).mono ?_); rintro e w2 ⟨v4, rfl, hR, hb⟩; have HR := Aside0.mk hR; have HB := Aside0.mk hb; clear hR hb)
  go_ret
  exact ⟨_, rfl, HR.out, HB.out⟩
theorem spin_Less.calls (A0 : Option Addr) (c0 : Nat) (l0 : List Int) (A1 : Option Addr) (c1 : Nat) (l1 : List Int) (r : List Int) (w : World) (hr0 : Kd.C (Kd.int .i64) w A0 l0.length l0) (hc0 : l0.length ≤ c0) (hr1 : Kd.C (Kd.int .i64) w A1 l1.length l1) (hc1 : l1.length ≤ c1) (h : spin_Less.f l0 l1 = some r) :
    Calls Tryd.prog 22 #[.slice A0 l0.length c0, .slice A1 l1.length c1] w fun e w' => ∃ v0_ : Value, e = .returned v0_ ∧ Kd.R (Kd.int .i64) 3 w' w.heap.size (fun _ => True) v0_ r ∧ Below w.heap.size w w' := by
  unfold spin_Less.f at h
  split at h
  case isFalse => cases h
  rename_i hz
  obtain rfl := Option.some.inj h
  simp only [Bool.and_eq_true, decide_eq_true_eq] at hz
  exact less_go A0 A1 _ c0 _ c1 l0 l1 w rfl hr0 rfl hr1 hz.1 hz.2

-- NOT PRINTED: function 46 (fft_Spins_1)

end Go.Proofs.YtphmfecabbellaaDoor.PFftBlock
