-- Written by a program of this work (wip/tools) for this claim; Lean checks it.
import Derived.Test.YteihjdpbahfnnaaPLogsNormx0
import Derived.Test.YteihjdpbahfnnaaPLogsNormx1
namespace Go.Proofs.Yteihjdpbahfnnaa.PLogsNorm
open Go.RowKit Go.Proofs.YteihjdpbahfnnaaW.PrintWords Go.Proofs.YteihjdpbahfnnaaW.PrintLast Go.Proofs.YteihjdpbahfnnaaW.PrintMore
attribute [local go_sem] max2_int min2_int max_two min_two max_three min_three max_four min_four   -- for this text's walks alone
set_option linter.unusedVariables false
set_option linter.unusedSimpArgs false

/-! ### earshotlaw03_LogsNorm: function 12 -/
-- PURE intro l0 _ _ h2; unfold earshotlaw03_LogsNorm.f; rw [if_pos (List.all_eq_true.2 (fun x hx => by have := wf_i64 (h2 x hx); simp only [Bool.and_eq_true, decide_eq_true_eq]; exact this))]
/-- The digits behind the point, step by step, of a mantissa in [2^31, 2^32). -/
def dD : Nat → Nat → Nat
  | 0, _ => 0
  | k + 1, m => (m * m / 2147483648 / 4294967296) * 2 ^ k + dD k (m * m / 2147483648 / 2 ^ (m * m / 2147483648 / 4294967296))
theorem sq_range {m : Nat} (h0 : 2147483648 ≤ m) (h1 : m < 4294967296) : 2147483648 ≤ m * m / 2147483648 ∧ m * m / 2147483648 < 8589934592 := by
  have a : 2147483648 * 2147483648 ≤ m * m := Nat.mul_le_mul h0 h0
  have b : m * m ≤ 4294967295 * 4294967295 := Nat.mul_le_mul (by omega) (by omega)
  omega
theorem next_range {m : Nat} (h0 : 2147483648 ≤ m) (h1 : m < 4294967296) : 2147483648 ≤ m * m / 2147483648 / 2 ^ (m * m / 2147483648 / 4294967296) ∧ m * m / 2147483648 / 2 ^ (m * m / 2147483648 / 4294967296) < 4294967296 ∧ m * m / 2147483648 / 4294967296 < 2 := by
  obtain ⟨a, b⟩ := sq_range h0 h1
  generalize m * m / 2147483648 = q at *
  have h : q / 4294967296 = 0 ∨ q / 4294967296 = 1 := by omega
  rcases h with h | h
  · rw [h]; omega
  · rw [h]; omega
theorem dD_lt : ∀ (k : Nat) {m : Nat}, 2147483648 ≤ m → m < 4294967296 → dD k m < 2 ^ k
  | 0, _, _, _ => by simp [dD]
  | k + 1, m, h0, h1 => by
    obtain ⟨a, b, c⟩ := next_range h0 h1
    have ih := dD_lt k a b
    simp only [dD]
    generalize m * m / 2147483648 / 4294967296 = d at *
    generalize dD k _ = e at *
    have hd : d = 0 ∨ d = 1 := by omega
    rw [Nat.pow_succ]
    rcases hd with rfl | rfl <;> omega
theorem dD_mono : ∀ (k : Nat) {m n : Nat}, 2147483648 ≤ m → m ≤ n → n < 4294967296 → dD k m ≤ dD k n
  | 0, _, _, _, _, _ => Nat.le_refl _
  | k + 1, m, n, h0, h, h1 => by
    obtain ⟨a, b, c⟩ := next_range h0 (by omega)
    obtain ⟨a2, b2, c2⟩ := next_range (m := n) (by omega) h1
    have hq : m * m / 2147483648 ≤ n * n / 2147483648 := Nat.div_le_div_right (Nat.mul_le_mul h h)
    have lt := dD_lt k a b
    simp only [dD]
    by_cases he : m * m / 2147483648 / 4294967296 = n * n / 2147483648 / 4294967296
    · have ih := dD_mono k a (by rw [he]; exact Nat.div_le_div_right hq) b2
      rw [he] at ih ⊢
      omega
    · have hlt : m * m / 2147483648 / 4294967296 ≤ n * n / 2147483648 / 4294967296 := Nat.div_le_div_right hq
      have e1 : m * m / 2147483648 / 4294967296 = 0 := by omega
      have e2 : n * n / 2147483648 / 4294967296 = 1 := by omega
      have l1 := lt
      rw [e1] at l1 ⊢
      rw [e2]
      omega
theorem dD_next : ∀ (k : Nat) {m : Nat}, 2147483648 ≤ m → m < 4294967296 → dD (k + 1) m = 2 * dD k m ∨ dD (k + 1) m = 2 * dD k m + 1
  | 0, m, h0, h1 => by
    obtain ⟨a, b, c⟩ := next_range h0 h1
    simp only [dD]
    omega
  | k + 1, m, h0, h1 => by
    obtain ⟨a, b, c⟩ := next_range h0 h1
    have ih := dD_next k a b
    rw [show dD (k + 1 + 1) m = (m * m / 2147483648 / 4294967296) * 2 ^ (k + 1) + dD (k + 1) (m * m / 2147483648 / 2 ^ (m * m / 2147483648 / 4294967296)) from rfl,
      show dD (k + 1) m = (m * m / 2147483648 / 4294967296) * 2 ^ k + dD k (m * m / 2147483648 / 2 ^ (m * m / 2147483648 / 4294967296)) from rfl, Nat.pow_succ]
    generalize m * m / 2147483648 / 4294967296 = d at *
    have e : d * (2 ^ k * 2) = 2 * (d * 2 ^ k) := by rw [← Nat.mul_assoc, Nat.mul_comm]
    rcases ih with ih | ih <;> rw [ih, e] <;> omega
theorem dD_one : ∀ k, dD k 2147483648 = 0
  | 0 => rfl
  | k + 1 => by
    simp only [dD]
    have e : 2147483648 * 2147483648 / 2147483648 / 4294967296 = 0 := by decide
    rw [e]
    simpa using dD_one k
/-- The mantissa of a number of b + 1 bits. -/
def mant (b x : Nat) : Nat := x * 2 ^ (63 - b) / 4294967296
theorem mant_range {b x : Nat} (hb : b ≤ 63) (h0 : 2 ^ b ≤ x) (h1 : x < 2 ^ (b + 1)) : 2147483648 ≤ mant b x ∧ mant b x < 4294967296 := by
  unfold mant
  have e : 2 ^ b * 2 ^ (63 - b) = 9223372036854775808 := by rw [← Nat.pow_add, show b + (63 - b) = 63 by omega]
  have p : 0 < 2 ^ (63 - b) := Nat.two_pow_pos _
  have a1 : 2 ^ b * 2 ^ (63 - b) ≤ x * 2 ^ (63 - b) := Nat.mul_le_mul_right _ h0
  have a2 : x * 2 ^ (63 - b) < 2 ^ (b + 1) * 2 ^ (63 - b) := Nat.mul_lt_mul_of_pos_right h1 p
  rw [Nat.pow_succ, Nat.mul_right_comm, e] at a2
  rw [e] at a1
  omega
theorem mant_mono {b x y : Nat} (h : x ≤ y) : mant b x ≤ mant b y := Nat.div_le_div_right (Nat.mul_le_mul_right _ h)
theorem mant_twice {b x : Nat} (hb : b + 1 ≤ 63) : mant (b + 1) (2 * x) = mant b x := by
  unfold mant
  rw [show 63 - b = (63 - (b + 1)) + 1 by omega, Nat.pow_succ, Nat.mul_comm 2 x, Nat.mul_assoc, Nat.mul_comm (2 ^ _) 2]
theorem mant_pow {b : Nat} (hb : b ≤ 63) : mant b (2 ^ b) = 2147483648 := by
  unfold mant
  rw [← Nat.pow_add, show b + (63 - b) = 63 by omega]
/-- Of a square: the first step of the number's own digits. -/
theorem mant_square {b y : Nat} (hb : b ≤ 31) (h0 : 2 ^ b ≤ y) (h1 : y < 2 ^ (b + 1)) :
    let q := mant b y * mant b y / 2147483648
    2 ^ (2 * b + q / 4294967296) ≤ y * y ∧ y * y < 2 ^ (2 * b + q / 4294967296 + 1) ∧ mant (2 * b + q / 4294967296) (y * y) = q / 2 ^ (q / 4294967296) ∧ q / 4294967296 < 2 := by
  intro q
  have em : mant b y = y * 2 ^ (31 - b) := by
    unfold mant
    rw [show 63 - b = (31 - b) + 32 by omega, Nat.pow_add, ← Nat.mul_assoc]
    exact Nat.mul_div_cancel _ (by decide)
  have eq1 : q = y * y * 2 ^ (63 - 2 * b) / 4294967296 := by
    show mant b y * mant b y / 2147483648 = _
    rw [em]
    have e : y * 2 ^ (31 - b) * (y * 2 ^ (31 - b)) = y * y * 2 ^ (62 - 2 * b) := by
      rw [Nat.mul_mul_mul_comm, ← Nat.pow_add, show 31 - b + (31 - b) = 62 - 2 * b by omega]
    rw [e, show 63 - 2 * b = (62 - 2 * b) + 1 by omega, Nat.pow_succ, ← Nat.mul_assoc]
    generalize y * y * 2 ^ (62 - 2 * b) = z
    omega
  obtain ⟨r0, r1⟩ := mant_range (b := b) (by omega) h0 h1
  obtain ⟨_, _, hd⟩ := next_range r0 r1
  have y0 : 2 ^ (2 * b) ≤ y * y := by
    have := Nat.mul_le_mul h0 h0
    rwa [← Nat.pow_add, ← Nat.two_mul] at this
  have y1 : y * y < 2 ^ (2 * b + 2) := by
    have := Nat.mul_lt_mul'' h1 h1
    rwa [← Nat.pow_add, show b + 1 + (b + 1) = 2 * b + 2 by omega] at this
  have hcut : q / 4294967296 = 1 ↔ 2 ^ (2 * b + 1) ≤ y * y := by
    have p : 0 < 2 ^ (63 - 2 * b) := Nat.two_pow_pos _
    have e : 2 ^ (2 * b + 1) * 2 ^ (63 - 2 * b) = 18446744073709551616 := by rw [← Nat.pow_add, show 2 * b + 1 + (63 - 2 * b) = 64 by omega]
    constructor
    · intro h
      have : 18446744073709551616 ≤ y * y * 2 ^ (63 - 2 * b) := by omega
      rw [← e] at this
      exact Nat.le_of_mul_le_mul_right this p
    · intro h
      have := Nat.mul_le_mul_right (2 ^ (63 - 2 * b)) h
      rw [e] at this
      have hd' : q / 4294967296 < 2 := hd
      omega
  have hd' : q / 4294967296 < 2 := hd
  have h01 : q / 4294967296 = 0 ∨ q / 4294967296 = 1 := by omega
  rcases h01 with h | h
  · have hn : ¬ 2 ^ (2 * b + 1) ≤ y * y := fun hh => by rw [hcut.mpr hh] at h; cases h
    rw [h]
    simp only [Nat.add_zero]
    refine ⟨y0, by omega, ?_, by omega⟩
    unfold mant
    rw [eq1]; simp
  · have hh := hcut.mp h
    rw [h]
    refine ⟨hh, y1, ?_, by omega⟩
    unfold mant
    rw [eq1, show 63 - 2 * b = (63 - (2 * b + 1)) + 1 by omega, Nat.pow_succ, ← Nat.mul_assoc]
    generalize y * y * 2 ^ (63 - (2 * b + 1)) = z
    omega
theorem rt_spec (x : Nat) : ∀ (n r : Nat), r * r ≤ x → x < (r + 2 ^ n) * (r + 2 ^ n) → rt x n r * rt x n r ≤ x ∧ x < (rt x n r + 1) * (rt x n r + 1)
  | 0, r, h0, h1 => by simpa [rt] using ⟨h0, h1⟩
  | n + 1, r, h0, h1 => by
    simp only [rt]
    split
    · rename_i h; exact rt_spec x n r h0 h
    · rename_i h
      refine rt_spec x n (r + 2 ^ n) (by omega) ?_
      rw [Nat.pow_succ] at h1
      rw [Nat.add_assoc, show 2 ^ n + 2 ^ n = 2 ^ n * 2 by omega]; exact h1
theorem root_unique {x r s : Nat} (h0 : r * r ≤ x) (h1 : x < (r + 1) * (r + 1)) (k0 : s * s ≤ x) (k1 : x < (s + 1) * (s + 1)) : r = s := by
  rcases Nat.lt_trichotomy r s with h | h | h
  · have := Nat.mul_le_mul (show r + 1 ≤ s from h) (show r + 1 ≤ s from h); omega
  · exact h
  · have := Nat.mul_le_mul (show s + 1 ≤ r from h) (show s + 1 ≤ r from h); omega

theorem bsome {α β : Type} (a : α) (f : α → Option β) : (some a).bind f = f a := by
  generalize h : some a = o
  cases o with
  | none => cases h
  | some b => cases h; rfl
theorem wf_u64 {x : Int} (h : (Lit.int .u64 x).wf = true) : 0 ≤ x ∧ x < 18446744073709551616 := by
  simp [Lit.wf, IntKind.wrap, IntKind.bits, IntKind.signed] at h
  have h1 : IntKind.u64.min = 0 := rfl
  have h2 : IntKind.u64.max = 18446744073709551615 := rfl
  rw [h1] at h
  omega
theorem bla_zero : ∀ f, Lib.bitLenAux f 0 = 0
  | 0 => rfl
  | f + 1 => by simp [Lib.bitLenAux]
theorem bla_spec : ∀ (f x : Nat), x < 2 ^ f → x < 2 ^ Lib.bitLenAux f x ∧ (x ≠ 0 → 1 ≤ Lib.bitLenAux f x ∧ 2 ^ (Lib.bitLenAux f x - 1) ≤ x) ∧ Lib.bitLenAux f x ≤ f
  | 0, x, h => by
    have : x = 0 := by simpa using h
    subst this
    simp [Lib.bitLenAux]
  | f + 1, x, h => by
    by_cases h0 : x = 0
    · subst h0; simp [bla_zero]
    · have e1 : Lib.bitLenAux (f + 1) x = 1 + Lib.bitLenAux f (x / 2) := by
        show (if x = 0 then 0 else 1 + Lib.bitLenAux f (x / 2)) = _
        rw [if_neg h0]
      rw [e1]
      rw [Nat.pow_succ] at h
      obtain ⟨i1, i2, i3⟩ := bla_spec f (x / 2) (by omega)
      have hz : x / 2 = 0 → Lib.bitLenAux f (x / 2) = 0 := fun h1 => by rw [h1]; exact bla_zero f
      generalize Lib.bitLenAux f (x / 2) = b at *
      refine ⟨?_, fun _ => ⟨by omega, ?_⟩, by omega⟩
      · rw [Nat.add_comm, Nat.pow_succ]; omega
      · rw [Nat.add_sub_cancel_left]
        by_cases h1 : x / 2 = 0
        · have : b = 0 := hz h1
          subst this
          simp; omega
        · obtain ⟨j1, j2⟩ := i2 h1
          have e : 2 ^ b = 2 ^ (b - 1) * 2 := by rw [← Nat.pow_succ]; congr 1; omega
          omega
theorem bl_spec {x : Nat} (h : x < 2 ^ 64) (h0 : x ≠ 0) : 1 ≤ Lib.bitLen x ∧ Lib.bitLen x ≤ 64 ∧ 2 ^ (Lib.bitLen x - 1) ≤ x ∧ x < 2 ^ (Lib.bitLen x - 1 + 1) := by
  obtain ⟨a, b, c⟩ := bla_spec 64 x h
  obtain ⟨d, e⟩ := b h0
  unfold Lib.bitLen
  refine ⟨d, c, e, ?_⟩
  rw [show Lib.bitLenAux 64 x - 1 + 1 = Lib.bitLenAux 64 x by omega]
  exact a
theorem bl_zero : Lib.bitLen 0 = 0 := bla_zero 64
theorem bl_unique {x b c : Nat} (h0 : 2 ^ b ≤ x) (h1 : x < 2 ^ (b + 1)) (k0 : 2 ^ c ≤ x) (k1 : x < 2 ^ (c + 1)) : b = c := by
  have a1 := (Nat.pow_lt_pow_iff_right (a := 2) (by decide)).1 (Nat.lt_of_le_of_lt h0 k1)
  have a2 := (Nat.pow_lt_pow_iff_right (a := 2) (by decide)).1 (Nat.lt_of_le_of_lt k0 h1)
  omega
theorem bits_some {x : Nat} (h : x < 2 ^ 64) : logs_Bits.f (x : Int) = some ((Lib.bitLen x : Nat) : Int) := by
  unfold logs_Bits.f bits_Len64.f
  rw [if_pos (by omega), if_pos (by omega), Int.toNat_natCast, bsome]
/-- A logarithm in 256ths. -/
def logN (x : Nat) : Nat := if x = 0 then 0 else 256 * (Lib.bitLen x - 1) + dD 8 (mant (Lib.bitLen x - 1) x)
theorem or_digit (n d : Nat) (hn : n < 2 ^ 40) (hd : d < 2) : Go.bits .or .i64 (wrap64 ((n : Int) * 2)) (wrap64 (d : Int)) = ((2 * n + d : Nat) : Int) := by
  have e1 : wrap64 ((n : Int) * 2) = ((2 * n : Nat) : Int) := by unfold wrap64; omega
  have e2 : wrap64 (d : Int) = (d : Int) := by unfold wrap64; omega
  have hj := (bits_nat .i64 62 (by decide) (by intro n h0 h1; rw [IntKind.wrap_i64]; omega) (2 * n) d (by omega) (by omega)).2
  rw [e1, e2, hj]
  congr 1
  have := Nat.two_pow_add_eq_or_of_lt (i := 1) (b := d) (by omega) n
  rw [Nat.pow_one] at this
  exact this.symm
theorem shr_digit (q d : Nat) (hd : d < 2) : shr .u64 (q : Int) (d : Int) = ((q / 2 ^ d : Nat) : Int) := by
  unfold shr
  have h : d = 0 ∨ d = 1 := by omega
  rcases h with rfl | rfl
  · simp
  · rfl
theorem l0_spec : ∀ (j k m n i : Nat), i + j = 8 → j < k → 2147483648 ≤ m → m < 4294967296 → n < 2 ^ (32 + i) → logs_Log.l0 k (m : Int) (n : Int) (i : Int) = some ((n * 2 ^ j + dD j m : Nat) : Int)
  | 0, k, m, n, i, hi, hk, _, _, _ => by
    obtain ⟨k, rfl⟩ : ∃ k', k = k' + 1 := ⟨k - 1, by omega⟩
    simp only [logs_Log.l0]
    rw [if_neg (by omega)]
    simp [dD]
  | j + 1, k, m, n, i, hi, hk, h0, h1, hn => by
    obtain ⟨k, rfl⟩ : ∃ k', k = k' + 1 := ⟨k - 1, by omega⟩
    obtain ⟨a, b, c⟩ := next_range h0 h1
    have hsq : IntKind.u64.wrap ((m : Int) * (m : Int)) = ((m * m : Nat) : Int) := by
      have := Nat.mul_le_mul (show m ≤ 4294967295 by omega) (show m ≤ 4294967295 by omega)
      rw [← Int.natCast_mul, IntKind.wrap_u64]
      omega
    have e2 : ((m * m : Nat) : Int) / 2147483648 = ((m * m / 2147483648 : Nat) : Int) := by omega
    have e3 : ((m * m / 2147483648 : Nat) : Int) / 4294967296 = ((m * m / 2147483648 / 4294967296 : Nat) : Int) := by omega
    have hi8 : i ≤ 8 := by omega
    have hn2 : ∀ d, d < 2 → 2 * n + d < 2 ^ (32 + (i + 1)) := by
      intro d hd
      rw [show 32 + (i + 1) = (32 + i) + 1 from rfl, Nat.pow_succ]
      generalize 2 ^ (32 + i) = P at hn
      omega
    have hn40 : n < 2 ^ 40 := Nat.lt_of_lt_of_le hn (Nat.pow_le_pow_right (by decide) (Nat.add_le_add_left hi8 32))
    clear hn
    have c8 : (i : Int) < 8 := by clear hn40 hn2; omega
    have cd : (0 : Int) ≤ ((m * m / 2147483648 / 4294967296 : Nat) : Int) := Int.natCast_nonneg _
    have e4 : wrap64 ((i : Int) + 1) = ((i + 1 : Nat) : Int) := by clear hn40 hn2; unfold wrap64; omega
    simp only [logs_Log.l0]
    rw [if_pos c8, hsq, e2, e3, if_pos cd, or_digit n _ hn40 c, shr_digit _ _ c, e4]
    have hij : i + 1 + j = 8 := by clear hn40 hn2; omega
    have hjk : j < k := by clear hn40 hn2; omega
    rw [l0_spec j k _ _ (i + 1) hij hjk a b (hn2 _ c)]
    congr 2
    rw [show dD (j + 1) m = (m * m / 2147483648 / 4294967296) * 2 ^ j + dD j (m * m / 2147483648 / 2 ^ (m * m / 2147483648 / 4294967296)) from rfl, Nat.pow_succ]
    generalize m * m / 2147483648 / 4294967296 = d
    generalize dD j _ = e
    rw [Nat.add_mul, ← Nat.add_assoc, Nat.mul_comm 2 n, Nat.mul_assoc, Nat.mul_comm 2 (2 ^ j)]
theorem log_some {x k : Nat} (h : x < 2 ^ 64) (hk : 9 ≤ k) : logs_Log.f k (x : Int) = some ((logN x : Nat) : Int) := by
  by_cases h0 : x = 0
  · subst h0; rfl
  · obtain ⟨a, b, c, d⟩ := bl_spec h h0
    unfold logs_Log.f
    rw [if_neg (by omega), bits_some h, bsome]
    obtain ⟨l, hl⟩ : ∃ l, Lib.bitLen x - 1 = l := ⟨_, rfl⟩
    have e1 : wrap64 (((Lib.bitLen x : Nat) : Int) - 1) = (l : Int) := by unfold wrap64; omega
    have e2 : wrap64 (63 - (l : Int)) = ((63 - l : Nat) : Int) := by unfold wrap64; omega
    have e3 : shl .u64 (x : Int) ((63 - l : Nat) : Int) = ((x * 2 ^ (63 - l) : Nat) : Int) := by
      unfold shl
      have hmin : min ((63 - l : Nat) : Int).toNat IntKind.u64.bits = 63 - l := by
        rw [Int.toNat_natCast]
        exact Nat.min_eq_left (by simp [IntKind.bits]; omega)
      have hlt : x * 2 ^ (63 - l) < 18446744073709551616 := by
        rw [hl] at d
        have := Nat.mul_lt_mul_of_pos_right d (Nat.two_pow_pos (63 - l))
        rw [← Nat.pow_add, show l + 1 + (63 - l) = 64 by omega] at this
        exact this
      rw [hmin, show (2 : Int) ^ (63 - l) = ((2 ^ (63 - l) : Nat) : Int) by simp, ← Int.natCast_mul, IntKind.wrap_u64]
      omega
    rw [e1, e2, if_pos (by omega), e3]
    have e4 : ((x * 2 ^ (63 - l) : Nat) : Int) / 4294967296 = ((mant l x : Nat) : Int) := by unfold mant; omega
    rw [e4]
    rw [hl] at c d
    obtain ⟨m0, m1⟩ := mant_range (b := l) (by omega) c d
    rw [show (0 : Int) = ((0 : Nat) : Int) from rfl, l0_spec 8 k _ _ 0 rfl (by omega) m0 m1 (by omega)]
    unfold logN
    rw [if_neg h0, hl, Nat.mul_comm]
theorem logN_mono {x y : Nat} (h : x ≤ y) (hy : y < 2 ^ 64) : logN x ≤ logN y := by
  by_cases h0 : x = 0
  · subst h0; simp [logN]
  · obtain ⟨a, b, c, d⟩ := bl_spec (x := x) (by omega) h0
    obtain ⟨a2, b2, c2, d2⟩ := bl_spec hy (by omega)
    have hp63 : Lib.bitLen x - 1 ≤ 63 := by omega
    have hq63 : Lib.bitLen y - 1 ≤ 63 := by omega
    unfold logN
    rw [if_neg h0, if_neg (by omega)]
    generalize Lib.bitLen x - 1 = p at *
    generalize Lib.bitLen y - 1 = q at *
    obtain ⟨m0, m1⟩ := mant_range (b := p) hp63 c d
    obtain ⟨n0, n1⟩ := mant_range (b := q) hq63 c2 d2
    have hpq : p < q + 1 := (Nat.pow_lt_pow_iff_right (a := 2) (by decide)).1 (Nat.lt_of_le_of_lt (Nat.le_trans c h) d2)
    have l1 := dD_lt 8 m0 m1
    by_cases e : p = q
    · subst e
      have := dD_mono 8 m0 (mant_mono (b := p) h) n1
      omega
    · omega
theorem rt_32 (x : Nat) (h : x < 2 ^ 64) : rt x 32 0 * rt x 32 0 ≤ x ∧ x < (rt x 32 0 + 1) * (rt x 32 0 + 1) := rt_spec x 32 0 (Nat.zero_le _) (by simpa using h)
theorem root_some {x : Nat} (h : x < 2 ^ 64) : logs_Root.f (x : Int) = some ((rt x 32 0 : Nat) : Int) := by
  unfold logs_Root.f
  rw [if_pos (by omega), if_pos (by omega), Int.toNat_natCast]
theorem rt_mono {x y : Nat} (h : x ≤ y) (hy : y < 2 ^ 64) : rt x 32 0 ≤ rt y 32 0 := by
  obtain ⟨a, b⟩ := rt_32 x (by omega)
  obtain ⟨c, d⟩ := rt_32 y hy
  rcases Nat.lt_or_ge (rt y 32 0) (rt x 32 0) with hl | hl
  · have := Nat.mul_le_mul (show rt y 32 0 + 1 ≤ rt x 32 0 from hl) (show rt y 32 0 + 1 ≤ rt x 32 0 from hl)
    omega
  · exact hl
theorem awake_true (k : Nat) (hk : 20 ≤ k) : earshotlaw03_awake.f k = some true := by
  have h : earshotlaw03_awake.f 20 = some true := by decide +kernel
  have hm : ∀ d, earshotlaw03_awake.f (20 + d) = some true := by
    intro d
    induction d with
    | zero => exact h
    | succ d ih => exact earshotlaw03_awake.mono (20 + d) _ ih
  have := hm (k - 20)
  rwa [show 20 + (k - 20) = k by omega] at this

theorem bl_le {x n : Nat} (hx : x < 2 ^ 64) (h : Lib.bitLen x ≤ n) : x < 2 ^ n := by
  have := (bla_spec 64 x hx).1
  exact Nat.lt_of_lt_of_le this (Nat.pow_le_pow_right (by decide) h)
theorem bl_of_lt {x n : Nat} (hx : x < 2 ^ 64) (h : x < 2 ^ n) : Lib.bitLen x ≤ n := by
  by_cases h0 : x = 0
  · subst h0; rw [bl_zero]; exact Nat.zero_le _
  · obtain ⟨a, b, c, d⟩ := bl_spec hx h0
    have := (Nat.pow_lt_pow_iff_right (a := 2) (by decide)).1 (Nat.lt_of_le_of_lt c h)
    omega
theorem bl_le_of_le {x y : Nat} (h : x ≤ y) (hy : y < 2 ^ 64) : Lib.bitLen x ≤ Lib.bitLen y :=
  bl_of_lt (by omega) (Nat.lt_of_le_of_lt h (bl_le hy (Nat.le_refl _)))
theorem bl_or {a b : Nat} (ha : a < 2 ^ 64) (hb : b < 2 ^ 64) : Lib.bitLen (a ||| b) = if Lib.bitLen b > Lib.bitLen a then Lib.bitLen b else Lib.bitLen a := by
  have hab : a ||| b < 2 ^ 64 := Nat.or_lt_two_pow ha hb
  have l1 := bl_le_of_le (show a ≤ a ||| b from Nat.left_le_or) hab
  have l2 := bl_le_of_le (show b ≤ a ||| b from Nat.right_le_or) hab
  have up : ∀ n, Lib.bitLen a ≤ n → Lib.bitLen b ≤ n → Lib.bitLen (a ||| b) ≤ n := fun n h1 h2 =>
    bl_of_lt hab (Nat.or_lt_two_pow (bl_le ha h1) (bl_le hb h2))
  split
  · have := up (Lib.bitLen b) (by omega) (Nat.le_refl _); omega
  · have := up (Lib.bitLen a) (Nat.le_refl _) (by omega); omega
theorem bl_64 {x : Nat} (h : x < 2 ^ 64) : Lib.bitLen x ≤ 64 := bl_of_lt h h

/-! ### The greatest of a row, in bits -/
def orL : List Int → Nat
  | [] => 0
  | x :: l => x.natAbs ||| orL l
def normN (l : List Int) : Nat := Lib.bitLen (orL l)
def Rng (l : List Int) : Prop := ∀ x ∈ l, -9223372036854775808 ≤ x ∧ x ≤ 9223372036854775807
theorem orL_lt : ∀ {l : List Int}, Rng l → orL l < 2 ^ 64
  | [], _ => by decide
  | x :: l, h => by
    have h0 := h x (List.mem_cons_self)
    exact Nat.or_lt_two_pow (by omega) (orL_lt (fun y hy => h y (List.mem_cons_of_mem _ hy)))
theorem orL_append : ∀ (a b : List Int), orL (a ++ b) = orL a ||| orL b
  | [], b => by simp [orL]
  | x :: a, b => by simp only [List.cons_append, orL, orL_append a b, Nat.or_assoc]
theorem orL_mem : ∀ {l : List Int} {x : Int}, x ∈ l → x.natAbs ≤ orL l
  | y :: l, x, h => by
    rcases List.mem_cons.1 h with rfl | h
    · exact Nat.left_le_or
    · exact Nat.le_trans (orL_mem h) Nat.right_le_or
theorem normN_le {l : List Int} (h : Rng l) : normN l ≤ 64 := bl_64 (orL_lt h)
theorem normN_mem {l : List Int} (h : Rng l) {x : Int} (hx : x ∈ l) : Lib.bitLen x.natAbs ≤ normN l := bl_le_of_le (orL_mem hx) (orL_lt h)
theorem normN_one (x : Int) : normN [x] = Lib.bitLen x.natAbs := by simp [normN, orL]
theorem normN_take {l : List Int} (h : Rng l) (i : Nat) : normN (l.take i) ≤ normN l := by
  refine bl_le_of_le ?_ (orL_lt h)
  conv => rhs; rw [← List.take_append_drop i l]
  rw [orL_append]
  exact Nat.left_le_or
theorem normN_met : ∀ {l : List Int}, Rng l → normN l = 0 ∨ ∃ x ∈ l, Lib.bitLen x.natAbs = normN l
  | [], _ => .inl (by simp [normN, orL, bl_zero])
  | x :: l, h => by
    have h0 := h x (List.mem_cons_self)
    have hl : Rng l := fun y hy => h y (List.mem_cons_of_mem _ hy)
    have e : normN (x :: l) = if normN l > Lib.bitLen x.natAbs then normN l else Lib.bitLen x.natAbs := bl_or (by omega) (orL_lt hl)
    rw [e]
    split
    · rename_i hc
      rcases normN_met hl with h1 | ⟨y, hy, h1⟩
      · omega
      · exact .inr ⟨y, List.mem_cons_of_mem _ hy, h1⟩
    · exact .inr ⟨x, List.mem_cons_self, rfl⟩
theorem wrap_neg_abs {x : Int} (h0 : -9223372036854775808 ≤ x) (h1 : x ≤ 9223372036854775807) : (wrap64 (-x)).natAbs = x.natAbs := by unfold wrap64; omega
theorem orL_neg : ∀ {l : List Int}, Rng l → orL (l.map fun x => wrap64 (-x)) = orL l
  | [], _ => rfl
  | x :: l, h => by
    have h0 := h x (List.mem_cons_self)
    rw [List.map_cons, orL, orL, wrap_neg_abs h0.1 h0.2, orL_neg (fun y hy => h y (List.mem_cons_of_mem _ hy))]
theorem normN_neg {l : List Int} (h : Rng l) : normN (l.map fun x => wrap64 (-x)) = normN l := by unfold normN; rw [orL_neg h]
theorem norm_go (l : List Int) (hl : l.length ≤ 1000000) (hw : Rng l) (m : Nat) : ∀ (j i acc : Nat), i + j = l.length → acc < 2 ^ 64 →
    logs_Norm.l0 (j + 1 + m) (acc : Int) l (l.length : Int) (i : Int) = some ((Lib.bitLen (acc ||| orL (l.drop i)) : Nat) : Int)
  | 0, i, acc, hi, ha => by
    rw [show 0 + 1 + m = m + 1 by omega, logs_Norm.l0, if_neg (by omega), bits_some ha, Option.bind_some, List.drop_of_length_le (by omega)]
    simp [orL]
  | j + 1, i, acc, hi, ha => by
    have hi' : i < l.length := by omega
    have hr : rd l (i : Int) = l[i] := by
      unfold rd
      rw [Int.toNat_natCast, List.getD_eq_getElem?_getD, List.getElem?_eq_getElem hi', Option.getD_some]
    obtain ⟨w0, w1⟩ := hw _ (List.getElem_mem hi')
    rw [← hr] at w0 w1
    have hx64 : (rd l (i : Int)).natAbs < 2 ^ 64 := by omega
    have e1 : wrap64 ((i : Int) + 1) = ((i + 1 : Nat) : Int) := by unfold wrap64; omega
    have ih := norm_go l hl hw m j (i + 1) (acc ||| (rd l (i : Int)).natAbs) (by omega) (Nat.or_lt_two_pow ha hx64)
    rw [List.drop_eq_getElem_cons hi', orL, ← hr, ← Nat.or_assoc, ← ih]
    rw [show j + 1 + 1 + m = (j + 1 + m) + 1 by omega, logs_Norm.l0, if_pos (by omega), if_pos (by omega), if_pos (by omega), e1, ← u64_or_nat acc _ ha hx64]
    split
    · have : IntKind.u64.wrap (wrap64 (-(rd l (i : Int)))) = (((rd l (i : Int)).natAbs : Nat) : Int) := by rw [IntKind.wrap_u64]; unfold wrap64; omega
      rw [this]
    · have : IntKind.u64.wrap (rd l (i : Int)) = (((rd l (i : Int)).natAbs : Nat) : Int) := by rw [IntKind.wrap_u64]; omega
      rw [this]
theorem norm_some {l : List Int} (hl : l.length ≤ 500) (hw : Rng l) : logs_Norm.f 501 l = some ((normN l : Nat) : Int) := by
  have h := norm_go l (by omega) hw (500 - l.length) l.length 0 0 (by omega) (by decide)
  rw [show l.length + 1 + (500 - l.length) = 501 by omega, Nat.zero_or, List.drop_zero] at h
  exact h

def earshotlaw03_LogsNorm.f (l0 : List Int) : Option (Bool) := if l0.all (fun x => decide (-9223372036854775808 ≤ x) && decide (x ≤ 9223372036854775807)) then some true else none
theorem n_awake : earshotlaw03_awake.f 100 = some true := by decide +kernel
def metOk (ys : List Int) (i : Nat) (b : Bool) : Prop := (normN ys = 0 → b = true) ∧ ∀ j, j < i → normN [ys.getD j 0] = normN ys → b = true
theorem met_end {ys : List Int} {b : Bool} (hr : Rng ys) (h : metOk ys ys.length b) : b = true := by
  rcases normN_met hr with h0 | ⟨x, hx, h1⟩
  · exact h.1 h0
  · obtain ⟨j, hj, rfl⟩ := List.getElem_of_mem hx
    refine h.2 j hj ?_
    rw [List.getD_eq_getElem?_getD, List.getElem?_eq_getElem hj, Option.getD_some, normN_one, h1]
theorem met_step {ys : List Int} {b : Bool} {i : Nat} (h : metOk ys i b) (b' : Bool) (hb : b = true → b' = true) (hi : normN [ys.getD i 0] = normN ys → b' = true) : metOk ys (i + 1) b' :=
  ⟨fun h0 => hb (h.1 h0), fun j hj he => by
    by_cases e : j = i
    · subst e; exact hi he
    · exact hb (h.2 j (by omega) he)⟩
theorem c_ad {w : World} {A : Option Addr} {n : Nat} {xs : List Int} (h : (Kd.int .i64).C w A n xs) (hn : 0 < n) : ∃ ad, A = some ad ∧ ∀ j : Nat, j < n → w.cell? (ad.add j) = some (.int .i64 (xs.getD j 0)) := by
  obtain ⟨ad, ha, _⟩ := Kd.at_int h 0 (by omega) (by omega)
  refine ⟨ad, ha, fun j hj => ?_⟩
  obtain ⟨ad2, ha2, h2⟩ := Kd.at_int h (j : Int) (by omega) (by omega)
  rw [ha] at ha2
  obtain rfl := Option.some.inj ha2
  rw [Int.toNat_natCast] at h2
  rw [h2, rd, Int.toNat_natCast]
theorem c_take {w : World} {A : Option Addr} {xs : List Int} (h : (Kd.int .i64).C w A xs.length xs) (m : Nat) (hm : m ≤ xs.length) : (Kd.int .i64).C w A m (xs.take m) := by
  have := Kd.C_take h hm
  rwa [List.length_take, Nat.min_eq_left hm] at this
theorem norm_calls (A0 : Option Addr) (n c0 : Nat) (l : List Int) (N : Nat) (w : World) (hl : l.length = n) (hr0 : Kd.C (Kd.int .i64) w A0 n l) (hc0 : n ≤ c0) (h : n ≤ 500) (hr : Rng l) (hN : normN l = N) :
    Calls Try.prog 28 #[.slice A0 n c0] w fun e w' => e = .returned (.int .i64 (N : Int)) ∧ Drawn0 w w' := by
  subst hl
  subst hN
  exact logs_Norm.calls 501 A0 c0 l _ w hr0 hc0 (norm_some h hr)
theorem bits_calls (x : Int) (N : Nat) (w : World) (h0 : 0 ≤ x) (h1 : x ≤ 9223372036854775807) (hN : normN [x] = N) :
    Calls Try.prog 22 #[.int .u64 (IntKind.u64.wrap x)] w fun e w' => e = .returned (.int .i64 (N : Int)) ∧ Drawn0 w w' := by
  rw [show IntKind.u64.wrap x = x by rw [IntKind.wrap_u64]; omega]
  obtain ⟨n, rfl⟩ := Int.eq_ofNat_of_zero_le h0
  rw [normN_one] at hN
  subst hN
  exact logs_Bits.calls _ _ w (bits_some (by omega))
theorem take_len {ys : List Int} {m i : Nat} (h : ys.length = m) (hi : i ≤ m) : (ys.take i).length = i := by rw [List.length_take]; omega
theorem c_take' {w : World} {A : Option Addr} {xs : List Int} {m : Nat} (hl : xs.length = m) (h : (Kd.int .i64).C w A m xs) (i : Nat) (hi : i ≤ m) : (Kd.int .i64).C w A i (xs.take i) := by
  subst hl
  exact c_take h i hi
theorem lit_one {e : Nat} {w : World} {base : Nat} {ok : Nat → Prop} {A : Option Addr} {n c : Nat} {x : Int} (h : (Kd.int .i64).R e w base ok (.slice A n c) [x]) : (Kd.int .i64).C w A 1 [x] ∧ 1 ≤ c := by
  obtain ⟨h1, h2, h3⟩ := Kd.R_reads' h
  exact ⟨h3, by rw [h1] at h2; exact h2⟩
theorem c_cell {w : World} {ad : Addr} {n : Nat} {xs : List Int} (h : (Kd.int .i64).C w (some ad) n xs) (j : Nat) (hj : j < n) : w.cell? (ad.add j) = some (.int .i64 (xs.getD j 0)) := by
  obtain ⟨ad2, ha, hw⟩ := c_ad h (by omega)
  obtain rfl := Option.some.inj ha
  exact hw j hj
theorem neg_step {ys : List Int} {i m : Nat} {x : Int} (hl : ys.length = m) (hi : i < m) (hx : ys.getD i 0 = x) : ((ys.take i).map fun x => wrap64 (-x)) ++ [wrap64 (-x)] = (ys.take (i + 1)).map fun x => wrap64 (-x) := by
  have : ys[i]'(by omega) = x := by rw [← hx, List.getD_eq_getElem?_getD, List.getElem?_eq_getElem (by omega)]; rfl
  rw [List.take_succ_eq_append_getElem (by omega), List.map_append, List.map_singleton, this]
theorem met_eq {ys : List Int} {i n1 N : Nat} {x : Int} (hx : ys.getD i 0 = x) (h1 : normN [x] = n1) (hN : normN ys = N) (h : normN [ys.getD i 0] = normN ys) : ((n1 : Int) == (N : Int)) = true := by
  rw [hx, h1, hN] at h
  rw [h]; simp
theorem r_form {e : Nat} {w : World} {base : Nat} {ok : Nat → Prop} {v : Value} {xs : List Int} {m : Nat} (h : (Kd.int .i64).R e w base ok v xs) (hm : xs.length = m) : ∃ A c, v = .slice A m c ∧ Aside0 ((Kd.int .i64).C w A m xs) ∧ Aside0 (m ≤ c) := by
  subst hm
  obtain ⟨A, c, rfl, h1, h2⟩ := Kd.R_reads h
  exact ⟨A, c, rfl, ⟨h2⟩, ⟨h1⟩⟩
theorem norm_min : normN [-9223372036854775808] = 64 := by decide +kernel
theorem rng_min : Rng [-9223372036854775808] := fun x hx => by rw [List.mem_singleton.1 hx]; decide
theorem rng_nil : Rng [] := fun x h => by cases h
theorem met_start {ys : List Int} {N : Nat} (h : normN ys = N) : metOk ys 0 ((N : Int) == 0) :=
  ⟨fun h0 => by rw [h] at h0; subst h0; rfl, fun j hj => by omega⟩
set_option maxHeartbeats 16000000 in
set_option maxRecDepth 100000 in
theorem norm_walk (A0 : Option Addr) (n c0 : Nat) (l0 : List Int) (w : World) (hn : l0.length = n) (hr0 : Kd.C (Kd.int .i64) w A0 n l0) (hc0 : n ≤ c0) (hrng : Rng l0) :
    Calls Try.prog 12 #[.slice A0 n c0] w fun e w' => e = .returned (.bool true) ∧ Below w.heap.size w w' := by
  have hry : Rng (l0.take 40) := fun x hx => hrng x (List.mem_of_mem_take hx)
  have HA := Aside0.mk n_awake
  by_cases h : 40 < n
  · have hd : decide (40 < n) = true := decide_eq_true h
    have hl : (l0.take 40).length = 40 := by rw [List.length_take]; omega
    have HY := Aside0.mk (c_take' hn hr0 40 (by omega))
    obtain ⟨ys, hys⟩ : ∃ ys, l0.take 40 = ys := ⟨_, rfl⟩
    rw [hys] at hl hry HY
    have HL := Aside0.mk hl
    have HRY := Aside0.mk hry
    have hc40 : 40 ≤ c0 := by omega
    have HM5 : Aside0 (40 ≤ 500) := ⟨by decide⟩
    have hN64 := normN_le hry
    obtain ⟨N, hN⟩ : ∃ N, normN ys = N := ⟨_, rfl⟩
    rw [hN] at hN64
    have HN := Aside0.mk hN
    clear hn hr0 hc0 hrng hys hry hl hN hd
    go_enter Try.func12, Try.ntmps12
    go_wp2_with (first
      | (go_at_call 21; (with_reducible refine (earshotlaw03_awake.calls 100 true _ HA.out).mono ?_); rintro e w1 ⟨rfl, hb⟩; have HB1 := Aside0.mk hb; have HY1 := Aside0.mk (Kd.C_below HY.out hb); clear hb)
      | (go_at_call 28; (with_reducible refine (norm_calls A0 40 c0 ys N _ HL.out HY1.out hc40 HM5.out HRY.out HN.out).mono ?_); rintro e w' ⟨rfl, ⟨nd, rfl⟩⟩))
    have HY2 : Aside0 ((Kd.int .i64).C (w1.drewN nd) A0 40 ys) := HY1
    have HB2 : Aside0 (Below w.heap.size w (w1.drewN nd)) := ⟨pw_below_drewN HB1.out nd⟩
    go_loopw [5, 6, 7] (fun v5 v6 v7 wr => ∃ (b : Bool) (i : Nat), v5 = .bool b ∧ v7 = .int .i64 (i : Int) ∧ i ≤ 40 ∧ Aside0 (Kd.R (Kd.int .i64) 3 wr w.heap.size (fun _ => True) v6 ((ys.take i).map fun x => wrap64 (-x))) ∧ Aside0 (metOk ys i b) ∧ Aside0 (Below w.heap.size w wr) ∧ Aside0 ((Kd.int .i64).C wr A0 40 ys)) (fun _ _ v7 _ => 40 - (intOf v7).toNat)
    case atStart => exact ⟨_, 0, rfl, rfl, by omega, ⟨Kd.R_nil _ _ _ _ _⟩, ⟨met_start HN.out⟩, HB2, HY2⟩
    case round =>
      obtain ⟨b, i, rfl, rfl, hi, HR, HMET, HB, HYR⟩ := hrel
      by_cases hlt : i < 40
      · obtain ⟨x, hx⟩ : ∃ x, ys.getD i 0 = x := ⟨_, rfl⟩
        obtain ⟨ad, rfl, hw⟩ := c_ad HYR.out (by omega)
        have hc := hw i hlt
        rw [hx] at hc
        have hmem : x ∈ ys := by rw [← hx, List.getD_eq_getElem?_getD, List.getElem?_eq_getElem (by rw [HL.out]; exact hlt)]; exact List.getElem_mem _
        have HX := Aside0.mk (HRY.out x hmem)
        have H1 : Aside0 (Rng [x]) := ⟨fun y hy => by rw [List.mem_singleton.1 hy]; exact HX.out⟩
        obtain ⟨n1, hn1⟩ : ∃ n1, normN [x] = n1 := ⟨_, rfl⟩
        obtain ⟨n2, hn2⟩ : ∃ n2, normN (ys.take i) = n2 := ⟨_, rfl⟩
        have l1 : n1 ≤ N := by rw [← hn1, ← HN.out, normN_one]; exact normN_mem HRY.out hmem
        have l2 : n2 ≤ N := by rw [← hn2, ← HN.out]; exact normN_take HRY.out i
        have HN1 := Aside0.mk hn1
        have HN2 := Aside0.mk hn2
        have HXE := Aside0.mk hx
        have HT : Aside0 (Rng (ys.take i)) := ⟨fun y hy => HRY.out y (List.mem_of_mem_take hy)⟩
        have hi500 : i ≤ 500 := by have := HM5.out; omega
        have hic : i ≤ c0 := by omega
        clear hw hx hn1 hn2 hmem
        have hpx : 0 < x ∨ x ≤ 0 := by omega
        rcases hpx with hpx | hpx
        all_goals
          rcases b with _ | _
          all_goals
            go_wp2_with (first
              | ((with_reducible refine gate_dst (N := 35) rfl ?_); refine Kd.R_lit (Kd.int .i64) _ 3 ?hg (N := 35) ?hd (xs := [x]) (inner := [.int .i64 x]) (ok := fun _ => True) (okp := fun _ => True) ?hr ?hp (fun _ hk => hk) trivial (Below.refl _ _) (Nat.le_refl _) (by simp) ?_; (case hd => rfl); (case hg => first | rfl | exact wanted_on rfl rfl rfl (by first | assumption | rfl | (simp [*]; done))); (case hr => first | (go_simp; done) | (go_simp; rfl)); (case hp => exact (Reps.one (show Kd.M (Kd.int .i64) _ _ _ x [.int .i64 x] from rfl) (Reps.none _ _))); intro v3 w3 ho hb hg_ hnew_; clear hg_ hnew_; obtain ⟨A3, c3, rfl⟩ := Kd.R_slice ho; have HO3 := Aside0.mk (lit_one ho); have HB3 := Aside0.mk (below_step HB.out hb); have HR3 := Aside0.mk (Kd.R_below HR.out hb); have HY3 := Aside0.mk (Kd.C_below HYR.out hb); have hc3 := c_cell HY3.out i hlt; rw [HXE.out] at hc3; clear ho hb)
              | (go_at_call 28; (with_reducible refine (norm_calls A3 1 c3 [x] n1 _ rfl HO3.out.1 HO3.out.2 (by decide) H1.out HN1.out).mono ?_); rintro e w' ⟨rfl, ⟨nd3, rfl⟩⟩)
              | (go_at_call 28; (try rw [← List.length_take]); (with_reducible refine (norm_calls (some ad) i c0 (ys.take i) n2 _ (take_len HL.out hi) (c_take' HL.out (Kd.C_drewN HY3.out _) i hi) hic hi500 HT.out HN2.out).mono ?_); rintro e w' ⟨rfl, ⟨nd4, rfl⟩⟩)
              | ((with_reducible refine gate_builtin (b := .append) (xs := #[.tmp 54, .tmp 60]) rfl ?_); at_builtin; refine Kd.R_append (Kd.int .i64) (w0 := w) w.heap.size rfl (.tmp 54) (.tmp 60) 38 3 (.int .i64 0) 8 rfl Try.underlying38 info3 rfl (by decide) (by omega) u6 ((ys.take i).map fun x => wrap64 (-x)) (wrap64 (-x)) [.int .i64 (wrap64 (-x))] (fun _ => True) (fun _ => False) rfl rfl ?aP (fun _ hk => hk.elim) ?aF ?aO ?aB ?aS ?aL ?_; (case aP => exact rfl); (case aB => exact pw_below_drewN HB3.out _); (case aF => exact (fun _ _ => trivial)); (case aO => exact Kd.R_drewN HR3.out _); (case aS => exact below_size (pw_below_drewN HB3.out _)); (case aL => simp only [List.length_map, List.length_take]; omega); intro v4 w4 ho hb hg hat; have hc4 := c_cell (Kd.C_below HY.out hb) i hlt; rw [HXE.out] at hc4; rw [neg_step HL.out hlt HXE.out] at ho; have HO4 := Aside0.mk ho; have HB4 := Aside0.mk hb; clear ho hb hg hat)
              | (go_at_call 22; (with_reducible refine (bits_calls x n1 _ (by omega) HX.out.2 HN1.out).mono ?_); rintro e w' ⟨rfl, ⟨nd5, rfl⟩⟩))
            go_roundw
            case rel =>
              first
                | exact ⟨_, i + 1, rfl, by go_num, by omega, by first | exact HO4 | exact ⟨Kd.R_drewN HO4.out _⟩, ⟨met_step HMET.out _ (by intro h; cases h) (met_eq HXE.out HN1.out HN.out)⟩, by first | exact HB4 | exact ⟨pw_below_drewN HB4.out _⟩, by first | exact ⟨Kd.C_below HY.out HB4.out⟩ | exact ⟨Kd.C_drewN (Kd.C_below HY.out HB4.out) _⟩⟩
                | exact ⟨_, i + 1, rfl, by go_num, by omega, by first | exact HO4 | exact ⟨Kd.R_drewN HO4.out _⟩, ⟨met_step HMET.out _ (fun _ => rfl) (fun _ => rfl)⟩, by first | exact HB4 | exact ⟨pw_below_drewN HB4.out _⟩, by first | exact ⟨Kd.C_below HY.out HB4.out⟩ | exact ⟨Kd.C_drewN (Kd.C_below HY.out HB4.out) _⟩⟩
            case measure => simp [intOf]; omega
      · obtain rfl : i = 40 := by omega
        have hbt : b = true := met_end HRY.out (by rw [HL.out]; exact HMET.out)
        subst hbt
        have hxl : ((ys.take 40).map fun x => wrap64 (-x)).length = 40 := by rw [List.length_map, List.length_take, HL.out]; omega
        obtain ⟨A6, c6, rfl, HC6, HL6⟩ := r_form HR.out hxl
        have HE : Aside0 (normN ((ys.take 40).map fun x => wrap64 (-x)) = N) := ⟨by rw [List.take_of_length_le (by rw [HL.out]; omega), normN_neg HRY.out, HN.out]⟩
        have HRE : Aside0 (Rng ((ys.take 40).map fun x => wrap64 (-x))) := ⟨fun y hy => by obtain ⟨z, _, rfl⟩ := List.mem_map.1 hy; unfold wrap64; omega⟩
        have HXL := Aside0.mk hxl
        clear hxl
        go_wp2_with (first
          | (go_at_call 28; (try rw [← List.length_take]); (with_reducible refine (norm_calls A6 40 c6 ((ys.take 40).map fun x => wrap64 (-x)) N _ HXL.out HC6.out HL6.out HM5.out HRE.out HE.out).mono ?_); rintro e w' ⟨rfl, ⟨nd6, rfl⟩⟩)
          | (go_at_call 28; (with_reducible refine (norm_calls none 0 0 [] 0 _ rfl (Kd.C_nil _ _) (Nat.le_refl _) (by decide) rng_nil (by decide)).mono ?_); rintro e w' ⟨rfl, ⟨nd7, rfl⟩⟩)
          | ((with_reducible refine gate_dst (N := 92) rfl ?_); (try (refine gate_guard (by rfl) ?_; dsimp only)); refine Kd.R_lit (Kd.int .i64) _ 3 ?hg (N := 92) ?hd (xs := [-9223372036854775808]) (inner := [.int .i64 (-9223372036854775808)]) (ok := fun _ => True) (okp := fun _ => True) ?hr ?hp (fun _ hk => hk) trivial (Below.refl _ _) (Nat.le_refl _) (by simp) ?_; (case hd => rfl); (case hg => first | rfl | exact wanted_on rfl rfl rfl (by first | assumption | rfl | (simp [*]; done))); (case hr => first | (go_simp; done) | (go_simp; rfl)); (case hp => exact (Reps.one (show Kd.M (Kd.int .i64) _ _ _ (-9223372036854775808) [.int .i64 (-9223372036854775808)] from rfl) (Reps.none _ _))); intro v8 w8 ho hb hg_ hnew_; clear hg_ hnew_; obtain ⟨A8, c8, rfl⟩ := Kd.R_slice ho; have HO8 := Aside0.mk (lit_one ho); have HB8 := Aside0.mk (below_step (by first | exact pw_below_drewN HB.out _ | exact pw_below_drewN (pw_below_drewN HB.out _) _) hb); clear ho hb)
          | (go_at_call 28; (with_reducible refine (norm_calls A8 1 c8 [-9223372036854775808] 64 _ rfl HO8.out.1 HO8.out.2 (by decide) rng_min norm_min).mono ?_); rintro e w' ⟨rfl, ⟨nd9, rfl⟩⟩))
        go_ret
        exact ⟨rfl, pw_below_drewN HB8.out _⟩
  · have hd : decide (40 < n) = false := decide_eq_false h
    have hm40 : n ≤ 40 := by omega
    have HY := Aside0.mk hr0
    have HRY := Aside0.mk hrng
    have hN64 := normN_le hrng
    have HL := Aside0.mk hn
    have hc40 : n ≤ c0 := hc0
    have HM5 : Aside0 (n ≤ 500) := ⟨by omega⟩
    obtain ⟨N, hN⟩ : ∃ N, normN l0 = N := ⟨_, rfl⟩
    rw [hN] at hN64
    have HN := Aside0.mk hN
    clear hn hr0 hc0 hrng hry h hN hd
    go_enter Try.func12, Try.ntmps12
    go_wp2_with (first
      | (go_at_call 21; (with_reducible refine (earshotlaw03_awake.calls 100 true _ HA.out).mono ?_); rintro e w1 ⟨rfl, hb⟩; have HB1 := Aside0.mk hb; have HY1 := Aside0.mk (Kd.C_below HY.out hb); clear hb)
      | (go_at_call 28; (with_reducible refine (norm_calls A0 n c0 l0 N _ HL.out HY1.out hc40 HM5.out HRY.out HN.out).mono ?_); rintro e w' ⟨rfl, ⟨nd, rfl⟩⟩))
    have HY2 : Aside0 ((Kd.int .i64).C (w1.drewN nd) A0 n l0) := HY1
    have HB2 : Aside0 (Below w.heap.size w (w1.drewN nd)) := ⟨pw_below_drewN HB1.out nd⟩
    go_loopw [5, 6, 7] (fun v5 v6 v7 wr => ∃ (b : Bool) (i : Nat), v5 = .bool b ∧ v7 = .int .i64 (i : Int) ∧ i ≤ n ∧ Aside0 (Kd.R (Kd.int .i64) 3 wr w.heap.size (fun _ => True) v6 ((l0.take i).map fun x => wrap64 (-x))) ∧ Aside0 (metOk l0 i b) ∧ Aside0 (Below w.heap.size w wr) ∧ Aside0 ((Kd.int .i64).C wr A0 n l0)) (fun _ _ v7 _ => n - (intOf v7).toNat)
    case atStart => exact ⟨_, 0, rfl, rfl, by omega, ⟨Kd.R_nil _ _ _ _ _⟩, ⟨met_start HN.out⟩, HB2, HY2⟩
    case round =>
      obtain ⟨b, i, rfl, rfl, hi, HR, HMET, HB, HYR⟩ := hrel
      by_cases hlt : i < n
      · obtain ⟨x, hx⟩ : ∃ x, l0.getD i 0 = x := ⟨_, rfl⟩
        obtain ⟨ad, rfl, hw⟩ := c_ad HYR.out (by omega)
        have hc := hw i hlt
        rw [hx] at hc
        have hmem : x ∈ l0 := by rw [← hx, List.getD_eq_getElem?_getD, List.getElem?_eq_getElem (by rw [HL.out]; exact hlt)]; exact List.getElem_mem _
        have HX := Aside0.mk (HRY.out x hmem)
        have H1 : Aside0 (Rng [x]) := ⟨fun y hy => by rw [List.mem_singleton.1 hy]; exact HX.out⟩
        obtain ⟨n1, hn1⟩ : ∃ n1, normN [x] = n1 := ⟨_, rfl⟩
        obtain ⟨n2, hn2⟩ : ∃ n2, normN (l0.take i) = n2 := ⟨_, rfl⟩
        have l1 : n1 ≤ N := by rw [← hn1, ← HN.out, normN_one]; exact normN_mem HRY.out hmem
        have l2 : n2 ≤ N := by rw [← hn2, ← HN.out]; exact normN_take HRY.out i
        have HN1 := Aside0.mk hn1
        have HN2 := Aside0.mk hn2
        have HXE := Aside0.mk hx
        have HT : Aside0 (Rng (l0.take i)) := ⟨fun y hy => HRY.out y (List.mem_of_mem_take hy)⟩
        have hi500 : i ≤ 500 := by have := HM5.out; omega
        have hic : i ≤ c0 := by omega
        clear hw hx hn1 hn2 hmem
        have hpx : 0 < x ∨ x ≤ 0 := by omega
        rcases hpx with hpx | hpx
        all_goals
          rcases b with _ | _
          all_goals
            go_wp2_with (first
              | ((with_reducible refine gate_dst (N := 35) rfl ?_); refine Kd.R_lit (Kd.int .i64) _ 3 ?hg (N := 35) ?hd (xs := [x]) (inner := [.int .i64 x]) (ok := fun _ => True) (okp := fun _ => True) ?hr ?hp (fun _ hk => hk) trivial (Below.refl _ _) (Nat.le_refl _) (by simp) ?_; (case hd => rfl); (case hg => first | rfl | exact wanted_on rfl rfl rfl (by first | assumption | rfl | (simp [*]; done))); (case hr => first | (go_simp; done) | (go_simp; rfl)); (case hp => exact (Reps.one (show Kd.M (Kd.int .i64) _ _ _ x [.int .i64 x] from rfl) (Reps.none _ _))); intro v3 w3 ho hb hg_ hnew_; clear hg_ hnew_; obtain ⟨A3, c3, rfl⟩ := Kd.R_slice ho; have HO3 := Aside0.mk (lit_one ho); have HB3 := Aside0.mk (below_step HB.out hb); have HR3 := Aside0.mk (Kd.R_below HR.out hb); have HY3 := Aside0.mk (Kd.C_below HYR.out hb); have hc3 := c_cell HY3.out i hlt; rw [HXE.out] at hc3; clear ho hb)
              | (go_at_call 28; (with_reducible refine (norm_calls A3 1 c3 [x] n1 _ rfl HO3.out.1 HO3.out.2 (by decide) H1.out HN1.out).mono ?_); rintro e w' ⟨rfl, ⟨nd3, rfl⟩⟩)
              | (go_at_call 28; (try rw [← List.length_take]); (with_reducible refine (norm_calls (some ad) i c0 (l0.take i) n2 _ (take_len HL.out hi) (c_take' HL.out (Kd.C_drewN HY3.out _) i hi) hic hi500 HT.out HN2.out).mono ?_); rintro e w' ⟨rfl, ⟨nd4, rfl⟩⟩)
              | ((with_reducible refine gate_builtin (b := .append) (xs := #[.tmp 54, .tmp 60]) rfl ?_); at_builtin; refine Kd.R_append (Kd.int .i64) (w0 := w) w.heap.size rfl (.tmp 54) (.tmp 60) 38 3 (.int .i64 0) 8 rfl Try.underlying38 info3 rfl (by decide) (by omega) u6 ((l0.take i).map fun x => wrap64 (-x)) (wrap64 (-x)) [.int .i64 (wrap64 (-x))] (fun _ => True) (fun _ => False) rfl rfl ?aP (fun _ hk => hk.elim) ?aF ?aO ?aB ?aS ?aL ?_; (case aP => exact rfl); (case aB => exact pw_below_drewN HB3.out _); (case aF => exact (fun _ _ => trivial)); (case aO => exact Kd.R_drewN HR3.out _); (case aS => exact below_size (pw_below_drewN HB3.out _)); (case aL => simp only [List.length_map, List.length_take]; omega); intro v4 w4 ho hb hg hat; have hc4 := c_cell (Kd.C_below HY.out hb) i hlt; rw [HXE.out] at hc4; rw [neg_step HL.out hlt HXE.out] at ho; have HO4 := Aside0.mk ho; have HB4 := Aside0.mk hb; clear ho hb hg hat)
              | (go_at_call 22; (with_reducible refine (bits_calls x n1 _ (by omega) HX.out.2 HN1.out).mono ?_); rintro e w' ⟨rfl, ⟨nd5, rfl⟩⟩))
            go_roundw
            case rel =>
              first
                | exact ⟨_, i + 1, rfl, by go_num, by omega, by first | exact HO4 | exact ⟨Kd.R_drewN HO4.out _⟩, ⟨met_step HMET.out _ (by intro h; cases h) (met_eq HXE.out HN1.out HN.out)⟩, by first | exact HB4 | exact ⟨pw_below_drewN HB4.out _⟩, by first | exact ⟨Kd.C_below HY.out HB4.out⟩ | exact ⟨Kd.C_drewN (Kd.C_below HY.out HB4.out) _⟩⟩
                | exact ⟨_, i + 1, rfl, by go_num, by omega, by first | exact HO4 | exact ⟨Kd.R_drewN HO4.out _⟩, ⟨met_step HMET.out _ (fun _ => rfl) (fun _ => rfl)⟩, by first | exact HB4 | exact ⟨pw_below_drewN HB4.out _⟩, by first | exact ⟨Kd.C_below HY.out HB4.out⟩ | exact ⟨Kd.C_drewN (Kd.C_below HY.out HB4.out) _⟩⟩
            case measure => simp [intOf]; omega
      · obtain rfl : n = i := by omega
        have hbt : b = true := met_end HRY.out (by rw [HL.out]; exact HMET.out)
        subst hbt
        have hxl : ((l0.take n).map fun x => wrap64 (-x)).length = n := by rw [List.length_map, List.length_take, HL.out]; omega
        obtain ⟨A6, c6, rfl, HC6, HL6⟩ := r_form HR.out hxl
        have HE : Aside0 (normN ((l0.take n).map fun x => wrap64 (-x)) = N) := ⟨by rw [List.take_of_length_le (by rw [HL.out]; omega), normN_neg HRY.out, HN.out]⟩
        have HRE : Aside0 (Rng ((l0.take n).map fun x => wrap64 (-x))) := ⟨fun y hy => by obtain ⟨z, _, rfl⟩ := List.mem_map.1 hy; unfold wrap64; omega⟩
        have HXL := Aside0.mk hxl
        clear hxl
        go_wp2_with (first
          | (go_at_call 28; (try rw [← List.length_take]); (with_reducible refine (norm_calls A6 n c6 ((l0.take n).map fun x => wrap64 (-x)) N _ HXL.out HC6.out HL6.out HM5.out HRE.out HE.out).mono ?_); rintro e w' ⟨rfl, ⟨nd6, rfl⟩⟩)
          | (go_at_call 28; (with_reducible refine (norm_calls none 0 0 [] 0 _ rfl (Kd.C_nil _ _) (Nat.le_refl _) (by decide) rng_nil (by decide)).mono ?_); rintro e w' ⟨rfl, ⟨nd7, rfl⟩⟩)
          | ((with_reducible refine gate_dst (N := 92) rfl ?_); (try (refine gate_guard (by rfl) ?_; dsimp only)); refine Kd.R_lit (Kd.int .i64) _ 3 ?hg (N := 92) ?hd (xs := [-9223372036854775808]) (inner := [.int .i64 (-9223372036854775808)]) (ok := fun _ => True) (okp := fun _ => True) ?hr ?hp (fun _ hk => hk) trivial (Below.refl _ _) (Nat.le_refl _) (by simp) ?_; (case hd => rfl); (case hg => first | rfl | exact wanted_on rfl rfl rfl (by first | assumption | rfl | (simp [*]; done))); (case hr => first | (go_simp; done) | (go_simp; rfl)); (case hp => exact (Reps.one (show Kd.M (Kd.int .i64) _ _ _ (-9223372036854775808) [.int .i64 (-9223372036854775808)] from rfl) (Reps.none _ _))); intro v8 w8 ho hb hg_ hnew_; clear hg_ hnew_; obtain ⟨A8, c8, rfl⟩ := Kd.R_slice ho; have HO8 := Aside0.mk (lit_one ho); have HB8 := Aside0.mk (below_step (by first | exact pw_below_drewN HB.out _ | exact pw_below_drewN (pw_below_drewN HB.out _) _) hb); clear ho hb)
          | (go_at_call 28; (with_reducible refine (norm_calls A8 1 c8 [-9223372036854775808] 64 _ rfl HO8.out.1 HO8.out.2 (by decide) rng_min norm_min).mono ?_); rintro e w' ⟨rfl, ⟨nd9, rfl⟩⟩))
        go_ret
        exact ⟨rfl, pw_below_drewN HB8.out _⟩
theorem earshotlaw03_LogsNorm.calls (A0 : Option Addr) (c0 : Nat) (l0 : List Int) (r : Bool) (w : World) (hr0 : Kd.C (Kd.int .i64) w A0 l0.length l0) (hc0 : l0.length ≤ c0) (h : earshotlaw03_LogsNorm.f l0 = some r) :
    Calls Try.prog 12 #[.slice A0 l0.length c0] w fun e w' => e = .returned (.bool r) ∧ Below w.heap.size w w' := by
  unfold earshotlaw03_LogsNorm.f at h
  split at h
  case isFalse => cases h
  rename_i hz
  obtain rfl := Option.some.inj h
  refine norm_walk A0 _ c0 l0 w rfl hr0 hc0 (fun x hx => ?_)
  have := List.all_eq_true.1 hz x hx
  simpa using this

/-- THE ONE PURE STATEMENT of earshotlaw03_LogsNorm: yours. -/
def earshotlaw03_LogsNorm.Pure : Prop := ∀ (l0 : List Int), l0.length ≤ maxLen → l0.length * 8 ≤ 140737488351232 → (∀ x ∈ l0, (Lit.int .i64 x).wf = true) → earshotlaw03_LogsNorm.f l0 = some true
theorem earshotlaw03_LogsNorm.walk (P : earshotlaw03_LogsNorm.Pure) (a0 : Option Addr) (len0 cap0 : Nat) (z0 : List Int) (w : World) (w0 : (a0 = none ∧ len0 = 0 ∧ cap0 = 0 ∧ z0 = []) ∨ ∃ x, a0 = some x ∧ len0 ≤ cap0 ∧ cap0 ≤ maxLen ∧ z0.length = cap0 ∧ (∀ i, i < z0.length → w.cell? (x.add i) = some (.int .i64 (z0.getD i 0))) ∧ ∀ n ∈ z0, (Lit.int .i64 n).wf = true) (y0 : len0 * 8 ≤ 140737488351232) :
    Calls Try.prog 12 #[.slice a0 len0 cap0] w fun e w' => e = .returned (.bool true) ∧ Below w.heap.size w w' := by
  obtain ⟨l0, rfl, hr0, hm0, hw0, hc0⟩ := ReadsInt.ofRowC w0
  have h := P l0 hm0 y0 hw0
  refine (earshotlaw03_LogsNorm.calls _ _ l0 true w (Kd.C_of_reads (d := (0 : Int)) (h1 := fun _ => rfl) hr0) hc0 h).mono ?_
  rintro e w' ⟨rfl, hd⟩
  exact ⟨rfl, hd⟩

end Go.Proofs.Yteihjdpbahfnnaa.PLogsNorm
