/- The plain law of LogsTwice: what the printed functions compute answers as the statement says. No conditions beside the statement's own. -/
import Derived.Test.YteihjdpbahfnnaaPLogsTwicex1
namespace Go.Proofs.Yteihjdpbahfnnaa.Pure
open Go.RowKit Go.Proofs.Yteihjdpbahfnnaa.PLogsTwice Go.Proofs.YteihjdpbahfnnaaW.PrintWords Go.Proofs.YteihjdpbahfnnaaW.PrintLast Go.Proofs.YteihjdpbahfnnaaW.PrintMore
set_option linter.unusedVariables false
set_option linter.unusedSimpArgs false
/-- The digits behind the point, step by step, of a mantissa in [2^31, 2^32). -/
def dD : Nat → Nat → Nat
  | 0, _ => 0
  | k + 1, m => (m * m / 2147483648 / 4294967296) * 2 ^ k + dD k (m * m / 2147483648 / 2 ^ (m * m / 2147483648 / 4294967296))
theorem sq_range {m : Nat} (h0 : 2147483648 ≤ m) (h1 : m < 4294967296) : 2147483648 ≤ m * m / 2147483648 ∧ m * m / 2147483648 < 8589934592 := by
  have a : 2147483648 * 2147483648 ≤ m * m := Nat.mul_le_mul h0 h0
  have b : m * m ≤ 4294967295 * 4294967295 := Nat.mul_le_mul (by omega) (by omega)
  omega
theorem next_range {m : Nat} (h0 : 2147483648 ≤ m) (h1 : m < 4294967296) : 2147483648 ≤ m * m / 2147483648 / 2 ^ (m * m / 2147483648 / 4294967296) ∧ m * m / 2147483648 / 2 ^ (m * m / 2147483648 / 4294967296) < 4294967296 ∧ m * m / 2147483648 / 4294967296 < 2 := by
  obtain ⟨a, b⟩ := sq_range h0 h1
  generalize m * m / 2147483648 = q at *
  have h : q / 4294967296 = 0 ∨ q / 4294967296 = 1 := by omega
  rcases h with h | h
  · rw [h]; omega
  · rw [h]; omega
theorem dD_lt : ∀ (k : Nat) {m : Nat}, 2147483648 ≤ m → m < 4294967296 → dD k m < 2 ^ k
  | 0, _, _, _ => by simp [dD]
  | k + 1, m, h0, h1 => by
    obtain ⟨a, b, c⟩ := next_range h0 h1
    have ih := dD_lt k a b
    simp only [dD]
    generalize m * m / 2147483648 / 4294967296 = d at *
    generalize dD k _ = e at *
    have hd : d = 0 ∨ d = 1 := by omega
    rw [Nat.pow_succ]
    rcases hd with rfl | rfl <;> omega
theorem dD_mono : ∀ (k : Nat) {m n : Nat}, 2147483648 ≤ m → m ≤ n → n < 4294967296 → dD k m ≤ dD k n
  | 0, _, _, _, _, _ => Nat.le_refl _
  | k + 1, m, n, h0, h, h1 => by
    obtain ⟨a, b, c⟩ := next_range h0 (by omega)
    obtain ⟨a2, b2, c2⟩ := next_range (m := n) (by omega) h1
    have hq : m * m / 2147483648 ≤ n * n / 2147483648 := Nat.div_le_div_right (Nat.mul_le_mul h h)
    have lt := dD_lt k a b
    simp only [dD]
    by_cases he : m * m / 2147483648 / 4294967296 = n * n / 2147483648 / 4294967296
    · have ih := dD_mono k a (by rw [he]; exact Nat.div_le_div_right hq) b2
      rw [he] at ih ⊢
      omega
    · have hlt : m * m / 2147483648 / 4294967296 ≤ n * n / 2147483648 / 4294967296 := Nat.div_le_div_right hq
      have e1 : m * m / 2147483648 / 4294967296 = 0 := by omega
      have e2 : n * n / 2147483648 / 4294967296 = 1 := by omega
      have l1 := lt
      rw [e1] at l1 ⊢
      rw [e2]
      omega
theorem dD_next : ∀ (k : Nat) {m : Nat}, 2147483648 ≤ m → m < 4294967296 → dD (k + 1) m = 2 * dD k m ∨ dD (k + 1) m = 2 * dD k m + 1
  | 0, m, h0, h1 => by
    obtain ⟨a, b, c⟩ := next_range h0 h1
    simp only [dD]
    omega
  | k + 1, m, h0, h1 => by
    obtain ⟨a, b, c⟩ := next_range h0 h1
    have ih := dD_next k a b
    rw [show dD (k + 1 + 1) m = (m * m / 2147483648 / 4294967296) * 2 ^ (k + 1) + dD (k + 1) (m * m / 2147483648 / 2 ^ (m * m / 2147483648 / 4294967296)) from rfl,
      show dD (k + 1) m = (m * m / 2147483648 / 4294967296) * 2 ^ k + dD k (m * m / 2147483648 / 2 ^ (m * m / 2147483648 / 4294967296)) from rfl, Nat.pow_succ]
    generalize m * m / 2147483648 / 4294967296 = d at *
    have e : d * (2 ^ k * 2) = 2 * (d * 2 ^ k) := by rw [← Nat.mul_assoc, Nat.mul_comm]
    rcases ih with ih | ih <;> rw [ih, e] <;> omega
theorem dD_one : ∀ k, dD k 2147483648 = 0
  | 0 => rfl
  | k + 1 => by
    simp only [dD]
    have e : 2147483648 * 2147483648 / 2147483648 / 4294967296 = 0 := by decide
    rw [e]
    simpa using dD_one k
/-- The mantissa of a number of b + 1 bits. -/
def mant (b x : Nat) : Nat := x * 2 ^ (63 - b) / 4294967296
theorem mant_range {b x : Nat} (hb : b ≤ 63) (h0 : 2 ^ b ≤ x) (h1 : x < 2 ^ (b + 1)) : 2147483648 ≤ mant b x ∧ mant b x < 4294967296 := by
  unfold mant
  have e : 2 ^ b * 2 ^ (63 - b) = 9223372036854775808 := by rw [← Nat.pow_add, show b + (63 - b) = 63 by omega]
  have p : 0 < 2 ^ (63 - b) := Nat.two_pow_pos _
  have a1 : 2 ^ b * 2 ^ (63 - b) ≤ x * 2 ^ (63 - b) := Nat.mul_le_mul_right _ h0
  have a2 : x * 2 ^ (63 - b) < 2 ^ (b + 1) * 2 ^ (63 - b) := Nat.mul_lt_mul_of_pos_right h1 p
  rw [Nat.pow_succ, Nat.mul_right_comm, e] at a2
  rw [e] at a1
  omega
theorem mant_mono {b x y : Nat} (h : x ≤ y) : mant b x ≤ mant b y := Nat.div_le_div_right (Nat.mul_le_mul_right _ h)
theorem mant_twice {b x : Nat} (hb : b + 1 ≤ 63) : mant (b + 1) (2 * x) = mant b x := by
  unfold mant
  rw [show 63 - b = (63 - (b + 1)) + 1 by omega, Nat.pow_succ, Nat.mul_comm 2 x, Nat.mul_assoc, Nat.mul_comm (2 ^ _) 2]
theorem mant_pow {b : Nat} (hb : b ≤ 63) : mant b (2 ^ b) = 2147483648 := by
  unfold mant
  rw [← Nat.pow_add, show b + (63 - b) = 63 by omega]
/-- Of a square: the first step of the number's own digits. -/
theorem mant_square {b y : Nat} (hb : b ≤ 31) (h0 : 2 ^ b ≤ y) (h1 : y < 2 ^ (b + 1)) :
    let q := mant b y * mant b y / 2147483648
    2 ^ (2 * b + q / 4294967296) ≤ y * y ∧ y * y < 2 ^ (2 * b + q / 4294967296 + 1) ∧ mant (2 * b + q / 4294967296) (y * y) = q / 2 ^ (q / 4294967296) ∧ q / 4294967296 < 2 := by
  intro q
  have em : mant b y = y * 2 ^ (31 - b) := by
    unfold mant
    rw [show 63 - b = (31 - b) + 32 by omega, Nat.pow_add, ← Nat.mul_assoc]
    exact Nat.mul_div_cancel _ (by decide)
  have eq1 : q = y * y * 2 ^ (63 - 2 * b) / 4294967296 := by
    show mant b y * mant b y / 2147483648 = _
    rw [em]
    have e : y * 2 ^ (31 - b) * (y * 2 ^ (31 - b)) = y * y * 2 ^ (62 - 2 * b) := by
      rw [Nat.mul_mul_mul_comm, ← Nat.pow_add, show 31 - b + (31 - b) = 62 - 2 * b by omega]
    rw [e, show 63 - 2 * b = (62 - 2 * b) + 1 by omega, Nat.pow_succ, ← Nat.mul_assoc]
    generalize y * y * 2 ^ (62 - 2 * b) = z
    omega
  obtain ⟨r0, r1⟩ := mant_range (b := b) (by omega) h0 h1
  obtain ⟨_, _, hd⟩ := next_range r0 r1
  have y0 : 2 ^ (2 * b) ≤ y * y := by
    have := Nat.mul_le_mul h0 h0
    rwa [← Nat.pow_add, ← Nat.two_mul] at this
  have y1 : y * y < 2 ^ (2 * b + 2) := by
    have := Nat.mul_lt_mul'' h1 h1
    rwa [← Nat.pow_add, show b + 1 + (b + 1) = 2 * b + 2 by omega] at this
  have hcut : q / 4294967296 = 1 ↔ 2 ^ (2 * b + 1) ≤ y * y := by
    have p : 0 < 2 ^ (63 - 2 * b) := Nat.two_pow_pos _
    have e : 2 ^ (2 * b + 1) * 2 ^ (63 - 2 * b) = 18446744073709551616 := by rw [← Nat.pow_add, show 2 * b + 1 + (63 - 2 * b) = 64 by omega]
    constructor
    · intro h
      have : 18446744073709551616 ≤ y * y * 2 ^ (63 - 2 * b) := by omega
      rw [← e] at this
      exact Nat.le_of_mul_le_mul_right this p
    · intro h
      have := Nat.mul_le_mul_right (2 ^ (63 - 2 * b)) h
      rw [e] at this
      have hd' : q / 4294967296 < 2 := hd
      omega
  have hd' : q / 4294967296 < 2 := hd
  have h01 : q / 4294967296 = 0 ∨ q / 4294967296 = 1 := by omega
  rcases h01 with h | h
  · have hn : ¬ 2 ^ (2 * b + 1) ≤ y * y := fun hh => by rw [hcut.mpr hh] at h; cases h
    rw [h]
    simp only [Nat.add_zero]
    refine ⟨y0, by omega, ?_, by omega⟩
    unfold mant
    rw [eq1]; simp
  · have hh := hcut.mp h
    rw [h]
    refine ⟨hh, y1, ?_, by omega⟩
    unfold mant
    rw [eq1, show 63 - 2 * b = (63 - (2 * b + 1)) + 1 by omega, Nat.pow_succ, ← Nat.mul_assoc]
    generalize y * y * 2 ^ (63 - (2 * b + 1)) = z
    omega
theorem rt_spec (x : Nat) : ∀ (n r : Nat), r * r ≤ x → x < (r + 2 ^ n) * (r + 2 ^ n) → rt x n r * rt x n r ≤ x ∧ x < (rt x n r + 1) * (rt x n r + 1)
  | 0, r, h0, h1 => by simpa [rt] using ⟨h0, h1⟩
  | n + 1, r, h0, h1 => by
    simp only [rt]
    split
    · rename_i h; exact rt_spec x n r h0 h
    · rename_i h
      refine rt_spec x n (r + 2 ^ n) (by omega) ?_
      rw [Nat.pow_succ] at h1
      rw [Nat.add_assoc, show 2 ^ n + 2 ^ n = 2 ^ n * 2 by omega]; exact h1
theorem root_unique {x r s : Nat} (h0 : r * r ≤ x) (h1 : x < (r + 1) * (r + 1)) (k0 : s * s ≤ x) (k1 : x < (s + 1) * (s + 1)) : r = s := by
  rcases Nat.lt_trichotomy r s with h | h | h
  · have := Nat.mul_le_mul (show r + 1 ≤ s from h) (show r + 1 ≤ s from h); omega
  · exact h
  · have := Nat.mul_le_mul (show s + 1 ≤ r from h) (show s + 1 ≤ r from h); omega
theorem bsome {α β : Type} (a : α) (f : α → Option β) : (some a).bind f = f a := by
  generalize h : some a = o
  cases o with
  | none => cases h
  | some b => cases h; rfl
theorem wf_u64 {x : Int} (h : (Lit.int .u64 x).wf = true) : 0 ≤ x ∧ x < 18446744073709551616 := by
  simp [Lit.wf, IntKind.wrap, IntKind.bits, IntKind.signed] at h
  have h1 : IntKind.u64.min = 0 := rfl
  have h2 : IntKind.u64.max = 18446744073709551615 := rfl
  rw [h1] at h
  omega
theorem bla_zero : ∀ f, Lib.bitLenAux f 0 = 0
  | 0 => rfl
  | f + 1 => by simp [Lib.bitLenAux]
theorem bla_spec : ∀ (f x : Nat), x < 2 ^ f → x < 2 ^ Lib.bitLenAux f x ∧ (x ≠ 0 → 1 ≤ Lib.bitLenAux f x ∧ 2 ^ (Lib.bitLenAux f x - 1) ≤ x) ∧ Lib.bitLenAux f x ≤ f
  | 0, x, h => by
    have : x = 0 := by simpa using h
    subst this
    simp [Lib.bitLenAux]
  | f + 1, x, h => by
    by_cases h0 : x = 0
    · subst h0; simp [bla_zero]
    · have e1 : Lib.bitLenAux (f + 1) x = 1 + Lib.bitLenAux f (x / 2) := by
        show (if x = 0 then 0 else 1 + Lib.bitLenAux f (x / 2)) = _
        rw [if_neg h0]
      rw [e1]
      rw [Nat.pow_succ] at h
      obtain ⟨i1, i2, i3⟩ := bla_spec f (x / 2) (by omega)
      have hz : x / 2 = 0 → Lib.bitLenAux f (x / 2) = 0 := fun h1 => by rw [h1]; exact bla_zero f
      generalize Lib.bitLenAux f (x / 2) = b at *
      refine ⟨?_, fun _ => ⟨by omega, ?_⟩, by omega⟩
      · rw [Nat.add_comm, Nat.pow_succ]; omega
      · rw [Nat.add_sub_cancel_left]
        by_cases h1 : x / 2 = 0
        · have : b = 0 := hz h1
          subst this
          simp; omega
        · obtain ⟨j1, j2⟩ := i2 h1
          have e : 2 ^ b = 2 ^ (b - 1) * 2 := by rw [← Nat.pow_succ]; congr 1; omega
          omega
theorem bl_spec {x : Nat} (h : x < 2 ^ 64) (h0 : x ≠ 0) : 1 ≤ Lib.bitLen x ∧ Lib.bitLen x ≤ 64 ∧ 2 ^ (Lib.bitLen x - 1) ≤ x ∧ x < 2 ^ (Lib.bitLen x - 1 + 1) := by
  obtain ⟨a, b, c⟩ := bla_spec 64 x h
  obtain ⟨d, e⟩ := b h0
  unfold Lib.bitLen
  refine ⟨d, c, e, ?_⟩
  rw [show Lib.bitLenAux 64 x - 1 + 1 = Lib.bitLenAux 64 x by omega]
  exact a
theorem bl_zero : Lib.bitLen 0 = 0 := bla_zero 64
theorem bl_unique {x b c : Nat} (h0 : 2 ^ b ≤ x) (h1 : x < 2 ^ (b + 1)) (k0 : 2 ^ c ≤ x) (k1 : x < 2 ^ (c + 1)) : b = c := by
  have a1 := (Nat.pow_lt_pow_iff_right (a := 2) (by decide)).1 (Nat.lt_of_le_of_lt h0 k1)
  have a2 := (Nat.pow_lt_pow_iff_right (a := 2) (by decide)).1 (Nat.lt_of_le_of_lt k0 h1)
  omega
theorem bits_some {x : Nat} (h : x < 2 ^ 64) : logs_Bits.f (x : Int) = some ((Lib.bitLen x : Nat) : Int) := by
  unfold logs_Bits.f bits_Len64.f
  rw [if_pos (by omega), if_pos (by omega), Int.toNat_natCast, bsome]
/-- A logarithm in 256ths. -/
def logN (x : Nat) : Nat := if x = 0 then 0 else 256 * (Lib.bitLen x - 1) + dD 8 (mant (Lib.bitLen x - 1) x)
theorem or_digit (n d : Nat) (hn : n < 2 ^ 40) (hd : d < 2) : Go.bits .or .i64 (wrap64 ((n : Int) * 2)) (wrap64 (d : Int)) = ((2 * n + d : Nat) : Int) := by
  have e1 : wrap64 ((n : Int) * 2) = ((2 * n : Nat) : Int) := by unfold wrap64; omega
  have e2 : wrap64 (d : Int) = (d : Int) := by unfold wrap64; omega
  have hj := (bits_nat .i64 62 (by decide) (by intro n h0 h1; rw [IntKind.wrap_i64]; omega) (2 * n) d (by omega) (by omega)).2
  rw [e1, e2, hj]
  congr 1
  have := Nat.two_pow_add_eq_or_of_lt (i := 1) (b := d) (by omega) n
  rw [Nat.pow_one] at this
  exact this.symm
theorem shr_digit (q d : Nat) (hd : d < 2) : shr .u64 (q : Int) (d : Int) = ((q / 2 ^ d : Nat) : Int) := by
  unfold shr
  have h : d = 0 ∨ d = 1 := by omega
  rcases h with rfl | rfl
  · simp
  · rfl
theorem l0_spec : ∀ (j k m n i : Nat), i + j = 8 → j < k → 2147483648 ≤ m → m < 4294967296 → n < 2 ^ (32 + i) → logs_Log.l0 k (m : Int) (n : Int) (i : Int) = some ((n * 2 ^ j + dD j m : Nat) : Int)
  | 0, k, m, n, i, hi, hk, _, _, _ => by
    obtain ⟨k, rfl⟩ : ∃ k', k = k' + 1 := ⟨k - 1, by omega⟩
    simp only [logs_Log.l0]
    rw [if_neg (by omega)]
    simp [dD]
  | j + 1, k, m, n, i, hi, hk, h0, h1, hn => by
    obtain ⟨k, rfl⟩ : ∃ k', k = k' + 1 := ⟨k - 1, by omega⟩
    obtain ⟨a, b, c⟩ := next_range h0 h1
    have hsq : IntKind.u64.wrap ((m : Int) * (m : Int)) = ((m * m : Nat) : Int) := by
      have := Nat.mul_le_mul (show m ≤ 4294967295 by omega) (show m ≤ 4294967295 by omega)
      rw [← Int.natCast_mul, IntKind.wrap_u64]
      omega
    have e2 : ((m * m : Nat) : Int) / 2147483648 = ((m * m / 2147483648 : Nat) : Int) := by omega
    have e3 : ((m * m / 2147483648 : Nat) : Int) / 4294967296 = ((m * m / 2147483648 / 4294967296 : Nat) : Int) := by omega
    have hi8 : i ≤ 8 := by omega
    have hn2 : ∀ d, d < 2 → 2 * n + d < 2 ^ (32 + (i + 1)) := by
      intro d hd
      rw [show 32 + (i + 1) = (32 + i) + 1 from rfl, Nat.pow_succ]
      generalize 2 ^ (32 + i) = P at hn
      omega
    have hn40 : n < 2 ^ 40 := Nat.lt_of_lt_of_le hn (Nat.pow_le_pow_right (by decide) (Nat.add_le_add_left hi8 32))
    clear hn
    have c8 : (i : Int) < 8 := by clear hn40 hn2; omega
    have cd : (0 : Int) ≤ ((m * m / 2147483648 / 4294967296 : Nat) : Int) := Int.natCast_nonneg _
    have e4 : wrap64 ((i : Int) + 1) = ((i + 1 : Nat) : Int) := by clear hn40 hn2; unfold wrap64; omega
    simp only [logs_Log.l0]
    rw [if_pos c8, hsq, e2, e3, if_pos cd, or_digit n _ hn40 c, shr_digit _ _ c, e4]
    have hij : i + 1 + j = 8 := by clear hn40 hn2; omega
    have hjk : j < k := by clear hn40 hn2; omega
    rw [l0_spec j k _ _ (i + 1) hij hjk a b (hn2 _ c)]
    congr 2
    rw [show dD (j + 1) m = (m * m / 2147483648 / 4294967296) * 2 ^ j + dD j (m * m / 2147483648 / 2 ^ (m * m / 2147483648 / 4294967296)) from rfl, Nat.pow_succ]
    generalize m * m / 2147483648 / 4294967296 = d
    generalize dD j _ = e
    rw [Nat.add_mul, ← Nat.add_assoc, Nat.mul_comm 2 n, Nat.mul_assoc, Nat.mul_comm 2 (2 ^ j)]
theorem log_some {x k : Nat} (h : x < 2 ^ 64) (hk : 9 ≤ k) : logs_Log.f k (x : Int) = some ((logN x : Nat) : Int) := by
  by_cases h0 : x = 0
  · subst h0; rfl
  · obtain ⟨a, b, c, d⟩ := bl_spec h h0
    unfold logs_Log.f
    rw [if_neg (by omega), bits_some h, bsome]
    obtain ⟨l, hl⟩ : ∃ l, Lib.bitLen x - 1 = l := ⟨_, rfl⟩
    have e1 : wrap64 (((Lib.bitLen x : Nat) : Int) - 1) = (l : Int) := by unfold wrap64; omega
    have e2 : wrap64 (63 - (l : Int)) = ((63 - l : Nat) : Int) := by unfold wrap64; omega
    have e3 : shl .u64 (x : Int) ((63 - l : Nat) : Int) = ((x * 2 ^ (63 - l) : Nat) : Int) := by
      unfold shl
      have hmin : min ((63 - l : Nat) : Int).toNat IntKind.u64.bits = 63 - l := by
        rw [Int.toNat_natCast]
        exact Nat.min_eq_left (by simp [IntKind.bits]; omega)
      have hlt : x * 2 ^ (63 - l) < 18446744073709551616 := by
        rw [hl] at d
        have := Nat.mul_lt_mul_of_pos_right d (Nat.two_pow_pos (63 - l))
        rw [← Nat.pow_add, show l + 1 + (63 - l) = 64 by omega] at this
        exact this
      rw [hmin, show (2 : Int) ^ (63 - l) = ((2 ^ (63 - l) : Nat) : Int) by simp, ← Int.natCast_mul, IntKind.wrap_u64]
      omega
    rw [e1, e2, if_pos (by omega), e3]
    have e4 : ((x * 2 ^ (63 - l) : Nat) : Int) / 4294967296 = ((mant l x : Nat) : Int) := by unfold mant; omega
    rw [e4]
    rw [hl] at c d
    obtain ⟨m0, m1⟩ := mant_range (b := l) (by omega) c d
    rw [show (0 : Int) = ((0 : Nat) : Int) from rfl, l0_spec 8 k _ _ 0 rfl (by omega) m0 m1 (by omega)]
    unfold logN
    rw [if_neg h0, hl, Nat.mul_comm]
theorem logN_mono {x y : Nat} (h : x ≤ y) (hy : y < 2 ^ 64) : logN x ≤ logN y := by
  by_cases h0 : x = 0
  · subst h0; simp [logN]
  · obtain ⟨a, b, c, d⟩ := bl_spec (x := x) (by omega) h0
    obtain ⟨a2, b2, c2, d2⟩ := bl_spec hy (by omega)
    have hp63 : Lib.bitLen x - 1 ≤ 63 := by omega
    have hq63 : Lib.bitLen y - 1 ≤ 63 := by omega
    unfold logN
    rw [if_neg h0, if_neg (by omega)]
    generalize Lib.bitLen x - 1 = p at *
    generalize Lib.bitLen y - 1 = q at *
    obtain ⟨m0, m1⟩ := mant_range (b := p) hp63 c d
    obtain ⟨n0, n1⟩ := mant_range (b := q) hq63 c2 d2
    have hpq : p < q + 1 := (Nat.pow_lt_pow_iff_right (a := 2) (by decide)).1 (Nat.lt_of_le_of_lt (Nat.le_trans c h) d2)
    have l1 := dD_lt 8 m0 m1
    by_cases e : p = q
    · subst e
      have := dD_mono 8 m0 (mant_mono (b := p) h) n1
      omega
    · omega
theorem rt_32 (x : Nat) (h : x < 2 ^ 64) : rt x 32 0 * rt x 32 0 ≤ x ∧ x < (rt x 32 0 + 1) * (rt x 32 0 + 1) := rt_spec x 32 0 (Nat.zero_le _) (by simpa using h)
theorem root_some {x : Nat} (h : x < 2 ^ 64) : logs_Root.f (x : Int) = some ((rt x 32 0 : Nat) : Int) := by
  unfold logs_Root.f
  rw [if_pos (by omega), if_pos (by omega), Int.toNat_natCast]
theorem rt_mono {x y : Nat} (h : x ≤ y) (hy : y < 2 ^ 64) : rt x 32 0 ≤ rt y 32 0 := by
  obtain ⟨a, b⟩ := rt_32 x (by omega)
  obtain ⟨c, d⟩ := rt_32 y hy
  rcases Nat.lt_or_ge (rt y 32 0) (rt x 32 0) with hl | hl
  · have := Nat.mul_le_mul (show rt y 32 0 + 1 ≤ rt x 32 0 from hl) (show rt y 32 0 + 1 ≤ rt x 32 0 from hl)
    omega
  · exact hl
theorem awake_true (k : Nat) (hk : 20 ≤ k) : earshotlaw03_awake.f k = some true := by
  have h : earshotlaw03_awake.f 20 = some true := by decide +kernel
  have hm : ∀ d, earshotlaw03_awake.f (20 + d) = some true := by
    intro d
    induction d with
    | zero => exact h
    | succ d ih => exact earshotlaw03_awake.mono (20 + d) _ ih
  have := hm (k - 20)
  rwa [show 20 + (k - 20) = k by omega] at this
theorem wf_u32 {x : Int} (h : (Lit.int .u32 x).wf = true) : 0 ≤ x ∧ x < 4294967296 := by
  simp [Lit.wf, IntKind.wrap, IntKind.bits, IntKind.signed] at h
  have h1 : IntKind.u32.min = 0 := rfl
  have h2 : IntKind.u32.max = 4294967295 := rfl
  rw [h1] at h
  omega
theorem logN_of {x b : Nat} (hx : x < 2 ^ 64) (h0 : 2 ^ b ≤ x) (h1 : x < 2 ^ (b + 1)) : logN x = 256 * b + dD 8 (mant b x) := by
  have hz : x ≠ 0 := by have := Nat.two_pow_pos b; omega
  obtain ⟨p, q, c, d⟩ := bl_spec hx hz
  have e := bl_unique c d h0 h1
  unfold logN
  rw [if_neg hz, e]
theorem logN_twice {x : Nat} (h0 : x ≠ 0) (hx : x < 2 ^ 63) : logN (2 * x) = logN x + 256 := by
  obtain ⟨p, q, c, d⟩ := bl_spec (x := x) (by omega) h0
  have hb : Lib.bitLen x - 1 < 63 := (Nat.pow_lt_pow_iff_right (a := 2) (by decide)).1 (Nat.lt_of_le_of_lt c hx)
  have e1 := logN_of (x := x) (by omega) c d
  have e2 := logN_of (x := 2 * x) (b := Lib.bitLen x - 1 + 1) (by omega) (by rw [Nat.pow_succ]; omega) (by rw [Nat.pow_succ]; omega)
  rw [mant_twice (by omega)] at e2
  omega
theorem logN_square {y : Nat} (h0 : y ≠ 0) (hy : y < 4294967296) : logN (y * y) = 2 * logN y ∨ logN (y * y) = 2 * logN y + 1 := by
  obtain ⟨p, q, c, d⟩ := bl_spec (x := y) (by omega) h0
  have hb : Lib.bitLen y - 1 < 32 := (Nat.pow_lt_pow_iff_right (a := 2) (by decide)).1 (Nat.lt_of_le_of_lt c hy)
  have hyy : y * y < 2 ^ 64 := by
    have := Nat.mul_le_mul (show y ≤ 4294967295 by omega) (show y ≤ 4294967295 by omega)
    omega
  have e1 := logN_of (x := y) (by omega) c d
  obtain ⟨m0, m1⟩ := mant_range (b := Lib.bitLen y - 1) (by omega) c d
  obtain ⟨s0, s1, s2, s3⟩ := mant_square (b := Lib.bitLen y - 1) (by omega) c d
  have e2 := logN_of hyy s0 s1
  rw [s2] at e2
  have hn := dD_next 8 m0 m1
  rw [show dD (8 + 1) (mant (Lib.bitLen y - 1) y) = (mant (Lib.bitLen y - 1) y * mant (Lib.bitLen y - 1) y / 2147483648 / 4294967296) * 2 ^ 8 + dD 8 (mant (Lib.bitLen y - 1) y * mant (Lib.bitLen y - 1) y / 2147483648 / 2 ^ (mant (Lib.bitLen y - 1) y * mant (Lib.bitLen y - 1) y / 2147483648 / 4294967296)) from rfl] at hn
  clear s0 s1 s2 m0 m1 c d hyy
  generalize dD 8 (mant (Lib.bitLen y - 1) y * mant (Lib.bitLen y - 1) y / 2147483648 / 2 ^ (mant (Lib.bitLen y - 1) y * mant (Lib.bitLen y - 1) y / 2147483648 / 4294967296)) = A at *
  generalize mant (Lib.bitLen y - 1) y * mant (Lib.bitLen y - 1) y / 2147483648 / 4294967296 = D at *
  generalize dD 8 (mant (Lib.bitLen y - 1) y) = B at *
  omega
theorem logN_pow {k : Nat} (hk : k ≤ 63) : logN (2 ^ k) = 256 * k := by
  have hlt : 2 ^ k < 2 ^ 64 := Nat.pow_lt_pow_right (by decide) (by omega)
  rw [logN_of hlt (Nat.le_refl _) (Nat.pow_lt_pow_right (by decide) (by omega)), mant_pow hk, dD_one]
  rfl
theorem logN_lt {x : Nat} (hx : x < 2 ^ 64) : logN x < 16384 := by
  by_cases h0 : x = 0
  · subst h0; decide
  · obtain ⟨p, q, c, d⟩ := bl_spec hx h0
    obtain ⟨m0, m1⟩ := mant_range (b := Lib.bitLen x - 1) (by omega) c d
    have := dD_lt 8 m0 m1
    unfold logN
    rw [if_neg h0]
    omega
theorem and63 (p : Int) (h : (Lit.int .i64 p).wf = true) : ∃ k : Nat, k ≤ 63 ∧ Go.bits .and .i64 p 63 = (k : Int) := by
  refine ⟨(BitVec.ofInt 64 p &&& 63#64).toNat, ?_, ?_⟩
  · rw [BitVec.toNat_and]
    exact Nat.and_le_right
  · show IntKind.i64.wrap (((BitVec.ofInt 64 p &&& BitVec.ofInt 64 63)).toNat : Int) = _
    have hle : (BitVec.ofInt 64 p &&& 63#64).toNat ≤ 63 := by rw [BitVec.toNat_and]; exact Nat.and_le_right
    have e : BitVec.ofInt 64 63 = 63#64 := by decide
    rw [e, IntKind.wrap_i64]
    omega
theorem twice_j1 (p : Int) (hp : (Lit.int .i64 p).wf = true) {a b : Nat} (ha0 : a ≠ 0) (ha : a < 2 ^ 63) (hb0 : b ≠ 0) (hb : b < 4294967296) : earshotlaw03_LogsTwice.j1 30 p true (a : Int) (b : Int) = some true := by
  obtain ⟨k, hk, hand⟩ := and63 p hp
  have hbb : b * b < 2 ^ 64 := by
    have := Nat.mul_le_mul (show b ≤ 4294967295 by omega) (show b ≤ 4294967295 by omega)
    omega
  have wbb : IntKind.u64.wrap ((b : Int) * (b : Int)) = ((b * b : Nat) : Int) := by rw [← Int.natCast_mul, IntKind.wrap_u64]; omega
  have w2a : IntKind.u64.wrap (2 * (a : Int)) = ((2 * a : Nat) : Int) := by rw [IntKind.wrap_u64]; omega
  have wk : IntKind.u64.wrap (k : Int) = (k : Int) := by rw [IntKind.wrap_u64]; omega
  have w256 : wrap64 (256 * (k : Int)) = ((256 * k : Nat) : Int) := by unfold wrap64; omega
  have hpk : (2 : Nat) ^ k < 2 ^ 64 := Nat.pow_lt_pow_right (by decide) (by omega)
  have hshl : shl .u64 1 (k : Int) = ((2 ^ k : Nat) : Int) := by
    unfold shl
    have hmin : min (k : Int).toNat IntKind.u64.bits = k := by
      rw [Int.toNat_natCast]
      exact Nat.min_eq_left (Nat.le_trans hk (by decide))
    rw [hmin, Int.one_mul, show (2 : Int) ^ k = ((2 ^ k : Nat) : Int) by simp, IntKind.wrap_u64]
    generalize 2 ^ k = P at *
    omega
  have h2a : 2 * a < 2 ^ 64 := by omega
  have ha64 : a < 2 ^ 64 := by omega
  have hb64 : b < 2 ^ 64 := by omega
  have t1 := logN_twice ha0 ha
  have t2 := logN_square hb0 hb
  have l1 := logN_lt ha64
  have l2 := logN_lt hb64
  have l3 := logN_lt hbb
  have tk := logN_pow hk
  have hlk : logs_Log.f 29 ((2 ^ k : Nat) : Int) = some ((256 * k : Nat) : Int) := by rw [log_some hpk (by decide), tk]
  rw [earshotlaw03_LogsTwice.j1, wbb, w2a, hand, wk, w256, hshl, log_some hbb (by decide), bsome, log_some hb64 (by decide), bsome, if_pos rfl, log_some h2a (by decide), bsome, log_some ha64 (by decide), bsome, hlk]
  clear hpk hshl hlk tk
  generalize logN (2 * a) = A2 at *
  generalize logN a = A at *
  generalize logN (b * b) = B2 at *
  generalize logN b = B at *
  have g1 : ((A2 : Nat) : Int) = wrap64 ((A : Int) + 256) := by unfold wrap64; omega
  have w2b : wrap64 (2 * (B : Int)) = ((2 * B : Nat) : Int) := by unfold wrap64; omega
  have hk0 : (0 : Int) ≤ (k : Int) := Int.natCast_nonneg _
  rw [if_pos g1, w2b]
  rcases t2 with rfl | rfl
  · have z : wrap64 (((2 * B : Nat) : Int) - ((2 * B : Nat) : Int)) = 0 := by unfold wrap64; omega
    rw [z, if_pos rfl, if_pos hk0, bsome, beq_self_eq_true]
  · have z : wrap64 (((2 * B + 1 : Nat) : Int) - ((2 * B : Nat) : Int)) = 1 := by unfold wrap64; omega
    rw [z, if_neg (by decide), if_pos rfl, if_pos hk0, bsome, beq_self_eq_true]
theorem twice_j0 (p : Int) (hp : (Lit.int .i64 p).wf = true) (y : Int) (h1 : (Lit.int .u32 y).wf = true) {a : Nat} (ha0 : a ≠ 0) (ha : a < 2 ^ 63) : earshotlaw03_LogsTwice.j0 31 y p true (a : Int) = some true := by
  obtain ⟨y0, y1⟩ := wf_u32 h1
  obtain ⟨b, rfl⟩ := Int.eq_ofNat_of_zero_le y0
  have wy : IntKind.u64.wrap (b : Int) = (b : Int) := by rw [IntKind.wrap_u64]; omega
  rw [earshotlaw03_LogsTwice.j0, wy]
  by_cases hz : (b : Int) = 0
  · rw [if_pos hz]
    exact twice_j1 p hp ha0 ha (b := 1) (by decide) (by decide)
  · rw [if_neg hz]
    exact twice_j1 p hp ha0 ha (b := b) (by omega) (by omega)
theorem LogsTwice : earshotlaw03_LogsTwice.Pure := by
  intro a0 y p h0 h1 h2
  obtain ⟨x0, x1⟩ := wf_u64 h0
  obtain ⟨x, rfl⟩ := Int.eq_ofNat_of_zero_le x0
  refine ⟨31, ?_⟩
  unfold earshotlaw03_LogsTwice.f
  rw [awake_true 31 (by decide), bsome, show (x : Int) / 2 = ((x / 2 : Nat) : Int) by omega]
  by_cases hz : ((x / 2 : Nat) : Int) = 0
  · rw [if_pos hz]
    exact twice_j0 p h2 y h1 (a := 1) (by decide) (by decide)
  · rw [if_neg hz]
    exact twice_j0 p h2 y h1 (a := x / 2) (by omega) (by omega)
end Go.Proofs.Yteihjdpbahfnnaa.Pure
