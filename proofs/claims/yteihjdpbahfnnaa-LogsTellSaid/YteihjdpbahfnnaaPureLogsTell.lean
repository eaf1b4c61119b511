/- The plain law of LogsTell: what the printed functions compute answers as the statement says. No conditions beside the statement's own. -/
import Derived.Test.YteihjdpbahfnnaaPLogsTellx2
namespace Go.Proofs.Yteihjdpbahfnnaa.Pure
open Go.RowKit Go.Proofs.Yteihjdpbahfnnaa.PLogsTell Go.Proofs.YteihjdpbahfnnaaW.PrintWords Go.Proofs.YteihjdpbahfnnaaW.PrintLast Go.Proofs.YteihjdpbahfnnaaW.PrintMore
set_option linter.unusedVariables false
set_option linter.unusedSimpArgs false
/-- The digits behind the point, step by step, of a mantissa in [2^31, 2^32). -/
def dD : Nat → Nat → Nat
  | 0, _ => 0
  | k + 1, m => (m * m / 2147483648 / 4294967296) * 2 ^ k + dD k (m * m / 2147483648 / 2 ^ (m * m / 2147483648 / 4294967296))
theorem sq_range {m : Nat} (h0 : 2147483648 ≤ m) (h1 : m < 4294967296) : 2147483648 ≤ m * m / 2147483648 ∧ m * m / 2147483648 < 8589934592 := by
  have a : 2147483648 * 2147483648 ≤ m * m := Nat.mul_le_mul h0 h0
  have b : m * m ≤ 4294967295 * 4294967295 := Nat.mul_le_mul (by omega) (by omega)
  omega
theorem next_range {m : Nat} (h0 : 2147483648 ≤ m) (h1 : m < 4294967296) : 2147483648 ≤ m * m / 2147483648 / 2 ^ (m * m / 2147483648 / 4294967296) ∧ m * m / 2147483648 / 2 ^ (m * m / 2147483648 / 4294967296) < 4294967296 ∧ m * m / 2147483648 / 4294967296 < 2 := by
  obtain ⟨a, b⟩ := sq_range h0 h1
  generalize m * m / 2147483648 = q at *
  have h : q / 4294967296 = 0 ∨ q / 4294967296 = 1 := by omega
  rcases h with h | h
  · rw [h]; omega
  · rw [h]; omega
theorem dD_lt : ∀ (k : Nat) {m : Nat}, 2147483648 ≤ m → m < 4294967296 → dD k m < 2 ^ k
  | 0, _, _, _ => by simp [dD]
  | k + 1, m, h0, h1 => by
    obtain ⟨a, b, c⟩ := next_range h0 h1
    have ih := dD_lt k a b
    simp only [dD]
    generalize m * m / 2147483648 / 4294967296 = d at *
    generalize dD k _ = e at *
    have hd : d = 0 ∨ d = 1 := by omega
    rw [Nat.pow_succ]
    rcases hd with rfl | rfl <;> omega
theorem dD_mono : ∀ (k : Nat) {m n : Nat}, 2147483648 ≤ m → m ≤ n → n < 4294967296 → dD k m ≤ dD k n
  | 0, _, _, _, _, _ => Nat.le_refl _
  | k + 1, m, n, h0, h, h1 => by
    obtain ⟨a, b, c⟩ := next_range h0 (by omega)
    obtain ⟨a2, b2, c2⟩ := next_range (m := n) (by omega) h1
    have hq : m * m / 2147483648 ≤ n * n / 2147483648 := Nat.div_le_div_right (Nat.mul_le_mul h h)
    have lt := dD_lt k a b
    simp only [dD]
    by_cases he : m * m / 2147483648 / 4294967296 = n * n / 2147483648 / 4294967296
    · have ih := dD_mono k a (by rw [he]; exact Nat.div_le_div_right hq) b2
      rw [he] at ih ⊢
      omega
    · have hlt : m * m / 2147483648 / 4294967296 ≤ n * n / 2147483648 / 4294967296 := Nat.div_le_div_right hq
      have e1 : m * m / 2147483648 / 4294967296 = 0 := by omega
      have e2 : n * n / 2147483648 / 4294967296 = 1 := by omega
      have l1 := lt
      rw [e1] at l1 ⊢
      rw [e2]
      omega
theorem dD_next : ∀ (k : Nat) {m : Nat}, 2147483648 ≤ m → m < 4294967296 → dD (k + 1) m = 2 * dD k m ∨ dD (k + 1) m = 2 * dD k m + 1
  | 0, m, h0, h1 => by
    obtain ⟨a, b, c⟩ := next_range h0 h1
    simp only [dD]
    omega
  | k + 1, m, h0, h1 => by
    obtain ⟨a, b, c⟩ := next_range h0 h1
    have ih := dD_next k a b
    rw [show dD (k + 1 + 1) m = (m * m / 2147483648 / 4294967296) * 2 ^ (k + 1) + dD (k + 1) (m * m / 2147483648 / 2 ^ (m * m / 2147483648 / 4294967296)) from rfl,
      show dD (k + 1) m = (m * m / 2147483648 / 4294967296) * 2 ^ k + dD k (m * m / 2147483648 / 2 ^ (m * m / 2147483648 / 4294967296)) from rfl, Nat.pow_succ]
    generalize m * m / 2147483648 / 4294967296 = d at *
    have e : d * (2 ^ k * 2) = 2 * (d * 2 ^ k) := by rw [← Nat.mul_assoc, Nat.mul_comm]
    rcases ih with ih | ih <;> rw [ih, e] <;> omega
theorem dD_one : ∀ k, dD k 2147483648 = 0
  | 0 => rfl
  | k + 1 => by
    simp only [dD]
    have e : 2147483648 * 2147483648 / 2147483648 / 4294967296 = 0 := by decide
    rw [e]
    simpa using dD_one k
/-- The mantissa of a number of b + 1 bits. -/
def mant (b x : Nat) : Nat := x * 2 ^ (63 - b) / 4294967296
theorem mant_range {b x : Nat} (hb : b ≤ 63) (h0 : 2 ^ b ≤ x) (h1 : x < 2 ^ (b + 1)) : 2147483648 ≤ mant b x ∧ mant b x < 4294967296 := by
  unfold mant
  have e : 2 ^ b * 2 ^ (63 - b) = 9223372036854775808 := by rw [← Nat.pow_add, show b + (63 - b) = 63 by omega]
  have p : 0 < 2 ^ (63 - b) := Nat.two_pow_pos _
  have a1 : 2 ^ b * 2 ^ (63 - b) ≤ x * 2 ^ (63 - b) := Nat.mul_le_mul_right _ h0
  have a2 : x * 2 ^ (63 - b) < 2 ^ (b + 1) * 2 ^ (63 - b) := Nat.mul_lt_mul_of_pos_right h1 p
  rw [Nat.pow_succ, Nat.mul_right_comm, e] at a2
  rw [e] at a1
  omega
theorem mant_mono {b x y : Nat} (h : x ≤ y) : mant b x ≤ mant b y := Nat.div_le_div_right (Nat.mul_le_mul_right _ h)
theorem mant_twice {b x : Nat} (hb : b + 1 ≤ 63) : mant (b + 1) (2 * x) = mant b x := by
  unfold mant
  rw [show 63 - b = (63 - (b + 1)) + 1 by omega, Nat.pow_succ, Nat.mul_comm 2 x, Nat.mul_assoc, Nat.mul_comm (2 ^ _) 2]
theorem mant_pow {b : Nat} (hb : b ≤ 63) : mant b (2 ^ b) = 2147483648 := by
  unfold mant
  rw [← Nat.pow_add, show b + (63 - b) = 63 by omega]
/-- Of a square: the first step of the number's own digits. -/
theorem mant_square {b y : Nat} (hb : b ≤ 31) (h0 : 2 ^ b ≤ y) (h1 : y < 2 ^ (b + 1)) :
    let q := mant b y * mant b y / 2147483648
    2 ^ (2 * b + q / 4294967296) ≤ y * y ∧ y * y < 2 ^ (2 * b + q / 4294967296 + 1) ∧ mant (2 * b + q / 4294967296) (y * y) = q / 2 ^ (q / 4294967296) ∧ q / 4294967296 < 2 := by
  intro q
  have em : mant b y = y * 2 ^ (31 - b) := by
    unfold mant
    rw [show 63 - b = (31 - b) + 32 by omega, Nat.pow_add, ← Nat.mul_assoc]
    exact Nat.mul_div_cancel _ (by decide)
  have eq1 : q = y * y * 2 ^ (63 - 2 * b) / 4294967296 := by
    show mant b y * mant b y / 2147483648 = _
    rw [em]
    have e : y * 2 ^ (31 - b) * (y * 2 ^ (31 - b)) = y * y * 2 ^ (62 - 2 * b) := by
      rw [Nat.mul_mul_mul_comm, ← Nat.pow_add, show 31 - b + (31 - b) = 62 - 2 * b by omega]
    rw [e, show 63 - 2 * b = (62 - 2 * b) + 1 by omega, Nat.pow_succ, ← Nat.mul_assoc]
    generalize y * y * 2 ^ (62 - 2 * b) = z
    omega
  obtain ⟨r0, r1⟩ := mant_range (b := b) (by omega) h0 h1
  obtain ⟨_, _, hd⟩ := next_range r0 r1
  have y0 : 2 ^ (2 * b) ≤ y * y := by
    have := Nat.mul_le_mul h0 h0
    rwa [← Nat.pow_add, ← Nat.two_mul] at this
  have y1 : y * y < 2 ^ (2 * b + 2) := by
    have := Nat.mul_lt_mul'' h1 h1
    rwa [← Nat.pow_add, show b + 1 + (b + 1) = 2 * b + 2 by omega] at this
  have hcut : q / 4294967296 = 1 ↔ 2 ^ (2 * b + 1) ≤ y * y := by
    have p : 0 < 2 ^ (63 - 2 * b) := Nat.two_pow_pos _
    have e : 2 ^ (2 * b + 1) * 2 ^ (63 - 2 * b) = 18446744073709551616 := by rw [← Nat.pow_add, show 2 * b + 1 + (63 - 2 * b) = 64 by omega]
    constructor
    · intro h
      have : 18446744073709551616 ≤ y * y * 2 ^ (63 - 2 * b) := by omega
      rw [← e] at this
      exact Nat.le_of_mul_le_mul_right this p
    · intro h
      have := Nat.mul_le_mul_right (2 ^ (63 - 2 * b)) h
      rw [e] at this
      have hd' : q / 4294967296 < 2 := hd
      omega
  have hd' : q / 4294967296 < 2 := hd
  have h01 : q / 4294967296 = 0 ∨ q / 4294967296 = 1 := by omega
  rcases h01 with h | h
  · have hn : ¬ 2 ^ (2 * b + 1) ≤ y * y := fun hh => by rw [hcut.mpr hh] at h; cases h
    rw [h]
    simp only [Nat.add_zero]
    refine ⟨y0, by omega, ?_, by omega⟩
    unfold mant
    rw [eq1]; simp
  · have hh := hcut.mp h
    rw [h]
    refine ⟨hh, y1, ?_, by omega⟩
    unfold mant
    rw [eq1, show 63 - 2 * b = (63 - (2 * b + 1)) + 1 by omega, Nat.pow_succ, ← Nat.mul_assoc]
    generalize y * y * 2 ^ (63 - (2 * b + 1)) = z
    omega
theorem rt_spec (x : Nat) : ∀ (n r : Nat), r * r ≤ x → x < (r + 2 ^ n) * (r + 2 ^ n) → rt x n r * rt x n r ≤ x ∧ x < (rt x n r + 1) * (rt x n r + 1)
  | 0, r, h0, h1 => by simpa [rt] using ⟨h0, h1⟩
  | n + 1, r, h0, h1 => by
    simp only [rt]
    split
    · rename_i h; exact rt_spec x n r h0 h
    · rename_i h
      refine rt_spec x n (r + 2 ^ n) (by omega) ?_
      rw [Nat.pow_succ] at h1
      rw [Nat.add_assoc, show 2 ^ n + 2 ^ n = 2 ^ n * 2 by omega]; exact h1
theorem root_unique {x r s : Nat} (h0 : r * r ≤ x) (h1 : x < (r + 1) * (r + 1)) (k0 : s * s ≤ x) (k1 : x < (s + 1) * (s + 1)) : r = s := by
  rcases Nat.lt_trichotomy r s with h | h | h
  · have := Nat.mul_le_mul (show r + 1 ≤ s from h) (show r + 1 ≤ s from h); omega
  · exact h
  · have := Nat.mul_le_mul (show s + 1 ≤ r from h) (show s + 1 ≤ r from h); omega
theorem bsome {α β : Type} (a : α) (f : α → Option β) : (some a).bind f = f a := by
  generalize h : some a = o
  cases o with
  | none => cases h
  | some b => cases h; rfl
theorem wf_u64 {x : Int} (h : (Lit.int .u64 x).wf = true) : 0 ≤ x ∧ x < 18446744073709551616 := by
  simp [Lit.wf, IntKind.wrap, IntKind.bits, IntKind.signed] at h
  have h1 : IntKind.u64.min = 0 := rfl
  have h2 : IntKind.u64.max = 18446744073709551615 := rfl
  rw [h1] at h
  omega
theorem bla_zero : ∀ f, Lib.bitLenAux f 0 = 0
  | 0 => rfl
  | f + 1 => by simp [Lib.bitLenAux]
theorem bla_spec : ∀ (f x : Nat), x < 2 ^ f → x < 2 ^ Lib.bitLenAux f x ∧ (x ≠ 0 → 1 ≤ Lib.bitLenAux f x ∧ 2 ^ (Lib.bitLenAux f x - 1) ≤ x) ∧ Lib.bitLenAux f x ≤ f
  | 0, x, h => by
    have : x = 0 := by simpa using h
    subst this
    simp [Lib.bitLenAux]
  | f + 1, x, h => by
    by_cases h0 : x = 0
    · subst h0; simp [bla_zero]
    · have e1 : Lib.bitLenAux (f + 1) x = 1 + Lib.bitLenAux f (x / 2) := by
        show (if x = 0 then 0 else 1 + Lib.bitLenAux f (x / 2)) = _
        rw [if_neg h0]
      rw [e1]
      rw [Nat.pow_succ] at h
      obtain ⟨i1, i2, i3⟩ := bla_spec f (x / 2) (by omega)
      have hz : x / 2 = 0 → Lib.bitLenAux f (x / 2) = 0 := fun h1 => by rw [h1]; exact bla_zero f
      generalize Lib.bitLenAux f (x / 2) = b at *
      refine ⟨?_, fun _ => ⟨by omega, ?_⟩, by omega⟩
      · rw [Nat.add_comm, Nat.pow_succ]; omega
      · rw [Nat.add_sub_cancel_left]
        by_cases h1 : x / 2 = 0
        · have : b = 0 := hz h1
          subst this
          simp; omega
        · obtain ⟨j1, j2⟩ := i2 h1
          have e : 2 ^ b = 2 ^ (b - 1) * 2 := by rw [← Nat.pow_succ]; congr 1; omega
          omega
theorem bl_spec {x : Nat} (h : x < 2 ^ 64) (h0 : x ≠ 0) : 1 ≤ Lib.bitLen x ∧ Lib.bitLen x ≤ 64 ∧ 2 ^ (Lib.bitLen x - 1) ≤ x ∧ x < 2 ^ (Lib.bitLen x - 1 + 1) := by
  obtain ⟨a, b, c⟩ := bla_spec 64 x h
  obtain ⟨d, e⟩ := b h0
  unfold Lib.bitLen
  refine ⟨d, c, e, ?_⟩
  rw [show Lib.bitLenAux 64 x - 1 + 1 = Lib.bitLenAux 64 x by omega]
  exact a
theorem bl_zero : Lib.bitLen 0 = 0 := bla_zero 64
theorem bl_unique {x b c : Nat} (h0 : 2 ^ b ≤ x) (h1 : x < 2 ^ (b + 1)) (k0 : 2 ^ c ≤ x) (k1 : x < 2 ^ (c + 1)) : b = c := by
  have a1 := (Nat.pow_lt_pow_iff_right (a := 2) (by decide)).1 (Nat.lt_of_le_of_lt h0 k1)
  have a2 := (Nat.pow_lt_pow_iff_right (a := 2) (by decide)).1 (Nat.lt_of_le_of_lt k0 h1)
  omega
theorem bits_some {x : Nat} (h : x < 2 ^ 64) : logs_Bits.f (x : Int) = some ((Lib.bitLen x : Nat) : Int) := by
  unfold logs_Bits.f bits_Len64.f
  rw [if_pos (by omega), if_pos (by omega), Int.toNat_natCast, bsome]
/-- A logarithm in 256ths. -/
def logN (x : Nat) : Nat := if x = 0 then 0 else 256 * (Lib.bitLen x - 1) + dD 8 (mant (Lib.bitLen x - 1) x)
theorem or_digit (n d : Nat) (hn : n < 2 ^ 40) (hd : d < 2) : Go.bits .or .i64 (wrap64 ((n : Int) * 2)) (wrap64 (d : Int)) = ((2 * n + d : Nat) : Int) := by
  have e1 : wrap64 ((n : Int) * 2) = ((2 * n : Nat) : Int) := by unfold wrap64; omega
  have e2 : wrap64 (d : Int) = (d : Int) := by unfold wrap64; omega
  have hj := (bits_nat .i64 62 (by decide) (by intro n h0 h1; rw [IntKind.wrap_i64]; omega) (2 * n) d (by omega) (by omega)).2
  rw [e1, e2, hj]
  congr 1
  have := Nat.two_pow_add_eq_or_of_lt (i := 1) (b := d) (by omega) n
  rw [Nat.pow_one] at this
  exact this.symm
theorem shr_digit (q d : Nat) (hd : d < 2) : shr .u64 (q : Int) (d : Int) = ((q / 2 ^ d : Nat) : Int) := by
  unfold shr
  have h : d = 0 ∨ d = 1 := by omega
  rcases h with rfl | rfl
  · simp
  · rfl
theorem l0_spec : ∀ (j k m n i : Nat), i + j = 8 → j < k → 2147483648 ≤ m → m < 4294967296 → n < 2 ^ (32 + i) → logs_Log.l0 k (m : Int) (n : Int) (i : Int) = some ((n * 2 ^ j + dD j m : Nat) : Int)
  | 0, k, m, n, i, hi, hk, _, _, _ => by
    obtain ⟨k, rfl⟩ : ∃ k', k = k' + 1 := ⟨k - 1, by omega⟩
    simp only [logs_Log.l0]
    rw [if_neg (by omega)]
    simp [dD]
  | j + 1, k, m, n, i, hi, hk, h0, h1, hn => by
    obtain ⟨k, rfl⟩ : ∃ k', k = k' + 1 := ⟨k - 1, by omega⟩
    obtain ⟨a, b, c⟩ := next_range h0 h1
    have hsq : IntKind.u64.wrap ((m : Int) * (m : Int)) = ((m * m : Nat) : Int) := by
      have := Nat.mul_le_mul (show m ≤ 4294967295 by omega) (show m ≤ 4294967295 by omega)
      rw [← Int.natCast_mul, IntKind.wrap_u64]
      omega
    have e2 : ((m * m : Nat) : Int) / 2147483648 = ((m * m / 2147483648 : Nat) : Int) := by omega
    have e3 : ((m * m / 2147483648 : Nat) : Int) / 4294967296 = ((m * m / 2147483648 / 4294967296 : Nat) : Int) := by omega
    have hi8 : i ≤ 8 := by omega
    have hn2 : ∀ d, d < 2 → 2 * n + d < 2 ^ (32 + (i + 1)) := by
      intro d hd
      rw [show 32 + (i + 1) = (32 + i) + 1 from rfl, Nat.pow_succ]
      generalize 2 ^ (32 + i) = P at hn
      omega
    have hn40 : n < 2 ^ 40 := Nat.lt_of_lt_of_le hn (Nat.pow_le_pow_right (by decide) (Nat.add_le_add_left hi8 32))
    clear hn
    have c8 : (i : Int) < 8 := by clear hn40 hn2; omega
    have cd : (0 : Int) ≤ ((m * m / 2147483648 / 4294967296 : Nat) : Int) := Int.natCast_nonneg _
    have e4 : wrap64 ((i : Int) + 1) = ((i + 1 : Nat) : Int) := by clear hn40 hn2; unfold wrap64; omega
    simp only [logs_Log.l0]
    rw [if_pos c8, hsq, e2, e3, if_pos cd, or_digit n _ hn40 c, shr_digit _ _ c, e4]
    have hij : i + 1 + j = 8 := by clear hn40 hn2; omega
    have hjk : j < k := by clear hn40 hn2; omega
    rw [l0_spec j k _ _ (i + 1) hij hjk a b (hn2 _ c)]
    congr 2
    rw [show dD (j + 1) m = (m * m / 2147483648 / 4294967296) * 2 ^ j + dD j (m * m / 2147483648 / 2 ^ (m * m / 2147483648 / 4294967296)) from rfl, Nat.pow_succ]
    generalize m * m / 2147483648 / 4294967296 = d
    generalize dD j _ = e
    rw [Nat.add_mul, ← Nat.add_assoc, Nat.mul_comm 2 n, Nat.mul_assoc, Nat.mul_comm 2 (2 ^ j)]
theorem log_some {x k : Nat} (h : x < 2 ^ 64) (hk : 9 ≤ k) : logs_Log.f k (x : Int) = some ((logN x : Nat) : Int) := by
  by_cases h0 : x = 0
  · subst h0; rfl
  · obtain ⟨a, b, c, d⟩ := bl_spec h h0
    unfold logs_Log.f
    rw [if_neg (by omega), bits_some h, bsome]
    obtain ⟨l, hl⟩ : ∃ l, Lib.bitLen x - 1 = l := ⟨_, rfl⟩
    have e1 : wrap64 (((Lib.bitLen x : Nat) : Int) - 1) = (l : Int) := by unfold wrap64; omega
    have e2 : wrap64 (63 - (l : Int)) = ((63 - l : Nat) : Int) := by unfold wrap64; omega
    have e3 : shl .u64 (x : Int) ((63 - l : Nat) : Int) = ((x * 2 ^ (63 - l) : Nat) : Int) := by
      unfold shl
      have hmin : min ((63 - l : Nat) : Int).toNat IntKind.u64.bits = 63 - l := by
        rw [Int.toNat_natCast]
        exact Nat.min_eq_left (by simp [IntKind.bits]; omega)
      have hlt : x * 2 ^ (63 - l) < 18446744073709551616 := by
        rw [hl] at d
        have := Nat.mul_lt_mul_of_pos_right d (Nat.two_pow_pos (63 - l))
        rw [← Nat.pow_add, show l + 1 + (63 - l) = 64 by omega] at this
        exact this
      rw [hmin, show (2 : Int) ^ (63 - l) = ((2 ^ (63 - l) : Nat) : Int) by simp, ← Int.natCast_mul, IntKind.wrap_u64]
      omega
    rw [e1, e2, if_pos (by omega), e3]
    have e4 : ((x * 2 ^ (63 - l) : Nat) : Int) / 4294967296 = ((mant l x : Nat) : Int) := by unfold mant; omega
    rw [e4]
    rw [hl] at c d
    obtain ⟨m0, m1⟩ := mant_range (b := l) (by omega) c d
    rw [show (0 : Int) = ((0 : Nat) : Int) from rfl, l0_spec 8 k _ _ 0 rfl (by omega) m0 m1 (by omega)]
    unfold logN
    rw [if_neg h0, hl, Nat.mul_comm]
theorem logN_mono {x y : Nat} (h : x ≤ y) (hy : y < 2 ^ 64) : logN x ≤ logN y := by
  by_cases h0 : x = 0
  · subst h0; simp [logN]
  · obtain ⟨a, b, c, d⟩ := bl_spec (x := x) (by omega) h0
    obtain ⟨a2, b2, c2, d2⟩ := bl_spec hy (by omega)
    have hp63 : Lib.bitLen x - 1 ≤ 63 := by omega
    have hq63 : Lib.bitLen y - 1 ≤ 63 := by omega
    unfold logN
    rw [if_neg h0, if_neg (by omega)]
    generalize Lib.bitLen x - 1 = p at *
    generalize Lib.bitLen y - 1 = q at *
    obtain ⟨m0, m1⟩ := mant_range (b := p) hp63 c d
    obtain ⟨n0, n1⟩ := mant_range (b := q) hq63 c2 d2
    have hpq : p < q + 1 := (Nat.pow_lt_pow_iff_right (a := 2) (by decide)).1 (Nat.lt_of_le_of_lt (Nat.le_trans c h) d2)
    have l1 := dD_lt 8 m0 m1
    by_cases e : p = q
    · subst e
      have := dD_mono 8 m0 (mant_mono (b := p) h) n1
      omega
    · omega
theorem rt_32 (x : Nat) (h : x < 2 ^ 64) : rt x 32 0 * rt x 32 0 ≤ x ∧ x < (rt x 32 0 + 1) * (rt x 32 0 + 1) := rt_spec x 32 0 (Nat.zero_le _) (by simpa using h)
theorem root_some {x : Nat} (h : x < 2 ^ 64) : logs_Root.f (x : Int) = some ((rt x 32 0 : Nat) : Int) := by
  unfold logs_Root.f
  rw [if_pos (by omega), if_pos (by omega), Int.toNat_natCast]
theorem rt_mono {x y : Nat} (h : x ≤ y) (hy : y < 2 ^ 64) : rt x 32 0 ≤ rt y 32 0 := by
  obtain ⟨a, b⟩ := rt_32 x (by omega)
  obtain ⟨c, d⟩ := rt_32 y hy
  rcases Nat.lt_or_ge (rt y 32 0) (rt x 32 0) with hl | hl
  · have := Nat.mul_le_mul (show rt y 32 0 + 1 ≤ rt x 32 0 from hl) (show rt y 32 0 + 1 ≤ rt x 32 0 from hl)
    omega
  · exact hl
theorem awake_true (k : Nat) (hk : 20 ≤ k) : earshotlaw03_awake.f k = some true := by
  have h : earshotlaw03_awake.f 20 = some true := by decide +kernel
  have hm : ∀ d, earshotlaw03_awake.f (20 + d) = some true := by
    intro d
    induction d with
    | zero => exact h
    | succ d ih => exact earshotlaw03_awake.mono (20 + d) _ ih
  have := hm (k - 20)
  rwa [show 20 + (k - 20) = k by omega] at this
theorem ref_bits_l0 : ∀ (f k x n : Nat), x < 2 ^ f → n + f ≤ 64 → f < k → earshotref03_Bits.l0 k (x : Int) (n : Int) = some ((n + Lib.bitLenAux f x : Nat) : Int)
  | 0, k, x, n, h, _, hk => by
    obtain ⟨k, rfl⟩ : ∃ k', k = k' + 1 := ⟨k - 1, by omega⟩
    have : x = 0 := by simpa using h
    subst this
    simp only [earshotref03_Bits.l0]
    rw [if_neg (by decide)]
    simp [Lib.bitLenAux]
  | f + 1, k, x, n, h, hf, hk => by
    obtain ⟨k, rfl⟩ : ∃ k', k = k' + 1 := ⟨k - 1, by omega⟩
    simp only [earshotref03_Bits.l0]
    by_cases h0 : x = 0
    · subst h0
      rw [if_neg (by decide), bla_zero]
      simp
    · have e1 : Lib.bitLenAux (f + 1) x = 1 + Lib.bitLenAux f (x / 2) := by
        show (if x = 0 then 0 else 1 + Lib.bitLenAux f (x / 2)) = _
        rw [if_neg h0]
      have hx64 : x < 2 ^ 64 := Nat.lt_of_lt_of_le h (Nat.pow_le_pow_right (by decide) (by omega))
      rw [Nat.pow_succ] at h
      have hlt : x / 2 < 2 ^ f := by omega
      clear h
      have e2 : IntKind.u64.wrap (Int.tdiv (x : Int) 2) = ((x / 2 : Nat) : Int) := by
        rw [Int.tdiv_eq_ediv_of_nonneg (by omega), IntKind.wrap_u64]; clear hlt; omega
      have e3 : wrap64 ((n : Int) + 1) = ((n + 1 : Nat) : Int) := by clear hlt; unfold wrap64; omega
      rw [if_pos (by clear hlt; omega), e2, e3, e1]
      rw [ref_bits_l0 f k (x / 2) (n + 1) hlt (by omega) (by omega), Nat.add_assoc]
theorem ref_bits_some {x k : Nat} (h : x < 2 ^ 64) (hk : 65 ≤ k) : earshotref03_Bits.f k (x : Int) = some ((Lib.bitLen x : Nat) : Int) := by
  unfold earshotref03_Bits.f Lib.bitLen
  have := ref_bits_l0 64 k x 0 h (by omega) (by omega)
  rw [Nat.zero_add] at this
  exact this
theorem ref_log_l0 : ∀ (j k m : Nat) (b : Int), 2147483648 ≤ m * 2 ^ j → (j = 0 ∨ m * 2 ^ j < 4294967296) → earshotref03_Log.l0 (k + j + 1) b (m : Int) = earshotref03_Log.l1 (k + 0) b ((m * 2 ^ j : Nat) : Int)
  | 0, k, m, b, h0, _ => by
    rw [Nat.pow_zero, Nat.mul_one] at h0 ⊢
    rw [earshotref03_Log.l0, if_neg (by omega)]; rfl
  | j + 1, k, m, b, h0, h1 => by
    have h1 : m * 2 ^ (j + 1) < 4294967296 := by rcases h1 with h | h; cases h; exact h
    have e : m * 2 ^ (j + 1) = (m * 2) * 2 ^ j := by rw [Nat.pow_succ, Nat.mul_assoc, Nat.mul_comm 2]
    have hp : 0 < 2 ^ j := Nat.two_pow_pos j
    rw [e] at h0 h1 ⊢
    have hm : m * 2 < 4294967296 := Nat.lt_of_le_of_lt (Nat.le_mul_of_pos_right _ hp) h1
    have e2 : IntKind.u64.wrap ((m : Int) * 2) = ((m * 2 : Nat) : Int) := by rw [IntKind.wrap_u64]; clear h0 h1 hp e; omega
    rw [← ref_log_l0 j k (m * 2) b h0 (Or.inr h1)]
    show earshotref03_Log.l0 ((k + j + 1) + 1) b (m : Int) = _
    rw [earshotref03_Log.l0, if_pos (by clear h0 h1 hp e; omega), e2]
theorem ref_log_l1 : ∀ (j k m : Nat) (b : Int), m < 2 ^ 64 → 2147483648 ≤ m / 2 ^ j → m / 2 ^ j < 4294967296 → earshotref03_Log.l1 (k + j + 1) b (m : Int) = earshotref03_Log.l2 (k + 0) b ((m / 2 ^ j : Nat) : Int) 0 0
  | 0, k, m, b, hm, h0, h1 => by
    rw [Nat.pow_zero, Nat.div_one] at h0 h1 ⊢
    rw [earshotref03_Log.l1, if_neg (by omega)]; rfl
  | j + 1, k, m, b, hm, h0, h1 => by
    have e : m / 2 ^ (j + 1) = (m / 2) / 2 ^ j := by rw [Nat.pow_succ, Nat.mul_comm, Nat.div_div_eq_div_mul]
    rw [e] at h0 h1 ⊢
    have hle : m / 2 / 2 ^ j ≤ m / 2 := Nat.div_le_self _ _
    have e2 : IntKind.u64.wrap (Int.tdiv (m : Int) 2) = ((m / 2 : Nat) : Int) := by
      rw [Int.tdiv_eq_ediv_of_nonneg (by omega), IntKind.wrap_u64]; clear h0 h1 e hle; omega
    rw [← ref_log_l1 j k (m / 2) b (by omega) h0 h1]
    show earshotref03_Log.l1 ((k + j + 1) + 1) b (m : Int) = _
    rw [earshotref03_Log.l1, if_pos (by omega), e2]
theorem lt8 {i : Nat} (h : i < 8) : (i : Int) < 8 := by omega
theorem sq_wrap {m : Nat} (h1 : m < 4294967296) : IntKind.u64.wrap ((m : Int) * (m : Int)) = ((m * m : Nat) : Int) := by
  have := Nat.mul_le_mul (show m ≤ 4294967295 by omega) (show m ≤ 4294967295 by omega)
  rw [← Int.natCast_mul, IntKind.wrap_u64]
  omega
theorem half_wrap {m : Nat} (h1 : m < 4294967296) : IntKind.u64.wrap (Int.tdiv ((m * m : Nat) : Int) 2147483648) = ((m * m / 2147483648 : Nat) : Int) := by
  have := Nat.mul_le_mul (show m ≤ 4294967295 by omega) (show m ≤ 4294967295 by omega)
  generalize m * m = z at *
  rw [Int.tdiv_eq_ediv_of_nonneg (by omega), IntKind.wrap_u64]; omega
theorem q_half {q : Nat} (h1 : q < 8589934592) : IntKind.u64.wrap (Int.tdiv ((q : Nat) : Int) 2) = ((q / 2 : Nat) : Int) := by
  rw [Int.tdiv_eq_ediv_of_nonneg (by omega), IntKind.wrap_u64]; omega
theorem ww_add {i : Nat} (h : i < 2 ^ 42) : wrap64 ((i : Int) + 1) = ((i + 1 : Nat) : Int) := by unfold wrap64; omega
theorem ww_mul {n : Nat} (h : n < 2 ^ 40) : wrap64 ((n : Int) * 2) = ((2 * n : Nat) : Int) := by unfold wrap64; omega
theorem ref_log_l2 : ∀ (j k m n i l : Nat), i + j = 8 → l ≤ 63 → 2147483648 ≤ m → m < 4294967296 → n < 2 ^ (32 + i) → earshotref03_Log.l2 (k + j + 1) (l : Int) (m : Int) (n : Int) (i : Int) = some ((256 * l + (n * 2 ^ j + dD j m) : Nat) : Int)
  | 0, k, m, n, i, l, hi, hl, h0, h1, hn => by
    have hn40 : n < 2 ^ 40 := Nat.lt_of_lt_of_le hn (Nat.pow_le_pow_right (by decide) (by omega))
    clear hn
    rw [earshotref03_Log.l2, if_neg (by omega), dD, Nat.pow_zero, Nat.mul_one]
    congr 1
    unfold wrap64
    omega
  | j + 1, k, m, n, i, l, hi, hl, h0, h1, hn => by
    have hn40 : n < 2 ^ 40 := Nat.lt_of_lt_of_le hn (Nat.pow_le_pow_right (by decide) (by omega))
    have hn2 : ∀ d, d < 2 → 2 * n + d < 2 ^ (32 + (i + 1)) := by
      intro d hd
      rw [show 32 + (i + 1) = (32 + i) + 1 from rfl, Nat.pow_succ]
      generalize 2 ^ (32 + i) = P at hn
      omega
    have hd : dD (j + 1) m = (m * m / 2147483648 / 4294967296) * 2 ^ j + dD j (m * m / 2147483648 / 2 ^ (m * m / 2147483648 / 4294967296)) := rfl
    show earshotref03_Log.l2 ((k + j + 1) + 1) (l : Int) (m : Int) (n : Int) (i : Int) = _
    rw [hd, earshotref03_Log.l2, if_pos (lt8 (by omega)), sq_wrap h1, half_wrap h1, ww_add (by omega), ww_mul hn40, ww_add (by clear hn hn2; omega)]
    obtain ⟨s0, s1⟩ := sq_range h0 h1
    obtain ⟨a, b, c⟩ := next_range h0 h1
    clear hn hd
    generalize m * m / 2147483648 = q at *
    have hij : i + 1 + j = 8 := by omega
    by_cases hc : q / 4294967296 = 1
    · rw [hc, Nat.pow_one] at a b
      have ih := ref_log_l2 j k _ _ (i + 1) l hij hl a b (hn2 1 (by decide))
      clear hn2 a b
      rw [if_pos (by omega), q_half s1, ih, hc, Nat.pow_one, Nat.one_mul, Nat.pow_succ]
      congr 2
      generalize dD j _ = e
      rw [Nat.add_mul, Nat.one_mul, Nat.mul_comm 2 n, Nat.mul_assoc n 2, Nat.mul_comm 2 (2 ^ j), Nat.add_assoc]
    · have hc : q / 4294967296 = 0 := by clear hn2 a b; omega
      rw [hc, Nat.pow_zero, Nat.div_one] at a b
      have ih := ref_log_l2 j k _ _ (i + 1) l hij hl a b (hn2 0 (by decide))
      clear hn2 a b
      rw [if_neg (by omega), show ((2 * n : Nat) : Int) = ((2 * n + 0 : Nat) : Int) from rfl, ih, hc, Nat.pow_zero, Nat.div_one, Nat.zero_mul, Nat.pow_succ]
      congr 2
      generalize dD j _ = e
      rw [Nat.add_zero, Nat.mul_comm 2 n, Nat.mul_assoc n 2, Nat.mul_comm 2 (2 ^ j), Nat.zero_add]
theorem ref_log_some {x : Nat} (h : x < 2 ^ 64) : earshotref03_Log.f 110 (x : Int) = some ((logN x : Nat) : Int) := by
  by_cases h0 : x = 0
  · subst h0; rfl
  · obtain ⟨a, b, c, d⟩ := bl_spec h h0
    unfold earshotref03_Log.f logN
    rw [if_neg (by omega), ref_bits_some h (by decide), bsome, if_neg h0]
    obtain ⟨l, hl⟩ : ∃ l, Lib.bitLen x - 1 = l := ⟨_, rfl⟩
    have e1 : wrap64 (((Lib.bitLen x : Nat) : Int) - 1) = (l : Int) := by unfold wrap64; omega
    have hl63 : l ≤ 63 := by omega
    rw [e1]
    rw [hl] at c d ⊢
    obtain ⟨m0, m1⟩ := mant_range (b := l) hl63 c d
    by_cases h31 : l ≤ 31
    · have em : mant l x = x * 2 ^ (31 - l) := by
        unfold mant
        rw [show 63 - l = (31 - l) + 32 by omega, Nat.pow_add, ← Nat.mul_assoc]
        exact Nat.mul_div_cancel _ (by decide)
      have := ref_log_l0 (31 - l) (109 - (31 - l)) x (l : Int) (by rw [← em]; exact m0) (Or.inr (by rw [← em]; exact m1))
      rw [show 109 - (31 - l) + (31 - l) + 1 = 110 by omega, ← em] at this
      rw [this]
      have := ref_log_l1 0 (109 - (31 - l) - 1) (mant l x) (l : Int) (by omega) (by rw [Nat.pow_zero, Nat.div_one]; exact m0) (by rw [Nat.pow_zero, Nat.div_one]; exact m1)
      rw [show 109 - (31 - l) - 1 + 0 + 1 = 109 - (31 - l) + 0 by omega, Nat.pow_zero, Nat.div_one] at this
      rw [this]
      have := ref_log_l2 8 (109 - (31 - l) - 1 - 9) (mant l x) 0 0 l rfl hl63 m0 m1 (by decide)
      rw [show 109 - (31 - l) - 1 - 9 + 8 + 1 = 109 - (31 - l) - 1 + 0 by omega] at this
      rw [show (0 : Int) = ((0 : Nat) : Int) from rfl, this, Nat.zero_mul, Nat.zero_add]
    · have em : mant l x = x / 2 ^ (l - 31) := by
        unfold mant
        have e : (4294967296 : Nat) = 2 ^ (l - 31) * 2 ^ (63 - l) := by rw [← Nat.pow_add, show l - 31 + (63 - l) = 32 by omega]
        rw [e, Nat.mul_div_mul_right _ _ (Nat.two_pow_pos _)]
      have hx : 2147483648 ≤ x := Nat.le_trans (show 2 ^ 31 ≤ 2 ^ l from Nat.pow_le_pow_right (by decide) (by omega)) c
      have := ref_log_l0 0 109 x (l : Int) (by rw [Nat.pow_zero, Nat.mul_one]; exact hx) (Or.inl rfl)
      rw [Nat.pow_zero, Nat.mul_one] at this
      rw [this]
      have := ref_log_l1 (l - 31) (108 - (l - 31)) x (l : Int) h (by rw [← em]; exact m0) (by rw [← em]; exact m1)
      rw [show 108 - (l - 31) + (l - 31) + 1 = 109 + 0 by omega, ← em] at this
      rw [this]
      have := ref_log_l2 8 (108 - (l - 31) - 9) (mant l x) 0 0 l rfl hl63 m0 m1 (by decide)
      rw [show 108 - (l - 31) - 9 + 8 + 1 = 108 - (l - 31) + 0 by omega] at this
      rw [show (0 : Int) = ((0 : Nat) : Int) from rfl, this, Nat.zero_mul, Nat.zero_add]
theorem ref_root_l0 (x : Nat) : ∀ (j k r : Nat), r + 2 ^ j ≤ 4294967296 → earshotref03_Root.l0 (k + j + 1) (x : Int) (r : Int) ((r + 2 ^ j : Nat) : Int) = some ((rt x j r : Nat) : Int)
  | 0, k, r, h => by
    rw [Nat.pow_zero] at h ⊢
    have e : IntKind.u64.wrap (((r + 1 : Nat) : Int) - (r : Int)) = 1 := by rw [IntKind.wrap_u64]; omega
    rw [earshotref03_Root.l0, e, if_neg (by decide), rt]
    congr 1
    unfold wrap64
    omega
  | j + 1, k, r, h => by
    rw [Nat.pow_succ] at h ⊢
    rw [rt]
    have hp : 0 < 2 ^ j := Nat.two_pow_pos j
    obtain ⟨p, hpe⟩ : ∃ p, 2 ^ j = p := ⟨_, rfl⟩
    have ih1 := ref_root_l0 x j k r
    have ih2 := ref_root_l0 x j k (r + 2 ^ j)
    rw [hpe] at ih1 ih2 hp h ⊢
    have e1 : IntKind.u64.wrap (((r + p * 2 : Nat) : Int) - (r : Int)) = ((p * 2 : Nat) : Int) := by rw [IntKind.wrap_u64]; omega
    have e2 : IntKind.u64.wrap (Int.tdiv (IntKind.u64.wrap ((r : Int) + ((r + p * 2 : Nat) : Int))) 2) = ((r + p : Nat) : Int) := by
      have : IntKind.u64.wrap ((r : Int) + ((r + p * 2 : Nat) : Int)) = (r : Int) + ((r + p * 2 : Nat) : Int) := by rw [IntKind.wrap_u64]; omega
      rw [this, Int.tdiv_eq_ediv_of_nonneg (by omega), IntKind.wrap_u64]; omega
    have e3 : IntKind.u64.wrap (((r + p : Nat) : Int) * ((r + p : Nat) : Int)) = (((r + p) * (r + p) : Nat) : Int) := by
      have := Nat.mul_le_mul (show r + p ≤ 4294967295 by omega) (show r + p ≤ 4294967295 by omega)
      rw [← Int.natCast_mul, IntKind.wrap_u64]
      omega
    show earshotref03_Root.l0 ((k + j + 1) + 1) (x : Int) (r : Int) _ = _
    rw [earshotref03_Root.l0, e1, if_pos (by omega), e2, e3]
    by_cases hc : (r + p) * (r + p) > x
    · rw [if_neg (by omega), if_pos hc, ih1 (by omega)]
    · rw [if_pos (by omega), if_neg hc, ← ih2 (by omega)]
      congr 2
      omega
theorem ref_root_some {x : Nat} : earshotref03_Root.f 110 (x : Int) = some ((rt x 32 0 : Nat) : Int) := by
  have := ref_root_l0 x 32 77 0 (by decide)
  exact this
theorem bl_le {x n : Nat} (hx : x < 2 ^ 64) (h : Lib.bitLen x ≤ n) : x < 2 ^ n := by
  have := (bla_spec 64 x hx).1
  exact Nat.lt_of_lt_of_le this (Nat.pow_le_pow_right (by decide) h)
theorem bl_of_lt {x n : Nat} (hx : x < 2 ^ 64) (h : x < 2 ^ n) : Lib.bitLen x ≤ n := by
  by_cases h0 : x = 0
  · subst h0; rw [bl_zero]; exact Nat.zero_le _
  · obtain ⟨a, b, c, d⟩ := bl_spec hx h0
    have := (Nat.pow_lt_pow_iff_right (a := 2) (by decide)).1 (Nat.lt_of_le_of_lt c h)
    omega
theorem bl_le_of_le {x y : Nat} (h : x ≤ y) (hy : y < 2 ^ 64) : Lib.bitLen x ≤ Lib.bitLen y :=
  bl_of_lt (by omega) (Nat.lt_of_le_of_lt h (bl_le hy (Nat.le_refl _)))
theorem bl_or {a b : Nat} (ha : a < 2 ^ 64) (hb : b < 2 ^ 64) : Lib.bitLen (a ||| b) = if Lib.bitLen b > Lib.bitLen a then Lib.bitLen b else Lib.bitLen a := by
  have hab : a ||| b < 2 ^ 64 := Nat.or_lt_two_pow ha hb
  have l1 := bl_le_of_le (show a ≤ a ||| b from Nat.left_le_or) hab
  have l2 := bl_le_of_le (show b ≤ a ||| b from Nat.right_le_or) hab
  have up : ∀ n, Lib.bitLen a ≤ n → Lib.bitLen b ≤ n → Lib.bitLen (a ||| b) ≤ n := fun n h1 h2 =>
    bl_of_lt hab (Nat.or_lt_two_pow (bl_le ha h1) (bl_le hb h2))
  split
  · have := up (Lib.bitLen b) (by omega) (Nat.le_refl _); omega
  · have := up (Lib.bitLen a) (Nat.le_refl _) (by omega); omega
theorem bl_64 {x : Nat} (h : x < 2 ^ 64) : Lib.bitLen x ≤ 64 := bl_of_lt h h
theorem size_some {x : Int} (h0 : -9223372036854775808 ≤ x) (h1 : x < 9223372036854775808) : earshotref03_size.f x = some ((x.natAbs : Nat) : Int) := by
  unfold earshotref03_size.f
  split
  · congr 1
    rw [IntKind.wrap_u64, IntKind.wrap_u64]; unfold wrap64; omega
  · congr 1
    rw [IntKind.wrap_u64]; omega
theorem norm_l0 (l : List Int) (hl : l.length ≤ 40) (hw : ∀ x ∈ l, -9223372036854775808 ≤ x ∧ x < 9223372036854775808) : ∀ (j k1 k2 i acc : Nat), i + j = l.length → acc < 2 ^ 64 → j < k1 → j + 65 < k2 →
    ∃ v, v < 2 ^ 64 ∧ logs_Norm.l0 k1 (acc : Int) l (l.length : Int) (i : Int) = some ((Lib.bitLen v : Nat) : Int) ∧ earshotref03_Norm.l0 k2 l ((Lib.bitLen acc : Nat) : Int) (i : Int) = some ((Lib.bitLen v : Nat) : Int)
  | 0, k1, k2, i, acc, hi, ha, hk1, hk2 => by
    obtain ⟨k1, rfl⟩ : ∃ k', k1 = k' + 1 := ⟨k1 - 1, by omega⟩
    obtain ⟨k2, rfl⟩ : ∃ k', k2 = k' + 1 := ⟨k2 - 1, by omega⟩
    refine ⟨acc, ha, ?_, ?_⟩
    · rw [logs_Norm.l0, if_neg (by omega), bits_some ha, bsome]
    · rw [earshotref03_Norm.l0, if_neg (by omega)]
  | j + 1, k1, k2, i, acc, hi, ha, hk1, hk2 => by
    obtain ⟨k1, rfl⟩ : ∃ k', k1 = k' + 1 := ⟨k1 - 1, by omega⟩
    obtain ⟨k2, rfl⟩ : ∃ k', k2 = k' + 1 := ⟨k2 - 1, by omega⟩
    have hr : rd l (i : Int) = l[i]'(by omega) := by
      unfold rd
      rw [Int.toNat_natCast, List.getD_eq_getElem?_getD, List.getElem?_eq_getElem (by omega), Option.getD_some]
    obtain ⟨w0, w1⟩ := hw _ (List.getElem_mem (show i < l.length by omega))
    rw [← hr] at w0 w1
    have hx64 : (rd l (i : Int)).natAbs < 2 ^ 64 := by omega
    have e1 : wrap64 ((i : Int) + 1) = ((i + 1 : Nat) : Int) := by unfold wrap64; omega
    obtain ⟨v, hv, hv1, hv2⟩ := norm_l0 l hl hw j k1 k2 (i + 1) (acc ||| (rd l (i : Int)).natAbs) (by omega) (Nat.or_lt_two_pow ha hx64) (by omega) (by omega)
    refine ⟨v, hv, ?_, ?_⟩
    · rw [logs_Norm.l0, if_pos (by omega), if_pos (by omega), if_pos (by omega), e1, ← hv1, ← u64_or_nat acc _ ha hx64]
      split
      · have : IntKind.u64.wrap (wrap64 (-(rd l (i : Int)))) = (((rd l (i : Int)).natAbs : Nat) : Int) := by rw [IntKind.wrap_u64]; unfold wrap64; omega
        rw [this]
      · have : IntKind.u64.wrap (rd l (i : Int)) = (((rd l (i : Int)).natAbs : Nat) : Int) := by rw [IntKind.wrap_u64]; omega
        rw [this]
    · rw [earshotref03_Norm.l0, if_pos (by omega), if_pos (by omega), size_some w0 w1, bsome, ref_bits_some hx64 (by omega), bsome, e1, ← hv2, bl_or ha hx64]
      by_cases hc : Lib.bitLen (rd l (i : Int)).natAbs > Lib.bitLen acc
      · rw [if_pos hc, if_pos (by omega)]
      · rw [if_neg hc, if_neg (by omega)]
theorem norm_both (l : List Int) (hl : l.length ≤ 40) (hw : ∀ x ∈ l, -9223372036854775808 ≤ x ∧ x < 9223372036854775808) : ∃ v : Int, logs_Norm.f 110 l = some v ∧ earshotref03_Norm.f 110 l = some v := by
  obtain ⟨v, _, h1, h2⟩ := norm_l0 l hl hw l.length 110 110 0 0 (by omega) (by decide) (by omega) (by omega)
  exact ⟨_, h1, by rw [bl_zero] at h2; exact h2⟩
theorem wf_i64 {x : Int} (h : (Lit.int .i64 x).wf = true) : -9223372036854775808 ≤ x ∧ x < 9223372036854775808 := by
  simp [Lit.wf, IntKind.wrap, IntKind.bits, IntKind.signed] at h
  have h1 : IntKind.i64.min = -9223372036854775808 := rfl
  have h2 : IntKind.i64.max = 9223372036854775807 := rfl
  rw [h1] at h
  omega
theorem LogsTell : earshotlaw03_LogsTell.Pure := by
  intro a0 l1 h0 _ _ hw
  obtain ⟨x0, x1⟩ := wf_u64 h0
  obtain ⟨x, rfl⟩ := Int.eq_ofNat_of_zero_le x0
  have hx : x < 2 ^ 64 := by omega
  have hw : ∀ x ∈ l1, -9223372036854775808 ≤ x ∧ x < 9223372036854775808 := fun x hx => wf_i64 (hw x hx)
  refine ⟨110, ?_⟩
  unfold earshotlaw03_LogsTell.f
  rw [awake_true 110 (by decide), bsome]
  have hb : logs_Bits.f (x : Int) = some ((Lib.bitLen x : Nat) : Int) := bits_some hx
  have hb' := ref_bits_some hx (show 65 ≤ 110 by decide)
  have hg := log_some hx (show 9 ≤ 110 by decide)
  have hg' := ref_log_some hx
  have hr := root_some hx
  have hr' := ref_root_some (x := x)
  by_cases hc : (l1.length : Int) > 40
  · obtain ⟨v, hv1, hv2⟩ := norm_both (l1.take 40) (by rw [List.length_take]; omega) (fun y hy => hw y (List.mem_of_mem_take hy))
    rw [if_pos hc, if_pos (by omega), if_pos rfl, hb, bsome, hb', bsome, if_pos rfl, hg, bsome, hg', bsome, if_pos rfl, hr, bsome, hr', bsome, if_pos rfl, hv1, bsome, hv2, bsome, beq_self_eq_true]
  · obtain ⟨v, hv1, hv2⟩ := norm_both l1 (by omega) hw
    rw [if_neg hc, if_pos rfl, hb, bsome, hb', bsome, if_pos rfl, hg, bsome, hg', bsome, if_pos rfl, hr, bsome, hr', bsome, if_pos rfl, hv1, bsome, hv2, bsome, beq_self_eq_true]
end Go.Proofs.Yteihjdpbahfnnaa.Pure
