-- Written by a program of this work (wip/tools) for this claim; Lean checks it.
import Derived.Test.YtmhacdnnnebpdaaDoorPFrontStreamx6
namespace Go.Proofs.YtmhacdnnnebpdaaDoor.PFrontStream
open Go.RowKit Go.Proofs.YtmhacdnnnebpdaaDoorW.PrintWords Go.Proofs.YtmhacdnnnebpdaaDoorW.PrintLast Go.Proofs.YtmhacdnnnebpdaaDoorW.PrintMore
attribute [local go_sem] max2_int min2_int max_two min_two max_three min_three max_four min_four   -- for this text's walks alone
set_option linter.unusedVariables false
set_option linter.unusedSimpArgs false
def dD : Nat → Nat → Nat
 | 0, _ => 0
 | k + 1, m => (m * m / 2147483648 / 4294967296) * 2 ^ k + dD k (m * m / 2147483648 / 2 ^ (m * m / 2147483648 / 4294967296))
theorem sq_range {m : Nat} (h0 : 2147483648 ≤ m) (h1 : m < 4294967296) : 2147483648 ≤ m * m / 2147483648 ∧ m * m / 2147483648 < 8589934592 := by
 have a : 2147483648 * 2147483648 ≤ m * m := Nat.mul_le_mul h0 h0
 have b : m * m ≤ 4294967295 * 4294967295 := Nat.mul_le_mul (by omega) (by omega)
 omega
theorem next_range {m : Nat} (h0 : 2147483648 ≤ m) (h1 : m < 4294967296) : 2147483648 ≤ m * m / 2147483648 / 2 ^ (m * m / 2147483648 / 4294967296) ∧ m * m / 2147483648 / 2 ^ (m * m / 2147483648 / 4294967296) < 4294967296 ∧ m * m / 2147483648 / 4294967296 < 2 := by
 obtain ⟨a, b⟩ := sq_range h0 h1
 generalize m * m / 2147483648 = q at *
 have h : q / 4294967296 = 0 ∨ q / 4294967296 = 1 := by omega
 rcases h with h | h
 · rw [h]; omega
 · rw [h]; omega
theorem dD_lt : ∀ (k : Nat) {m : Nat}, 2147483648 ≤ m → m < 4294967296 → dD k m < 2 ^ k
 | 0, _, _, _ => by simp [dD]
 | k + 1, m, h0, h1 => by
   obtain ⟨a, b, c⟩ := next_range h0 h1
   have ih := dD_lt k a b
   simp only [dD]
   generalize m * m / 2147483648 / 4294967296 = d at *
   generalize dD k _ = e at *
   have hd : d = 0 ∨ d = 1 := by omega
   rw [Nat.pow_succ]
   rcases hd with rfl | rfl <;> omega
theorem dD_mono : ∀ (k : Nat) {m n : Nat}, 2147483648 ≤ m → m ≤ n → n < 4294967296 → dD k m ≤ dD k n
 | 0, _, _, _, _, _ => Nat.le_refl _
 | k + 1, m, n, h0, h, h1 => by
   obtain ⟨a, b, c⟩ := next_range h0 (by omega)
   obtain ⟨a2, b2, c2⟩ := next_range (m := n) (by omega) h1
   have hq : m * m / 2147483648 ≤ n * n / 2147483648 := Nat.div_le_div_right (Nat.mul_le_mul h h)
   have lt := dD_lt k a b
   simp only [dD]
   by_cases he : m * m / 2147483648 / 4294967296 = n * n / 2147483648 / 4294967296
   ·
    have ih := dD_mono k a (by rw [he]; exact Nat.div_le_div_right hq) b2
    rw [he] at ih ⊢
    omega
   ·
    have hlt : m * m / 2147483648 / 4294967296 ≤ n * n / 2147483648 / 4294967296 := Nat.div_le_div_right hq
    have e1 : m * m / 2147483648 / 4294967296 = 0 := by omega
    have e2 : n * n / 2147483648 / 4294967296 = 1 := by omega
    have l1 := lt
    rw [e1] at l1 ⊢
    rw [e2]
    omega
def mant (b x : Nat) : Nat := x * 2 ^ (63 - b) / 4294967296
theorem mant_range {b x : Nat} (hb : b ≤ 63) (h0 : 2 ^ b ≤ x) (h1 : x < 2 ^ (b + 1)) : 2147483648 ≤ mant b x ∧ mant b x < 4294967296 := by
 unfold mant
 have e : 2 ^ b * 2 ^ (63 - b) = 9223372036854775808 := by rw [← Nat.pow_add, show b + (63 - b) = 63 by omega]
 have p : 0 < 2 ^ (63 - b) := Nat.two_pow_pos _
 have a1 : 2 ^ b * 2 ^ (63 - b) ≤ x * 2 ^ (63 - b) := Nat.mul_le_mul_right _ h0
 have a2 : x * 2 ^ (63 - b) < 2 ^ (b + 1) * 2 ^ (63 - b) := Nat.mul_lt_mul_of_pos_right h1 p
 rw [Nat.pow_succ, Nat.mul_right_comm, e] at a2
 rw [e] at a1
 omega
theorem mant_mono {b x y : Nat} (h : x ≤ y) : mant b x ≤ mant b y := Nat.div_le_div_right (Nat.mul_le_mul_right _ h)
def logN (x : Nat) : Nat := if x = 0 then 0 else 256 * (Lib.bitLen x - 1) + dD 8 (mant (Lib.bitLen x - 1) x)
theorem or_digit (n d : Nat) (hn : n < 2 ^ 40) (hd : d < 2) : Go.bits .or .i64 (wrap64 ((n : Int) * 2)) (wrap64 (d : Int)) = ((2 * n + d : Nat) : Int) := by
 have e1 : wrap64 ((n : Int) * 2) = ((2 * n : Nat) : Int) := by unfold wrap64; omega
 have e2 : wrap64 (d : Int) = (d : Int) := by unfold wrap64; omega
 have hj := (bits_nat .i64 62 (by decide) (by intro n h0 h1; rw [IntKind.wrap_i64]; omega) (2 * n) d (by omega) (by omega)).2
 rw [e1, e2, hj]
 congr 1
 have := Nat.two_pow_add_eq_or_of_lt (i := 1) (b := d) (by omega) n
 rw [Nat.pow_one] at this
 exact this.symm
theorem shr_digit (q d : Nat) (hd : d < 2) : shr .u64 (q : Int) (d : Int) = ((q / 2 ^ d : Nat) : Int) := by
 unfold shr
 have h : d = 0 ∨ d = 1 := by omega
 rcases h with rfl | rfl
 · simp
 · rfl
theorem l0_spec : ∀ (j k m n i : Nat), i + j = 8 → j < k → 2147483648 ≤ m → m < 4294967296 → n < 2 ^ (32 + i) → logs_Log.l0 k (m : Int) (n : Int) (i : Int) = some ((n * 2 ^ j + dD j m : Nat) : Int)
 | 0, k, m, n, i, hi, hk, _, _, _ => by
   obtain ⟨k, rfl⟩ : ∃ k', k = k' + 1 := ⟨k - 1, by omega⟩
   simp only [logs_Log.l0]
   rw [if_neg (by omega)]
   simp [dD]
 | j + 1, k, m, n, i, hi, hk, h0, h1, hn => by
   obtain ⟨k, rfl⟩ : ∃ k', k = k' + 1 := ⟨k - 1, by omega⟩
   obtain ⟨a, b, c⟩ := next_range h0 h1
   have hsq : IntKind.u64.wrap ((m : Int) * (m : Int)) = ((m * m : Nat) : Int) := by
    have := Nat.mul_le_mul (show m ≤ 4294967295 by omega) (show m ≤ 4294967295 by omega)
    rw [← Int.natCast_mul, IntKind.wrap_u64]
    omega
   have e2 : ((m * m : Nat) : Int) / 2147483648 = ((m * m / 2147483648 : Nat) : Int) := by omega
   have e3 : ((m * m / 2147483648 : Nat) : Int) / 4294967296 = ((m * m / 2147483648 / 4294967296 : Nat) : Int) := by omega
   have hi8 : i ≤ 8 := by omega
   have hn2 : ∀ d, d < 2 → 2 * n + d < 2 ^ (32 + (i + 1)) := by
    intro d hd
    rw [show 32 + (i + 1) = (32 + i) + 1 from rfl, Nat.pow_succ]
    generalize 2 ^ (32 + i) = P at hn
    omega
   have hn40 : n < 2 ^ 40 := Nat.lt_of_lt_of_le hn (Nat.pow_le_pow_right (by decide) (Nat.add_le_add_left hi8 32))
   clear hn
   have c8 : (i : Int) < 8 := by clear hn40 hn2; omega
   have cd : (0 : Int) ≤ ((m * m / 2147483648 / 4294967296 : Nat) : Int) := Int.natCast_nonneg _
   have e4 : wrap64 ((i : Int) + 1) = ((i + 1 : Nat) : Int) := by clear hn40 hn2; unfold wrap64; omega
   simp only [logs_Log.l0]
   rw [if_pos c8, hsq, e2, e3, if_pos cd, or_digit n _ hn40 c, shr_digit _ _ c, e4]
   have hij : i + 1 + j = 8 := by clear hn40 hn2; omega
   have hjk : j < k := by clear hn40 hn2; omega
   rw [l0_spec j k _ _ (i + 1) hij hjk a b (hn2 _ c)]
   congr 2
   rw [show dD (j + 1) m = (m * m / 2147483648 / 4294967296) * 2 ^ j + dD j (m * m / 2147483648 / 2 ^ (m * m / 2147483648 / 4294967296)) from rfl, Nat.pow_succ]
   generalize m * m / 2147483648 / 4294967296 = d
   generalize dD j _ = e
   rw [Nat.add_mul, ← Nat.add_assoc, Nat.mul_comm 2 n, Nat.mul_assoc, Nat.mul_comm 2 (2 ^ j)]
theorem log_some {x k : Nat} (h : x < 2 ^ 64) (hk : 9 ≤ k) : logs_Log.f k (x : Int) = some ((logN x : Nat) : Int) := by
 by_cases h0 : x = 0
 · subst h0; rfl
 ·
  obtain ⟨a, b, c, d⟩ := bl_spec h h0
  unfold logs_Log.f
  rw [if_neg (by omega), bits_some h, bsome]
  obtain ⟨l, hl⟩ : ∃ l, Lib.bitLen x - 1 = l := ⟨_, rfl⟩
  have e1 : wrap64 (((Lib.bitLen x : Nat) : Int) - 1) = (l : Int) := by unfold wrap64; omega
  have e2 : wrap64 (63 - (l : Int)) = ((63 - l : Nat) : Int) := by unfold wrap64; omega
  have e3 : shl .u64 (x : Int) ((63 - l : Nat) : Int) = ((x * 2 ^ (63 - l) : Nat) : Int) := by
   unfold shl
   have hmin : min ((63 - l : Nat) : Int).toNat IntKind.u64.bits = 63 - l := by
    rw [Int.toNat_natCast]
    exact Nat.min_eq_left (by simp [IntKind.bits]; omega)
   have hlt : x * 2 ^ (63 - l) < 18446744073709551616 := by
    rw [hl] at d
    have := Nat.mul_lt_mul_of_pos_right d (Nat.two_pow_pos (63 - l))
    rw [← Nat.pow_add, show l + 1 + (63 - l) = 64 by omega] at this
    exact this
   rw [hmin, show (2 : Int) ^ (63 - l) = ((2 ^ (63 - l) : Nat) : Int) by simp, ← Int.natCast_mul, IntKind.wrap_u64]
   omega
  rw [e1, e2, if_pos (by omega), e3]
  have e4 : ((x * 2 ^ (63 - l) : Nat) : Int) / 4294967296 = ((mant l x : Nat) : Int) := by unfold mant; omega
  rw [e4]
  rw [hl] at c d
  obtain ⟨m0, m1⟩ := mant_range (b := l) (by omega) c d
  rw [show (0 : Int) = ((0 : Nat) : Int) from rfl, l0_spec 8 k _ _ 0 rfl (by omega) m0 m1 (by omega)]
  unfold logN
  rw [if_neg h0, hl, Nat.mul_comm]
theorem logN_mono {x y : Nat} (h : x ≤ y) (hy : y < 2 ^ 64) : logN x ≤ logN y := by
 by_cases h0 : x = 0
 · subst h0; simp [logN]
 ·
  obtain ⟨a, b, c, d⟩ := bl_spec (x := x) (by omega) h0
  obtain ⟨a2, b2, c2, d2⟩ := bl_spec hy (by omega)
  have hp63 : Lib.bitLen x - 1 ≤ 63 := by omega
  have hq63 : Lib.bitLen y - 1 ≤ 63 := by omega
  unfold logN
  rw [if_neg h0, if_neg (by omega)]
  generalize Lib.bitLen x - 1 = p at *
  generalize Lib.bitLen y - 1 = q at *
  obtain ⟨m0, m1⟩ := mant_range (b := p) hp63 c d
  obtain ⟨n0, n1⟩ := mant_range (b := q) hq63 c2 d2
  have hpq : p < q + 1 := (Nat.pow_lt_pow_iff_right (a := 2) (by decide)).1 (Nat.lt_of_le_of_lt (Nat.le_trans c h) d2)
  have l1 := dD_lt 8 m0 m1
  by_cases e : p = q
  ·
   subst e
   have := dD_mono 8 m0 (mant_mono (b := p) h) n1
   omega
  · omega
def logV (x : Int) : Int := ((logN ((if x < 0 then 0 else x).toNat + 1) : Nat) : Int)
def logsL (l : List Int) : List Int := l.map logV
theorem logsL_length (l : List Int) : (logsL l).length = l.length := by simp [logsL]
theorem logsL_getD (l : List Int) (i : Nat) (h : i < l.length) : (logsL l).getD i 0 = logV (l.getD i 0) := by
 simp [logsL, List.getD_eq_getElem?_getD, List.getElem?_map, List.getElem?_eq_getElem h]
theorem logV_arg {x : Int} (h0 : -9223372036854775808 ≤ x) (h1 : x ≤ 9223372036854775807) : IntKind.u64.wrap (IntKind.u64.wrap (mx x 0) + 1) = (((if x < 0 then 0 else x).toNat + 1 : Nat) : Int) ∧ (if x < 0 then 0 else x).toNat + 1 < 2 ^ 64 := by
 have e : mx x 0 = if x < 0 then 0 else x := by unfold mx; (first | rfl | (split <;> split <;> omega))
 rw [e, IntKind.wrap_u64, IntKind.wrap_u64]
 split <;> omega
theorem dlogs_l0 (l : List Int) (hw : In64 l) (hl : l.length ≤ 1000) : ∀ e k i (out : List Int), i + e = l.length → e + 12 ≤ k → out.length = l.length → (∀ j, j < i → out.getD j 0 = logV (l.getD j 0)) →
  dct_Logs.l0 k out l (l.length : Int) (i : Int) = some (logsL l) := by
 intro e
 induction e with
 | zero =>
   intro k i out hi hk ho hd
   obtain ⟨k, rfl⟩ : ∃ j, k = j + 1 := ⟨k - 1, by omega⟩
   obtain rfl : i = l.length := by omega
   rw [dct_Logs.l0, if_neg (by omega)]
   congr 1
   exact row_ext (by rw [ho, logsL_length]) (fun j hj => by rw [ho] at hj; rw [hd j hj, logsL_getD l j hj])
 | succ e ih =>
   intro k i out hi hk ho hd
   obtain ⟨k, rfl⟩ : ∃ j, k = j + 1 := ⟨k - 1, by omega⟩
   have hlt : i < l.length := by omega
   have hk9 : 9 ≤ k := by omega
   have c1 : (i : Int) < (l.length : Int) := by omega
   have c2 : (0 : Int) ≤ (i : Int) := by omega
   have c3 : (i : Int) < (out.length : Int) := by rw [ho]; exact c1
   have hw1 : wrap64 ((i : Int) + 1) = ((i + 1 : Nat) : Int) := by unfold wrap64; omega
   have hx := hw.getD i
   have hx0 : -9223372036854775808 ≤ l.getD i 0 := by rw [← hx]; exact W_lo _
   have hx1 : l.getD i 0 ≤ 9223372036854775807 := by rw [← hx]; exact W_hi _
   have hgo := ih k (i + 1) (out.set i (logV (l.getD i 0))) (by omega) (by omega) (by rw [List.length_set, ho]) (fun j hj => by
    by_cases h : j = i
    · subst h; rw [List.getD_eq_getElem?_getD, List.getElem?_set_self (by omega)]; rfl
    ·
     have := hd j (by omega)
     rw [List.getD_eq_getElem?_getD] at this ⊢
     rw [List.getElem?_set_ne (fun h' => h h'.symm)]; exact this)
   obtain ⟨a1, a2⟩ := logV_arg hx0 hx1
   have hr : rd l (i : Int) = l.getD i 0 := by unfold rd; rw [Int.toNat_natCast]
   rw [dct_Logs.l0, if_pos c1, if_pos c2, if_pos c1, hr, a1, log_some a2 hk9, bsome, if_pos c3, Int.toNat_natCast, hw1]
   exact hgo
theorem dlogs_f (l : List Int) (hw : In64 l) (hl : l.length ≤ 1000) : dct_Logs.f 1100 l = some (logsL l) := by
 unfold dct_Logs.f
 rw [if_pos (by omega), if_pos (by omega), Int.toNat_natCast]
 exact dlogs_l0 l hw hl l.length 1100 0 (List.replicate l.length 0) (by omega) (by omega) (by simp) (fun j hj => by omega)
theorem logV_le {x : Int} (h0 : -9223372036854775808 ≤ x) (h1 : x ≤ 9223372036854775807) : 0 ≤ logV x ∧ logV x < 16384 ∧ (x ≤ 0 → logV x = 0) ∧ (0 < x → logV x ≠ 0) := by
 unfold logV
 have m63 : logN (2 ^ 63) = 16128 := by decide +kernel
 have m2 : logN 2 = 256 := by decide +kernel
 have m1 : logN 1 = 0 := by decide +kernel
 refine ⟨by omega, ?_, fun h => ?_, fun h => ?_⟩
 ·
  have hle : (if x < 0 then 0 else x).toNat + 1 ≤ 2 ^ 63 := by split <;> omega
  have := logN_mono hle (by decide)
  rw [m63] at this
  generalize logN ((if x < 0 then 0 else x).toNat + 1) = q at *
  omega
 ·
  have : (if x < 0 then 0 else x).toNat + 1 = 1 := by split <;> omega
  rw [this, m1]; rfl
 ·
  have h2 : 2 ≤ (if x < 0 then 0 else x).toNat + 1 := by split <;> omega
  have h3 : (if x < 0 then 0 else x).toNat + 1 < 2 ^ 64 := by split <;> omega
  have := logN_mono h2 h3
  rw [m2] at this
  generalize logN ((if x < 0 then 0 else x).toNat + 1) = q at *
  omega
def frameZ (s : Int) (ys : List Int) : List Int := (List.range s.toNat).map fun t => divR (ys.getD t 0 * (winList s).getD t 0) 16384
def frameB (s b : Int) (z : List Int) : List Int := bandsL (powL (binsF z).1 (binsF z).2.1) (edgesF (s / 2 + 1) b)
def frameA (x sh : Int) : Int := wrap64 (x + wrap64 (512 * sh))
def frameG (s b : Int) (z : List Int) : List Int := (List.range b.toNat).map fun m => frameA ((logsL (frameB s b z)).getD m 0) (binsF z).2.2
def frameL (s b c : Int) (ys : List Int) : List Int := dctF c (frameG s b (frameZ s ys))
def frameOk (s h b c p : Int) (ys : List Int) : Bool := rightB s h b c p && decide ((ys.length : Int) = s) && lvl ys
def frameF (s h b c p : Int) (ys : List Int) : List Int := if frameOk s h b c p ys = true then frameL s b c ys else []
theorem winList_in (s : Int) (t : Nat) : 0 ≤ (winList s).getD t 0 ∧ (winList s).getD t 0 ≤ 16384 := by
 have key : ∀ k t : Int, 0 ≤ winAt k t ∧ winAt k t ≤ 16384 := fun k t => by
  have h := cosAt_le (t * k % 64)
  unfold winAt
  rw [divR_14]
  omega
 have m : ∀ (N : Nat) (k : Int), 0 ≤ ((List.range N).map (fun t : Nat => winAt k (t : Int))).getD t 0 ∧ ((List.range N).map (fun t : Nat => winAt k (t : Int))).getD t 0 ≤ 16384 := fun N k => by
  by_cases h : t < N
  · rw [getD_map_range N (fun t : Nat => winAt k (t : Int)) t h]; exact key k t
  · rw [List.getD_eq_getElem?_getD, List.getElem?_eq_none (by simp; omega)]; exact ⟨by decide, by decide⟩
 unfold winList
 split
 · exact m 16 4
 ·
  split
  · exact m 32 2
  ·
   split
   · exact m 64 1
   · exact ⟨by simp, by simp⟩
theorem lvl_at {ys : List Int} (h : lvl ys = true) (t : Nat) : -65536 ≤ ys.getD t 0 ∧ ys.getD t 0 ≤ 65536 := by
 by_cases ht : t < ys.length
 ·
  have hx : ys.getD t 0 ∈ ys := by rw [List.getD_eq_getElem?_getD, List.getElem?_eq_getElem ht]; exact List.getElem_mem _
  unfold lvl at h
  rw [Bool.not_eq_true', List.any_eq_false] at h
  have := h _ hx
  unfold badLV at this
  rw [Bool.or_eq_true, decide_eq_true_eq, decide_eq_true_eq] at this
  omega
 · rw [List.getD_eq_getElem?_getD, List.getElem?_eq_none (by omega)]; exact ⟨by decide, by decide⟩
theorem prod_small {y z : Int} (hy : -65536 ≤ y ∧ y ≤ 65536) (hz : 0 ≤ z ∧ z ≤ 16384) : -1073741824 ≤ y * z ∧ y * z ≤ 1073741824 := by
 have h : (y * z).natAbs ≤ 65536 * 16384 := by rw [Int.natAbs_mul]; exact Nat.mul_le_mul (by omega) (by omega)
 omega
theorem frameZ_length (s : Int) (ys : List Int) : (frameZ s ys).length = s.toNat := by simp [frameZ]
theorem frameZ_at (s : Int) (ys : List Int) (t : Nat) (h : t < s.toNat) : (frameZ s ys).getD t 0 = divR (ys.getD t 0 * (winList s).getD t 0) 16384 := getD_map_range s.toNat (fun t => divR (ys.getD t 0 * (winList s).getD t 0) 16384) t h
theorem frameZ_in (s : Int) (ys : List Int) (h : lvl ys = true) : In64 (frameZ s ys) := by
 intro x hx
 simp only [frameZ, List.mem_map] at hx
 obtain ⟨t, _, rfl⟩ := hx
 have := prod_small (lvl_at h t) (winList_in s t)
 rw [divR_14]
 exact ⟨by omega, by omega⟩
theorem bandV_in (p : List Int) (a b c : Int) : -9223372036854775808 ≤ bandV p a b c ∧ bandV p a b c ≤ 9223372036854775807 := by
 have := bandS_in p a b c p.length
 unfold bandV
 omega
theorem bandsL_in (p e : List Int) : In64 (bandsL p e) := by
 intro x hx
 simp only [bandsL, List.mem_map] at hx
 obtain ⟨t, _, rfl⟩ := hx
 exact bandV_in _ _ _ _
theorem frameG_length (s b : Int) (z : List Int) : (frameG s b z).length = b.toNat := by simp [frameG]
theorem power_x (A0 A1 : Option Addr) (n c0 c1 : Nat) (a b : List Int) (w : World) (ha : a.length = n) (hb : b.length = n) (hn : n ≤ 1000) (hC : (Kd.int .i64).C w A0 n a) (hC1 : (Kd.int .i64).C w A1 n b) :
  Calls Tryd.prog 52 #[.slice A0 n c0, .slice A1 n c1] w fun e w' => ∃ B d, e = .returned (.slice B n d) ∧ n ≤ d ∧ Aside0 ((Kd.int .i64).C w' B n (powL a b)) ∧ Aside0 (Below w.heap.size w w') := by
 refine (power_go A0 A1 n c0 c1 a b w ha hb hn hC hC1).mono ?_
 rintro e w' ⟨v, rfl, hR, hB⟩
 have hl : (powL a b).length = n := by rw [powL_length (by rw [ha, hb]), ha]
 obtain ⟨B, d, rfl, h1, h2⟩ := Kd.R_reads hR
 rw [hl] at h1 h2 ⊢
 exact ⟨B, d, rfl, h1, ⟨h2⟩, ⟨hB⟩⟩
theorem edges_x (a b : Int) (m : Nat) (w : World) (hl : (edgesF a b).length = m) :
  Calls Tryd.prog 53 #[.int .i64 a, .int .i64 b] w fun e w' => ∃ B d, e = .returned (.slice B m d) ∧ m ≤ d ∧ Aside0 ((Kd.int .i64).C w' B m (edgesF a b)) ∧ Aside0 (Below w.heap.size w w') := by
 refine (mel_Edges.calls a b _ w rfl).mono ?_
 rintro e w' ⟨v, rfl, hR, hB⟩
 obtain ⟨B, d, rfl, h1, h2⟩ := Kd.R_reads hR
 rw [hl] at h1 h2 ⊢
 exact ⟨B, d, rfl, h1, ⟨h2⟩, ⟨hB⟩⟩
theorem bands_x (A0 A1 : Option Addr) (n c0 m c1 k : Nat) (p e : List Int) (w : World) (hl : p.length = n) (hC : (Kd.int .i64).C w A0 n p) (hc : n ≤ c0) (hn : n ≤ 1000000) (hl1 : e.length = m) (hC1 : (Kd.int .i64).C w A1 m e) (hc1 : m ≤ c1) (hm : m ≤ 1000000) (hk : m - 2 = k) :
  Calls Tryd.prog 51 #[.slice A0 n c0, .slice A1 m c1] w fun e_ w' => ∃ B d, e_ = .returned (.slice B k d) ∧ k ≤ d ∧ Aside0 ((Kd.int .i64).C w' B k (bandsL p e)) ∧ Aside0 (Below w.heap.size w w') := by
 subst hl; subst hl1
 refine (mel_Bands.calls A0 c0 p A1 c1 e _ w hC hc hC1 hc1 (by unfold mel_Bands.f; rw [decide_eq_true hn, decide_eq_true hm]; rfl)).mono ?_
 rintro e_ w' ⟨v, rfl, hR, hB⟩
 have hl : (bandsL p e).length = k := by rw [← hk]; simp [bandsL]
 obtain ⟨B, d, rfl, h1, h2⟩ := Kd.R_reads hR
 rw [hl] at h1 h2 ⊢
 exact ⟨B, d, rfl, h1, ⟨h2⟩, ⟨hB⟩⟩
theorem logs_x (A : Option Addr) (n c : Nat) (l : List Int) (w : World) (b : Nat) (hb : b ≤ w.heap.size) (hl : l.length = n) (hC : (Kd.int .i64).C w A n l) (hc : n ≤ c) (hn : n ≤ 1000) (hw : In64 l) (hp : 0 < n) :
  Calls Tryd.prog 17 #[.slice A n c] w fun e w' => ∃ g d, e = .returned (.slice (some ⟨g, 0, none⟩) n d) ∧ n ≤ d ∧ Aside0 (OwnT w' b g n d (logsL l)) ∧ Aside0 (Below w.heap.size w w') := by
 subst hl
 refine (dct_Logs.calls 1100 A c l _ w hC hc (dlogs_f l hw hn)).mono ?_
 rintro e w' ⟨v, rfl, hR, hB⟩
 have hl := logsL_length l
 obtain ⟨g, d, rfl, h1, h2, _⟩ := Kd.R_form hR (by omega)
 have h3 := (Kd.R_reads' hR).2.1
 have ho := own_of_RT (Kd.R_lower hR hb) hl
 rw [hl] at h3 ho ⊢
 exact ⟨g, d, rfl, h3, ⟨ho⟩, ⟨hB⟩⟩
theorem bins_x (N H1 : Nat) (c : Nat) (A : Option Addr) (l re im : List Int) (sh : Int) (w : World) (hG : GlobA w) (hl : l.length = N) (hC : (Kd.int .i64).C w A N l) (hin : In64 l) (hm : fftMay N = true) (hH : N / 2 + 1 = H1) (hnc : N ≤ c) (hB : binsF l = (re, im, sh)) :
  Calls Tryd.prog 50 #[.slice A N c] w fun e w' => ∃ A1 c1 A2 c2, e = .returned (.tuple #[.slice A1 H1 c1, .slice A2 H1 c2, .int .i64 sh]) ∧ H1 ≤ c1 ∧ H1 ≤ c2 ∧ Aside0 ((Kd.int .i64).C w' A1 H1 re) ∧ Aside0 ((Kd.int .i64).C w' A2 H1 im) ∧ Aside0 (Below w.heap.size w w') := by
 subst hl
 have hN : l.length ≤ 1000000 := by rcases fftMay_cases hm with h | h | h | h | h | h <;> omega
 refine (fft_Bins.calls A c l re im sh w hG hC hnc (by
  unfold fft_Bins.f
  rw [if_pos (by simp only [Bool.and_eq_true, decide_eq_true_eq, List.all_eq_true]; exact ⟨hN, fun x hx => hin x hx⟩), hB])).mono ?_
 rintro e w' ⟨v0, v1, rfl, h0, h1, hB2⟩
 have e1 : re = (binsF l).1 := by rw [hB]
 have e2 : im = (binsF l).2.1 := by rw [hB]
 have lr : re.length = H1 := by rw [e1, binsF, if_pos hm]; show (halfL _ _).length = _; rw [halfL, List.length_map, partsRe_length, hH]
 have li : im.length = H1 := by rw [e2, binsF, if_pos hm]; show (halfL _ _).length = _; rw [halfL, List.length_map, partsIm_length, hH]
 obtain ⟨A1, c1, rfl, k1, k2⟩ := Kd.R_reads h0
 obtain ⟨A2, c2, rfl, k3, k4⟩ := Kd.R_reads h1
 rw [lr] at k1 k2 ⊢
 rw [li] at k3 k4 ⊢
 exact ⟨A1, c1, A2, c2, rfl, k1, k3, ⟨k2⟩, ⟨k4⟩, ⟨hB2⟩⟩
theorem set_rowF {ys zs ts : List Int} {k n : Nat} {x : Int} (hy : ys.length = n) (hk : k < n) (hx : zs.getD k 0 = x) (h : ∀ j, j < n → ys.getD j 0 = if j < k then zs.getD j 0 else ts.getD j 0) (j : Nat) (hj : j < n) :
  (ys.set k x).getD j 0 = if j < k + 1 then zs.getD j 0 else ts.getD j 0 := by
 by_cases e : j = k
 ·
  subst e
  rw [if_pos (by omega), hx, List.getD_eq_getElem?_getD, List.getElem?_set_self (by omega)]; rfl
 ·
  have := h j hj
  rw [List.getD_eq_getElem?_getD] at this ⊢
  rw [List.getElem?_set_ne (fun h' => e h'.symm), this]
  by_cases h2 : j < k
  · rw [if_pos h2, if_pos (by omega)]
  · rw [if_neg h2, if_neg (by omega)]
set_option maxHeartbeats 64000000 in
set_option maxRecDepth 100000 in
theorem frame_yes (A : Option Addr) (cy N B H1 : Nat) (s h b c p : Int) (ys re im : List Int) (sh : Int) (w : World) (hG : GlobA w) (hs : (N : Int) = s) (hb : (B : Int) = b) (hr : rightB s h b c p = true) (hv : lvl ys = true) (hl : ys.length = N) (hC : (Kd.int .i64).C w A N ys) (hB : binsF (frameZ s ys) = (re, im, sh)) (hH : N / 2 + 1 = H1) :
  Calls Tryd.prog 24 #[.agg #[.int .i64 s, .int .i64 h, .int .i64 b, .int .i64 c, .int .i64 p], .slice A N cy] w fun e w' => ∃ v, e = .returned v ∧ Kd.R (Kd.int .i64) 3 w' w.heap.size (fun _ => True) v (frameL s b c ys) ∧ Below w.heap.size w w' := by
 have hr0 := hr
 simp only [rightB, Bool.and_eq_true, decide_eq_true_eq] at hr0
 obtain ⟨⟨⟨⟨⟨⟨⟨r0, r1⟩, r2⟩, r3⟩, r4⟩, r5⟩, r6⟩, r7⟩ := hr0
 have hN : N = 16 ∨ N = 32 ∨ N = 64 := by simp [sizeB] at r0; omega
 have hBm : B = 4 ∨ B = 8 ∨ B = 16 := by rcases mayB_cases r3 with h | h | h <;> omega
 have hmay : fftMay N = true := by rcases hN with rfl | rfl | rfl <;> decide
 have hsN : s.toNat = N := by omega
 have hbB : b.toNat = B := by omega
 have hN16 : 16 ≤ N ∧ N ≤ 64 := by omega
 obtain ⟨hN0, hN1⟩ := hN16
 have hB16 : 4 ≤ B ∧ B ≤ 16 := by omega
 obtain ⟨hB0, hB1⟩ := hB16
 have hH33 : H1 ≤ 33 := by omega
 have hed : (edgesF (s / 2 + 1) b).length = B + 2 := by
  unfold edgesF
  rw [if_pos (by simp only [mayE, Bool.and_eq_true, decide_eq_true_eq]; omega)]
  simp [edgesL]; omega
 have hG1 : frameG s b (frameZ s ys) = (List.range B).map fun m => frameA ((logsL (bandsL (powL re im) (edgesF (s / 2 + 1) b))).getD m 0) sh := by
  unfold frameG frameB
  rw [hbB, hB]
 have hzl : (frameZ s ys).length = N := by rw [frameZ_length, hsN]
 have hrl : re.length = H1 := by
  have e1 : re = (binsF (frameZ s ys)).1 := by rw [hB]
  rw [e1, binsF, hzl, if_pos hmay]; show (halfL _ _).length = _; rw [halfL, List.length_map, partsRe_length, hH]
 have hil : im.length = H1 := by
  have e1 : im = (binsF (frameZ s ys)).2.1 := by rw [hB]
  rw [e1, binsF, hzl, if_pos hmay]; show (halfL _ _).length = _; rw [halfL, List.length_map, partsIm_length, hH]
 have hpl : (powL re im).length = H1 := by rw [powL_length (by rw [hrl, hil]), hrl]
 have HRG : Aside0 (∀ W : World, GlobA W → Calls Tryd.prog 27 #[.agg #[.int .i64 s, .int .i64 h, .int .i64 b, .int .i64 c, .int .i64 p]] W fun e w' => e = .returned (.bool true) ∧ Below W.heap.size W w') := ⟨fun W hg => right_go s h b c p true W hg hr⟩
 have HLV : Aside0 (∀ W : World, (Kd.int .i64).C W A N ys → Calls Tryd.prog 48 #[.slice A N cy] W fun e w' => e = .returned (.bool true) ∧ Below W.heap.size W w') := ⟨fun W hc => level_go A N cy ys true W hl hc hv⟩
 have HWI : Aside0 (∀ W : World, GlobA W → Calls Tryd.prog 49 #[.int .i64 s] W fun e w' => ∃ g c, e = .returned (.slice (some ⟨g, 0, none⟩) N c) ∧ N ≤ c ∧ g < w'.heap.size ∧ Aside0 (w'.ownsRow W.heap.size 3 1 (.slice (some ⟨g, 0, none⟩) N c) N (nums .i64 (winList s))) ∧ Aside0 (Below W.heap.size W w')) := ⟨fun W hg => window_yes s N W hg r0 hsN⟩
 have HZA : Aside0 (∀ t, t < N → (frameZ s ys).getD t 0 = divR (ys.getD t 0 * (winList s).getD t 0) 16384) := ⟨fun t ht => frameZ_at s ys t (by rw [hsN]; exact ht)⟩
 have HWL : Aside0 ((winList s).length = N) := ⟨by rw [winList_len, if_pos r0, hsN]⟩
 have HPS : Aside0 (∀ t, -1073741824 ≤ ys.getD t 0 * (winList s).getD t 0 ∧ ys.getD t 0 * (winList s).getD t 0 ≤ 1073741824) := ⟨fun t => prod_small (lvl_at hv t) (winList_in s t)⟩
 have HBI : Aside0 (∀ (W : World) (A : Option Addr) (c : Nat), GlobA W → (Kd.int .i64).C W A N (frameZ s ys) → N ≤ c → Calls Tryd.prog 50 #[.slice A N c] W fun e w' => ∃ A1 c1 A2 c2, e = .returned (.tuple #[.slice A1 H1 c1, .slice A2 H1 c2, .int .i64 sh]) ∧ H1 ≤ c1 ∧ H1 ≤ c2 ∧ Aside0 ((Kd.int .i64).C w' A1 H1 re) ∧ Aside0 ((Kd.int .i64).C w' A2 H1 im) ∧ Aside0 (Below W.heap.size W w')) := ⟨fun W A c hg h hc => bins_x N H1 c A _ re im sh W hg hzl h (frameZ_in s ys hv) hmay hH hc hB⟩
 have HPW : Aside0 (∀ (W : World) (A0 A1 : Option Addr) (c0 c1 : Nat), (Kd.int .i64).C W A0 H1 re → (Kd.int .i64).C W A1 H1 im → Calls Tryd.prog 52 #[.slice A0 H1 c0, .slice A1 H1 c1] W fun e w' => ∃ B d, e = .returned (.slice B H1 d) ∧ H1 ≤ d ∧ Aside0 ((Kd.int .i64).C w' B H1 (powL re im)) ∧ Aside0 (Below W.heap.size W w')) := ⟨fun W A0 A1 c0 c1 h0 h1 => power_x A0 A1 H1 c0 c1 re im W hrl hil (by omega) h0 h1⟩
 have HED : Aside0 (∀ W : World, Calls Tryd.prog 53 #[.int .i64 (s / 2 + 1), .int .i64 b] W fun e w' => ∃ B_ d, e = .returned (.slice B_ (B + 2) d) ∧ B + 2 ≤ d ∧ Aside0 ((Kd.int .i64).C w' B_ (B + 2) (edgesF (s / 2 + 1) b)) ∧ Aside0 (Below W.heap.size W w')) := ⟨fun W => edges_x _ _ _ W hed⟩
 have HBD : Aside0 (∀ (W : World) (A0 A1 : Option Addr) (c0 c1 : Nat), (Kd.int .i64).C W A0 H1 (powL re im) → H1 ≤ c0 → (Kd.int .i64).C W A1 (B + 2) (edgesF (s / 2 + 1) b) → B + 2 ≤ c1 → Calls Tryd.prog 51 #[.slice A0 H1 c0, .slice A1 (B + 2) c1] W fun e_ w' => ∃ B_ d, e_ = .returned (.slice B_ B d) ∧ B ≤ d ∧ Aside0 ((Kd.int .i64).C w' B_ B (bandsL (powL re im) (edgesF (s / 2 + 1) b))) ∧ Aside0 (Below W.heap.size W w')) := ⟨fun W A0 A1 c0 c1 h0 k0 h1 k1 => bands_x A0 A1 H1 c0 (B + 2) c1 B _ _ W hpl h0 k0 (by omega) hed h1 k1 (by omega) (by omega)⟩
 have hbl : (bandsL (powL re im) (edgesF (s / 2 + 1) b)).length = B := by simp [bandsL, hed]
 have HLG : Aside0 (∀ (W : World) (A : Option Addr) (c : Nat), w.heap.size ≤ W.heap.size → (Kd.int .i64).C W A B (bandsL (powL re im) (edgesF (s / 2 + 1) b)) → B ≤ c → Calls Tryd.prog 17 #[.slice A B c] W fun e w' => ∃ g d, e = .returned (.slice (some ⟨g, 0, none⟩) B d) ∧ B ≤ d ∧ Aside0 (OwnT w' W.heap.size g B d (logsL (bandsL (powL re im) (edgesF (s / 2 + 1) b)))) ∧ Aside0 (Below W.heap.size W w')) := ⟨fun W A c hb h hc => logs_x A B c _ W W.heap.size (Nat.le_refl _) hbl h hc (by omega) (bandsL_in _ _) (by omega)⟩
 have hgl : (frameG s b (frameZ s ys)).length = B := by rw [frameG_length, hbB]
 have HDC : Aside0 (∀ (W : World) (A : Option Addr) (d : Nat), w.heap.size ≤ W.heap.size → GlobA W → (Kd.int .i64).C W A B (frameG s b (frameZ s ys)) → Calls Tryd.prog 21 #[.int .i64 c, .slice A B d] W fun e w' => ∃ v0_ : Value, e = .returned v0_ ∧ Aside0 (Kd.R (Kd.int .i64) 3 w' w.heap.size (fun _ => True) v0_ (frameL s b c ys)) ∧ Aside0 (Below W.heap.size W w')) := ⟨fun W A d hb hg hc => (dct_go c B d A _ W hg hgl hc (by omega)).mono fun e w' ⟨v, a, r, q⟩ => ⟨v, a, ⟨Kd.R_lower r hb⟩, ⟨q⟩⟩⟩
 have HGA : Aside0 (∀ m, m < B → (frameG s b (frameZ s ys)).getD m 0 = frameA ((logsL (bandsL (powL re im) (edgesF (s / 2 + 1) b))).getD m 0) sh) := ⟨fun m hm => by rw [hG1]; exact getD_map_range B (fun m => frameA ((logsL (bandsL (powL re im) (edgesF (s / 2 + 1) b))).getD m 0) sh) m hm⟩
 have HGL := Aside0.mk hgl
 have HLL : Aside0 ((logsL (bandsL (powL re im) (edgesF (s / 2 + 1) b))).length = B) := ⟨by rw [logsL_length, hbl]⟩
 generalize logsL (bandsL (powL re im) (edgesF (s / 2 + 1) b)) = LG at *
 generalize bandsL (powL re im) (edgesF (s / 2 + 1) b) = BD at *
 generalize edgesF (s / 2 + 1) b = EG at *
 generalize powL re im = PW at *
 generalize frameG s b (frameZ s ys) = GG at *
 generalize frameL s b c ys = FL at *
 have HZL := Aside0.mk hzl
 generalize frameZ s ys = ZZ at *
 generalize winList s = WN at *
 have q1 : Int.tdiv s 2 = s / 2 := Int.tdiv_eq_ediv_of_nonneg (by omega)
 have q2 : IntKind.i64.wrap (s / 2 + 1) = s / 2 + 1 := by rw [IntKind.wrap_i64]; omega
 have q4 : IntKind.i64.wrap (s / 2) = s / 2 := by rw [IntKind.wrap_i64]; omega
 have q3 : ((N : Int) == s) = true := by rw [hs]; simp
 have hu22 := Tryd.underlying22
 have hu39 := Tryd.underlying39
 have HC := Aside0.mk hC
 have HG0 := Aside0.mk hG
 have HYL := Aside0.mk hl
 clear hG hC hl hr r0 r1 r2 r3 r4 r5 r6 r7 hN hBm hmay hed hG1 hzl hrl hil hpl hbl hgl hv hB hb hbB hH
 have ST0 : True := trivial
 go_enter Tryd.func24, Tryd.ntmps24
 go_wp2_with (first
  | ((with_reducible refine gate_dst (N := 2) rfl ?_); refine box_event ?hg (N := 2) ?hd (cs := #[.int .i64 s, .int .i64 h, .int .i64 b, .int .i64 c, .int .i64 p]) (t := 39) ?hr ?_; (case hd => rfl); (case hg => first | rfl | exact wanted_on rfl rfl rfl (by first | assumption | rfl | (simp [*]; done))); (case hr => first | (go_simp; done) | (go_simp; rfl)); intro gb hgb wb hbox hb; subst hgb; have BK := Aside0.mk hbox; have HB := Aside0.mk hb; have q0c := blk_cell BK.out 0; have q1c := blk_cell BK.out 1; have q2c := blk_cell BK.out 2; have q3c := blk_cell BK.out 3; have q4c := blk_cell BK.out 4; clear ST0 hbox hb; have ST1 : True := trivial)
  | (go_at_call 27; clear ST1; (with_reducible refine (HRG.out _ (HG0.out.below HB.out)).mono ?_); rintro e_ w1 ⟨rfl, B1⟩; have BK1 := Aside0.mk (blk_below BK.out B1); have HB1 := Aside0.mk (below_step HB.out B1); clear B1 BK HB q0c q1c q2c q3c q4c; have q0c := blk_cell BK1.out 0; have ST2 : True := trivial)
  | (go_at_call 48; clear ST2; (with_reducible refine (HLV.out _ (Kd.C_below HC.out HB1.out)).mono ?_); rintro e_ w2 ⟨rfl, B1⟩; have BK2 := Aside0.mk (blk_below BK1.out B1); have HB2 := Aside0.mk (below_step HB1.out B1); clear B1 BK1 HB1 q0c; have q0c := blk_cell BK2.out 0; have ST3 : True := trivial)
  | (go_at_call 49; clear ST3; (with_reducible refine (HWI.out _ (HG0.out.below HB2.out)).mono ?_); rintro e_ w3 ⟨gz, cz, rfl, hcz, hgz, HO, B1⟩; have BK3 := Aside0.mk (blk_below BK2.out B1.out); have hgz2 : w2.heap.size ≤ gz := own_base HO.out gz rfl; have hbk : w.heap.size < w2.heap.size := blk_lt BK2.out; have HOZ : Aside0 (OwnT w3 w.heap.size gz N cz WN) := ⟨own_less HO.out HB2.out.size⟩; have HB3 := Aside0.mk (below_step HB2.out B1.out); clear B1 BK2 HB2 q0c HO))
 go_loopw [6, 7, 33] (fun _ _ x wr => ∃ (i : Nat) (xs : List Int), i ≤ N ∧ x = .int .i64 (i : Int) ∧ Aside0 (xs.length = N) ∧ Aside0 (∀ j, j < N → xs.getD j 0 = if j < i then ZZ.getD j 0 else WN.getD j 0) ∧ Aside0 (OwnT wr w.heap.size gz N cz xs) ∧ Aside0 (wr.heap[w.heap.size]? = some (.cells #[.int .i64 s, .int .i64 h, .int .i64 b, .int .i64 c, .int .i64 p] 39 (0, 0))) ∧ Aside0 (Below w.heap.size w wr)) (fun _ _ x _ => N - (intOf x).toNat)
 case atStart => exact ⟨0, WN, by omega, rfl, HWL, ⟨fun j hj => by rw [if_neg (by omega)]⟩, HOZ, BK3, HB3⟩
 case round =>
  clear HOZ BK3 HB3
  obtain ⟨i, xs, hi, rfl, HX, HJ, HO, BK, HB⟩ := hrel
  by_cases hlt : i < N
  ·
   have hC1 := Kd.C_below HC.out HB.out
   obtain ⟨ad, rfl, hcs⟩ := sp_ad hC1 (by omega)
   have k0 := hcs i hlt
   obtain ⟨y, hy⟩ : ∃ x, ys.getD i 0 = x := ⟨_, rfl⟩
   obtain ⟨z, hz⟩ : ∃ x, WN.getD i 0 = x := ⟨_, rfl⟩
   obtain ⟨q, hq⟩ : ∃ x, ZZ.getD i 0 = x := ⟨_, rfl⟩
   have hza := HZA.out i hlt
   have hps := HPS.out i
   have hx := HJ.out i hlt
   rw [if_neg (by omega), hz] at hx
   rw [hy, hz] at hza hps
   rw [hq] at hza
   rw [hy] at k0
   have c1 := HO.out.cell i hlt hx
   have f1 := HO.out.free i hlt
   have j0 : (0 : Int) ≤ (i : Int) := by omega
   have j1 : (i : Int) < s := by omega
   have j2 : (i : Int) < (N : Int) := by omega
   have e1 : IntKind.i64.wrap (y * z) = y * z := by rw [IntKind.wrap_i64]; omega
   have HH : Aside0 (∀ W : World, Calls Tryd.prog 47 #[.int .i64 (y * z), .int .i64 14] W fun e w' => e = .returned (.int .i64 q) ∧ Aside0 (Below W.heap.size W w')) := ⟨fun W => half_c (y * z) q W ⟨by omega, by omega⟩ hza.symm⟩
   have HQ := Aside0.mk hq
   clear hy hz hq hza hps hx hcs hC1
   go_wp2_with (go_at_call 47; (with_reducible refine (HH.out _).mono ?_); rintro e_ w4 ⟨rfl, B1⟩; have HO1 := Aside0.mk (HO.out.below B1.out); have BK1 := Aside0.mk (blk_below BK.out B1.out); have HB1 := Aside0.mk (below_step HB.out B1.out); clear B1 HO BK HB c1 f1; obtain ⟨⟨y1, c1⟩, f1⟩ := own_free HO1.out i hlt)
   go_roundw
   case rel =>
    have S1 := HO1.out.set i q
    exact ⟨i + 1, xs.set i q, by omega, by go_num, ⟨by rw [List.length_set, HX.out]⟩, ⟨set_rowF HX.out hlt HQ.out HJ.out⟩, ⟨S1⟩, ⟨by rw [Below.heap_setCell _ _ _ _ (by show w.heap.size ≠ gz; omega)]; exact BK1.out⟩, ⟨Below.setCell HB1.out HO1.out.base _⟩⟩
   case measure => simp [intOf]; omega
  ·
   obtain rfl : N = i := by omega
   have hxv : xs = ZZ := row_ext (by rw [HX.out, HZL.out]) (fun j hj => by rw [HX.out] at hj; rw [HJ.out j hj, if_pos hj])
   subst hxv
   have CZ := Aside0.mk HO.out.C
   clear HX HJ HO hlt hi
   have q0c := blk_cell BK.out 0
   have q2c := blk_cell BK.out 2
   have ST5 : True := trivial
   go_wp2_with (first
    | (go_at_call 50; clear ST5; (with_reducible refine (HBI.out _ (some ⟨gz, 0, none⟩) cz (HG0.out.below HB.out) CZ.out hcz).mono ?_); rintro e_ w5 ⟨AR, cR, AI, cI, rfl, hcR, hcI, CR, CI, B1⟩; have BK5 := Aside0.mk (blk_below BK.out B1.out); have HB5 := Aside0.mk (below_step HB.out B1.out); clear B1 BK HB CZ q0c q2c; have q0c := blk_cell BK5.out 0; have q2c := blk_cell BK5.out 2; have ST6 : True := trivial))
   go_region_with (first
    | (go_at_call 52; clear ST6; refine (HPW.out _ AR AI cR cI (by repeat (first | exact CR.out | refine Kd.C_drewN ?_ _ | refine Kd.C_drew ?_)) (by repeat (first | exact CI.out | refine Kd.C_drewN ?_ _ | refine Kd.C_drew ?_))).mono ?_; rintro e_ w6 ⟨AP, cP, rfl, hcP, CP6, B1⟩; have hb := below_then (show Below w5.heap.size w5 _ by repeat (first | exact Below.refl _ _ | apply below_alloc | apply pw_below_drewN | apply below_drew1)) (by simp) B1.out; have BK6 := Aside0.mk (blk_below BK5.out hb); have HB6 := Aside0.mk (below_step HB5.out hb);  clear hb B1 BK5 HB5 q0c q2c; have q0c := blk_cell BK6.out 0; have q2c := blk_cell BK6.out 2; have ST7 : True := trivial)
    | (go_at_call 53; clear ST7; (with_reducible refine (HED.out _).mono ?_); rintro e_ w7 ⟨AE, cE, rfl, hcE, CE7, B1⟩; have hb := below_then (show Below w6.heap.size w6 _ by repeat (first | exact Below.refl _ _ | apply below_alloc | apply pw_below_drewN | apply below_drew1)) (by simp) B1.out; have BK7 := Aside0.mk (blk_below BK6.out hb); have HB7 := Aside0.mk (below_step HB6.out hb); have CP7 := Aside0.mk (Kd.C_below CP6.out hb); clear hb B1 BK6 HB6 q0c q2c; have q0c := blk_cell BK7.out 0; have q2c := blk_cell BK7.out 2; have ST9 : True := trivial)
    | (go_at_call 53; clear ST6; (with_reducible refine (HED.out _).mono ?_); rintro e_ w6 ⟨AE, cE, rfl, hcE, CE6, B1⟩; have hb := below_then (show Below w5.heap.size w5 _ by repeat (first | exact Below.refl _ _ | apply below_alloc | apply pw_below_drewN | apply below_drew1)) (by simp) B1.out; have BK6 := Aside0.mk (blk_below BK5.out hb); have HB6 := Aside0.mk (below_step HB5.out hb); have CR6 := Aside0.mk (Kd.C_below CR.out hb); have CI6 := Aside0.mk (Kd.C_below CI.out hb); clear hb B1 BK5 HB5 q0c q2c; have q0c := blk_cell BK6.out 0; have q2c := blk_cell BK6.out 2; have ST8 : True := trivial)
    | (go_at_call 52; clear ST8; refine (HPW.out _ AR AI cR cI (by repeat (first | exact CR6.out | refine Kd.C_drewN ?_ _ | refine Kd.C_drew ?_)) (by repeat (first | exact CI6.out | refine Kd.C_drewN ?_ _ | refine Kd.C_drew ?_))).mono ?_; rintro e_ w7 ⟨AP, cP, rfl, hcP, CP7, B1⟩; have hb := below_then (show Below w6.heap.size w6 _ by repeat (first | exact Below.refl _ _ | apply below_alloc | apply pw_below_drewN | apply below_drew1)) (by simp) B1.out; have BK7 := Aside0.mk (blk_below BK6.out hb); have HB7 := Aside0.mk (below_step HB6.out hb); have CE7 := Aside0.mk (Kd.C_below CE6.out hb); clear hb B1 BK6 HB6 q0c q2c; have q0c := blk_cell BK7.out 0; have q2c := blk_cell BK7.out 2; have ST9 : True := trivial)
    | (go_at_call 51; clear ST9; refine (HBD.out _ AP AE cP cE (by repeat (first | exact CP7.out | refine Kd.C_drewN ?_ _ | refine Kd.C_drew ?_)) hcP (by repeat (first | exact CE7.out | refine Kd.C_drewN ?_ _ | refine Kd.C_drew ?_)) hcE).mono ?_; rintro e_ w8 ⟨AD, cD, rfl, hcD, CD, B1⟩; have hb := below_then (show Below w7.heap.size w7 _ by repeat (first | exact Below.refl _ _ | apply below_alloc | apply pw_below_drewN | apply below_drew1)) (by simp) B1.out; have BK8 := Aside0.mk (blk_below BK7.out hb); have HB8 := Aside0.mk (below_step HB7.out hb);  clear hb B1 BK7 HB7 q0c q2c; have q0c := blk_cell BK8.out 0; have q2c := blk_cell BK8.out 2; have ST10 : True := trivial)
    | (go_at_call 17; clear ST10; refine (HLG.out _ AD cD (by first | exact HB8.out.size | (simp; exact HB8.out.size)) (by repeat (first | exact CD.out | refine Kd.C_drewN ?_ _ | refine Kd.C_drew ?_)) hcD).mono ?_; rintro e_ w9 ⟨gl, cl, rfl, hcl, HOL0, B1⟩; have hgl2 : w8.heap.size ≤ gl := HOL0.out.base; have hgl3 : w.heap.size < w8.heap.size := blk_lt BK8.out; have HOL : Aside0 (OwnT w9 w.heap.size gl B cl LG) := ⟨HOL0.out.less HB8.out.size⟩; clear HOL0; have hb := below_then (show Below w8.heap.size w8 _ by repeat (first | exact Below.refl _ _ | apply below_alloc | apply pw_below_drewN | apply below_drew1)) (by simp) B1.out; have BK9 := Aside0.mk (blk_below BK8.out hb); have HB9 := Aside0.mk (below_step HB8.out hb);  clear hb B1 BK8 HB8 q0c q2c; have q0c := blk_cell BK9.out 0; have q2c := blk_cell BK9.out 2; have ST11 : True := trivial))
   all_goals
    go_wp2
    have hgl : w.heap.size ≠ gl := by omega
    have ST11 : True := trivial
    clear ST11
    go_loopw [12, 69] (fun _ x wr => ∃ (i : Nat) (ls : List Int), i ≤ B ∧ x = .int .i64 (i : Int) ∧ Aside0 (ls.length = B) ∧ Aside0 (∀ j, j < B → ls.getD j 0 = if j < i then GG.getD j 0 else LG.getD j 0) ∧ Aside0 (OwnT wr w.heap.size gl B cl ls) ∧ Aside0 (wr.heap[w.heap.size]? = some (.cells #[.int .i64 s, .int .i64 h, .int .i64 b, .int .i64 c, .int .i64 p] 39 (0, 0))) ∧ Aside0 (Below w.heap.size w wr)) (fun _ x _ => B - (intOf x).toNat)
    case atStart => exact ⟨0, LG, by omega, rfl, HLL, ⟨fun j hj => by rw [if_neg (by omega)]⟩, HOL, BK9, HB9⟩
    case round =>
     clear HOL BK9 HB9
     obtain ⟨i, ls, hi, rfl, HX, HJ, HO, BK, HB⟩ := hrel
     by_cases hlt : i < B
     ·
      obtain ⟨x, hx⟩ : ∃ x, LG.getD i 0 = x := ⟨_, rfl⟩
      obtain ⟨q, hq⟩ : ∃ x, GG.getD i 0 = x := ⟨_, rfl⟩
      obtain ⟨u, hu⟩ : ∃ u, IntKind.i64.wrap (512 * sh) = u := ⟨_, rfl⟩
      have hga := HGA.out i hlt
      have hy := HJ.out i hlt
      rw [if_neg (by omega), hx] at hy
      rw [hq, hx] at hga
      have e1 : IntKind.i64.wrap (x + u) = q := by rw [hga, frameA, ← hu, i64_w, i64_w]
      have c1 := HO.out.cell i hlt hy
      have f1 := HO.out.free i hlt
      have j0 : (0 : Int) ≤ (i : Int) := by omega
      have j2 : (i : Int) < (B : Int) := by omega
      have HQ := Aside0.mk hq
      clear hx hq hga hy
      go_wp2
      go_roundw
      case rel =>
       exact ⟨i + 1, ls.set i q, by omega, by go_num, ⟨by rw [List.length_set, HX.out]⟩, ⟨set_rowF HX.out hlt HQ.out HJ.out⟩, ⟨HO.out.set i q⟩, ⟨by rw [Below.heap_setCell _ _ _ _ (by show w.heap.size ≠ gl; exact hgl)]; exact BK.out⟩, ⟨Below.setCell HB.out HO.out.base _⟩⟩
      case measure => simp [intOf]; omega
     ·
      obtain rfl : B = i := by omega
      have hxv : ls = GG := row_ext (by rw [HX.out, HGL.out]) (fun j hj => by rw [HX.out] at hj; rw [HJ.out j hj, if_pos hj])
      subst hxv
      have CZ := Aside0.mk HO.out.C
      clear HX HJ HO hlt hi
      have q3c := blk_cell BK.out 3
      have ST12 : True := trivial
      go_wp2_with (first
       | (go_at_call 21; clear ST12; (with_reducible refine (HDC.out _ (some ⟨gl, 0, none⟩) cl HB.out.size (HG0.out.below HB.out) CZ.out).mono ?_); rintro e_ w10 ⟨vD, rfl, RD, B1⟩; have HB10 := Aside0.mk (below_step HB.out B1.out); clear B1))
      go_ret
      exact ⟨_, rfl, RD.out, HB10.out⟩
set_option maxHeartbeats 16000000 in
set_option maxRecDepth 100000 in
theorem frame_no (A : Option Addr) (cy n : Nat) (s h b c p : Int) (ys : List Int) (w : World) (hG : GlobA w) (hl : ys.length = n) (hC : (Kd.int .i64).C w A n ys) (hok : frameOk s h b c p ys = false) :
  Calls Tryd.prog 24 #[.agg #[.int .i64 s, .int .i64 h, .int .i64 b, .int .i64 c, .int .i64 p], .slice A n cy] w fun e w' => e = .returned (.slice none 0 0) ∧ Below w.heap.size w w' := by
 have hway : rightB s h b c p = false ∨ rightB s h b c p = true ∧ ((n : Int) == s) = false ∧ ¬ ((n : Int) = s) ∨ rightB s h b c p = true ∧ (n : Int) = s ∧ lvl ys = false := by
  unfold frameOk at hok
  rw [hl] at hok
  cases hr : rightB s h b c p
  · exact .inl rfl
  ·
   refine .inr ?_
   rw [hr, Bool.true_and] at hok
   by_cases e : (n : Int) = s
   ·
    rw [decide_eq_true e, Bool.true_and] at hok
    exact .inr ⟨rfl, e, hok⟩
   · exact .inl ⟨rfl, by simp [e], e⟩
 have HRG : Aside0 (∀ (W : World), GlobA W → Calls Tryd.prog 27 #[.agg #[.int .i64 s, .int .i64 h, .int .i64 b, .int .i64 c, .int .i64 p]] W fun e w' => e = .returned (.bool (rightB s h b c p)) ∧ Below W.heap.size W w') := ⟨fun W hg => right_go s h b c p _ W hg rfl⟩
 have HLV : Aside0 (∀ W : World, (Kd.int .i64).C W A n ys → Calls Tryd.prog 48 #[.slice A n cy] W fun e w' => e = .returned (.bool (lvl ys)) ∧ Below W.heap.size W w') := ⟨fun W hc => level_go A n cy ys _ W hl hc rfl⟩
 have HC := Aside0.mk hC
 have HG0 := Aside0.mk hG
 clear hG hC hl hok
 generalize rightB s h b c p = rb at *
 generalize lvl ys = lb at *
 have hu22 := Tryd.underlying22
 have hu39 := Tryd.underlying39
 rcases hway with rfl | ⟨rfl, q3, q3n⟩ | ⟨rfl, q3, rfl⟩
 all_goals
  have ST0 : True := trivial
  go_enter Tryd.func24, Tryd.ntmps24
  go_wp2_with (first
   | ((with_reducible refine gate_dst (N := 2) rfl ?_); refine box_event ?hg (N := 2) ?hd (cs := #[.int .i64 s, .int .i64 h, .int .i64 b, .int .i64 c, .int .i64 p]) (t := 39) ?hr ?_; (case hd => rfl); (case hg => first | rfl | exact wanted_on rfl rfl rfl (by first | assumption | rfl | (simp [*]; done))); (case hr => first | (go_simp; done) | (go_simp; rfl)); intro gb hgb wb hbox hb; subst hgb; have BK := Aside0.mk hbox; have HB := Aside0.mk hb; have q0c := blk_cell BK.out 0; have q1c := blk_cell BK.out 1; have q2c := blk_cell BK.out 2; have q3c := blk_cell BK.out 3; have q4c := blk_cell BK.out 4; clear ST0 hbox hb; have ST1 : True := trivial)
   | (go_at_call 27; clear ST1; (with_reducible refine (HRG.out _ (HG0.out.below HB.out)).mono ?_); rintro e_ w1 ⟨rfl, B1⟩; have BK1 := Aside0.mk (blk_below BK.out B1); have HB1 := Aside0.mk (below_step HB.out B1); clear B1 BK HB q0c q1c q2c q3c q4c; have q0c := blk_cell BK1.out 0; have ST2 : True := trivial)
   | (go_at_call 48; clear ST2; (with_reducible refine (HLV.out _ (Kd.C_below HC.out HB1.out)).mono ?_); rintro e_ w2 ⟨rfl, B1⟩; have HB2 := Aside0.mk (below_step HB1.out B1); clear B1 BK1 HB1 q0c))
  go_ret
  exact ⟨rfl, by first | exact HB2.out | exact HB1.out⟩
theorem frame_go (A : Option Addr) (cy n : Nat) (s h b c p : Int) (ys : List Int) (w : World) (hG : GlobA w) (hl : ys.length = n) (hC : (Kd.int .i64).C w A n ys) :
  Calls Tryd.prog 24 #[.agg #[.int .i64 s, .int .i64 h, .int .i64 b, .int .i64 c, .int .i64 p], .slice A n cy] w fun e w' => ∃ v, e = .returned v ∧ Kd.R (Kd.int .i64) 3 w' w.heap.size (fun _ => True) v (frameF s h b c p ys) ∧ Below w.heap.size w w' := by
 unfold frameF
 by_cases hok : frameOk s h b c p ys = true
 ·
  rw [if_pos hok]
  simp only [frameOk, Bool.and_eq_true, decide_eq_true_eq] at hok
  obtain ⟨⟨hr, hs⟩, hv⟩ := hok
  have hr0 := hr
  simp only [rightB, Bool.and_eq_true, decide_eq_true_eq] at hr0
  rw [hl] at hs
  obtain ⟨re, im, sh, hB⟩ : ∃ re im sh, binsF (frameZ s ys) = (re, im, sh) := ⟨_, _, _, rfl⟩
  exact frame_yes A cy n b.toNat _ s h b c p ys re im sh w hG hs (Int.toNat_of_nonneg (by omega)) hr hv hl hC hB rfl
 ·
  rw [if_neg hok]
  exact (frame_no A cy n s h b c p ys w hG hl hC (by simpa using hok)).mono fun e w' ⟨a, q⟩ => ⟨_, a, Kd.R_nil _ _ _ _ _, q⟩
def front_sample.f (a0 : Int) : Option (Bool) := if a0 ≥ (-32768) then (some (decide (a0 < 32768))) else (some false)
set_option maxHeartbeats 8000000 in
set_option maxRecDepth 100000 in
theorem front_sample.calls (a0 : Int) (r : Bool) (w : World) (h : front_sample.f a0 = some r) :
  Calls Tryd.prog 65 #[.int .i64 a0] w fun e w' => e = .returned (.bool r) ∧ Drawn0 w w' := by
 have H : (if a0 ≥ (-32768) then (some (decide (a0 < 32768))) else (some false)) = some r := h
 clear h
 by_cases c2 : a0 ≥ (-32768)
 ·
  rw [if_pos c2] at H
  have c2b0 : decide ((-32768) ≤ a0) = true := decide_eq_true c2
  clear c2
  obtain rfl := Option.some.inj H
  go_enter Tryd.func65, Tryd.ntmps65
  go_wp2
  go_ret
  exact ⟨by first | rfl | (simp; done) | (simp [*]; done), by repeat (first | exact Drawn0.refl _ | apply Drawn0.step)⟩
 ·
  rw [if_neg c2] at H
  have c2b0 : decide ((-32768) ≤ a0) = false := decide_eq_false c2
  clear c2
  obtain rfl := Option.some.inj H
  go_enter Tryd.func65, Tryd.ntmps65
  go_wp2
  go_ret
  exact ⟨by first | rfl | (simp; done) | (simp [*]; done), by repeat (first | exact Drawn0.refl _ | apply Drawn0.step)⟩
end Go.Proofs.YtmhacdnnnebpdaaDoor.PFrontStream
