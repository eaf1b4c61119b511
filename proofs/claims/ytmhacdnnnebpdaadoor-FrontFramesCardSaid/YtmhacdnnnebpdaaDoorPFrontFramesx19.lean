-- Written by a program of this work (wip/tools) for this claim; Lean checks it.
import Derived.Test.YtmhacdnnnebpdaaDoorPFrontFramesx0
import Derived.Test.YtmhacdnnnebpdaaDoorPFrontFramesx1
import Derived.Test.YtmhacdnnnebpdaaDoorPFrontFramesx2
import Derived.Test.YtmhacdnnnebpdaaDoorPFrontFramesx3
import Derived.Test.YtmhacdnnnebpdaaDoorPFrontFramesx4
import Derived.Test.YtmhacdnnnebpdaaDoorPFrontFramesx5
import Derived.Test.YtmhacdnnnebpdaaDoorPFrontFramesx6
import Derived.Test.YtmhacdnnnebpdaaDoorPFrontFramesx7
import Derived.Test.YtmhacdnnnebpdaaDoorPFrontFramesx8
import Derived.Test.YtmhacdnnnebpdaaDoorPFrontFramesx9
import Derived.Test.YtmhacdnnnebpdaaDoorPFrontFramesx10
import Derived.Test.YtmhacdnnnebpdaaDoorPFrontFramesx11
import Derived.Test.YtmhacdnnnebpdaaDoorPFrontFramesx12
import Derived.Test.YtmhacdnnnebpdaaDoorPFrontFramesx13
import Derived.Test.YtmhacdnnnebpdaaDoorPFrontFramesx14
import Derived.Test.YtmhacdnnnebpdaaDoorPFrontFramesx15
import Derived.Test.YtmhacdnnnebpdaaDoorPFrontFramesx16
import Derived.Test.YtmhacdnnnebpdaaDoorPFrontFramesx17
import Derived.Test.YtmhacdnnnebpdaaDoorPFrontFramesx18
namespace Go.Proofs.YtmhacdnnnebpdaaDoor.PFrontFrames
open Go.RowKit Go.Proofs.YtmhacdnnnebpdaaDoorW.PrintWords Go.Proofs.YtmhacdnnnebpdaaDoorW.PrintLast Go.Proofs.YtmhacdnnnebpdaaDoorW.PrintMore
attribute [local go_sem] max2_int min2_int max_two min_two max_three min_three max_four min_four   -- for this text's walks alone
set_option linter.unusedVariables false
set_option linter.unusedSimpArgs false

/-! ### earshotlaw13_FrontFrames: function 8 -/
-- PURE intros; unfold earshotlaw13_FrontFrames.f; rw [if_pos]; exact decide_eq_true (by omega)

/-- A call's result is a row that reads as xs; the world is as it was, but for what is new. -/
def CRes (w0 W : World) (h : Nat) (xs : List Int) (e : Ending) (w' : World) : Prop :=
  ∃ A c, e = .returned (.slice A h c) ∧ h ≤ c ∧ Aside0 ((Kd.int .i64).C w' A h xs) ∧ Aside0 (Below w0.heap.size w0 w') ∧ Aside0 (Below W.heap.size W w')
theorem cres_of {w0 W w' : World} {h : Nat} {xs : List Int} {v : Value} {t b : Nat} {ok : Nat → Prop} (hB : Below w0.heap.size w0 W) (hR : (Kd.int .i64).R t w' b ok v xs) (hl : xs.length = h) (hb : Below W.heap.size W w') : CRes w0 W h xs (.returned v) w' := by
  subst hl
  obtain ⟨A, c, rfl, h1, h2⟩ := Kd.R_reads hR
  exact ⟨A, c, rfl, h1, ⟨h2⟩, ⟨below_step hB hb⟩, ⟨hb⟩⟩
theorem same_go (l : List Int) (hl : l.length ≤ 100000000) (d : Nat) : ∀ (k i : Nat), i ≤ l.length → l.length - i = d → d < k → earshotref04_Same.l0 k l l (i : Int) = some true := by
  induction d with
  | zero =>
    intro k i h0 hd hk
    obtain ⟨k, rfl⟩ : ∃ m, k = m + 1 := ⟨k - 1, by omega⟩
    simp only [earshotref04_Same.l0]
    rw [if_neg (by omega)]
  | succ d ih =>
    intro k i h0 hd hk
    obtain ⟨k, rfl⟩ : ∃ m, k = m + 1 := ⟨k - 1, by omega⟩
    simp only [earshotref04_Same.l0]
    have hw : wrap64 ((i : Int) + 1) = ((i + 1 : Nat) : Int) := by unfold wrap64; omega
    rw [if_pos (by omega), if_pos (by omega), if_pos (by omega), if_pos trivial, hw]
    exact ih k (i + 1) (by omega) (by omega) (by omega)
theorem same_f (l : List Int) (hl : l.length ≤ 100000000) : earshotref04_Same.f (l.length + 1) l l = some true := by
  unfold earshotref04_Same.f
  rw [if_pos rfl]
  exact same_go l hl l.length _ 0 (by omega) (by omega) (by omega)
/-- Two rows that read the same. -/
theorem same_c {w0 : World} (A1 : Option Addr) (h c1 : Nat) (A2 : Option Addr) (c2 : Nat) (l1 l2 : List Int) (W : World) (hB : Below w0.heap.size w0 W) (hl : l1.length = h) (he : l1 = l2) (hC1 : (Kd.int .i64).C W A1 h l1) (hC2 : (Kd.int .i64).C W A2 h l2) (h1 : h ≤ c1) (h2 : h ≤ c2) (hh : h ≤ 1000000) :
    Calls Tryd.prog 16 #[.slice A1 h c1, .slice A2 h c2] W fun e w' => e = .returned (.bool true) ∧ Aside0 (Below w0.heap.size w0 w') ∧ Aside0 (Below W.heap.size W w') := by
  subst he
  subst hl
  exact (earshotref04_Same.calls _ A1 c1 l1 A2 c2 l1 true W hC1 h1 hC2 h2 (same_f l1 (by omega))).mono fun e w' ⟨a, ⟨n, b⟩⟩ => by
    subst b
    exact ⟨a, ⟨pw_below_drewN hB n⟩, ⟨pw_below_drewN (Below.refl _ _) n⟩⟩
theorem zeros_c (X : World) (g n : Nat) (hg : g = X.heap.size) (hn : n ≤ 1000000) : (Kd.int .i64).C (X.alloc (.cells (madeCells #[.int .i64 0] n) 3)) (some ⟨g, 0, none⟩) n (List.replicate n 0) := by
  subst hg
  have h := own_made X X.heap.size 3 .i64 n (Nat.le_refl _) (by omega)
  have hR := Kd.R_of_own (enc := Value.int .i64) (h1 := fun _ => rfl) (ok := fun _ => True) (xs := List.replicate n 0) (by rw [List.length_replicate]; exact h) (fun _ _ => trivial)
  obtain ⟨A, c, he, _, h2⟩ := Kd.R_reads hR
  rw [List.length_replicate] at he h2
  injection he with e1 e2 e3
  rw [e1]
  exact h2
/-- A callee that draws only, in a region that is walked once, in a world that has drawn before. -/
theorem quiet_add {P : Program} {f : FuncId} {args : Array Value} {W : World} {K x : Nat} {v : Value} (h : Calls P f args (W.drewN (K + x)) fun e w' => e = .returned v ∧ Drawn0 (W.drewN (K + x)) w') :
    Calls P f args (W.drewN (K + x)) fun e w'' => e = .returned v ∧ ∃ n, w'' = W.drewN (K + n) :=
  h.mono fun _ _ ⟨he, ⟨m, hm⟩⟩ => ⟨he, x + m, by rw [hm, World.drewN_drewN, Nat.add_assoc]⟩
/-- .. likewise, in a world that is named by one count. -/
theorem quiet_d {P : Program} {f : FuncId} {args : Array Value} {W : World} {x : Nat} {v : Value} (h : Calls P f args (W.drewN x) fun e w' => e = .returned v ∧ Drawn0 (W.drewN x) w') :
    Calls P f args (W.drewN x) fun e w'' => e = .returned v ∧ ∃ n, w'' = W.drewN n :=
  h.mono fun _ _ ⟨he, ⟨m, hm⟩⟩ => ⟨he, x + m, by rw [hm, World.drewN_drewN]⟩


theorem rdiv_f {x n : Int} (hx : -9223372036854775808 ≤ x ∧ x ≤ 9223372036854775807) (hn : 1 ≤ n ∧ n ≤ 4611686018427387904) : earshotref02_Div.f x n = some (divR x n) := by
  have hn2 : -9223372036854775808 ≤ n ∧ n ≤ 9223372036854775807 := by omega
  have r0 := Int.emod_nonneg x (show n ≠ 0 by omega)
  have r1 := Int.emod_lt_of_pos x (show 0 < n by omega)
  unfold earshotref02_Div.f divR
  rw [if_neg (by omega), if_neg (by omega), refquot_f hx hn2 hn.1, bsome, refrest_f hx hn2 hn.1, bsome]
  have e : wrap64 (n - x % n) = n - x % n := by unfold wrap64; omega
  rw [e]
  by_cases h : x % n ≥ n - x % n
  · rw [if_pos h, if_pos h]
    congr 1
    have q0 : -9223372036854775808 ≤ x / n := (Int.le_ediv_iff_mul_le (by omega)).2 (by omega)
    have q1 : x / n < 9223372036854775807 := by
      have hd := Int.mul_ediv_add_emod x n
      rcases Int.lt_or_le (x / n) 9223372036854775807 with h' | h'
      · exact h'
      · have := Int.mul_le_mul_of_nonneg_right hn.1 (show 0 ≤ x / n by omega)
        omega
    unfold wrap64; omega
  · rw [if_neg h, if_neg h]
theorem rpower : ∀ n : Fin 63, earshotref02_power.f 70 ((n.1 : Nat) : Int) = some ((2 ^ n.1 : Nat) : Int) := by decide +kernel
theorem rhalf_f {x : Int} (hx : -9223372036854775808 ≤ x ∧ x ≤ 9223372036854775807) (n : Nat) (hn : n ≤ 62) : ∀ k, 71 ≤ k → earshotref02_Half.f k x (n : Int) = some (divR x ((2 ^ n : Nat) : Int)) := by
  intro k hk
  obtain ⟨d, rfl⟩ := Nat.exists_eq_add_of_le hk
  clear hk
  induction d with
  | zero =>
    have hp := rpower ⟨n, by omega⟩
    have hle : 2 ^ n ≤ 2 ^ 62 := Nat.pow_le_pow_right (by decide) hn
    have hpos : 0 < 2 ^ n := Nat.two_pow_pos n
    unfold earshotref02_Half.f
    rw [if_neg (by omega), decide_eq_false (by omega), earshotref02_Half.j0, if_neg (by decide), hp, bsome]
    generalize 2 ^ n = p at *
    rw [rdiv_f hx (by omega), bsome]
  | succ d ih => exact earshotref02_Half.mono _ _ _ _ ih

theorem ref_bits_l0 : ∀ (f k x n : Nat), x < 2 ^ f → n + f ≤ 64 → f < k → earshotref03_Bits.l0 k (x : Int) (n : Int) = some ((n + Lib.bitLenAux f x : Nat) : Int)
  | 0, k, x, n, h, _, hk => by
    obtain ⟨k, rfl⟩ : ∃ k', k = k' + 1 := ⟨k - 1, by omega⟩
    have : x = 0 := by simpa using h
    subst this
    simp only [earshotref03_Bits.l0]
    rw [if_neg (by decide)]
    simp [Lib.bitLenAux]
  | f + 1, k, x, n, h, hf, hk => by
    obtain ⟨k, rfl⟩ : ∃ k', k = k' + 1 := ⟨k - 1, by omega⟩
    simp only [earshotref03_Bits.l0]
    by_cases h0 : x = 0
    · subst h0
      rw [if_neg (by decide), bla_zero]
      simp
    · have e1 : Lib.bitLenAux (f + 1) x = 1 + Lib.bitLenAux f (x / 2) := by
        show (if x = 0 then 0 else 1 + Lib.bitLenAux f (x / 2)) = _
        rw [if_neg h0]
      have hx64 : x < 2 ^ 64 := Nat.lt_of_lt_of_le h (Nat.pow_le_pow_right (by decide) (by omega))
      rw [Nat.pow_succ] at h
      have hlt : x / 2 < 2 ^ f := by omega
      clear h
      have e2 : IntKind.u64.wrap (Int.tdiv (x : Int) 2) = ((x / 2 : Nat) : Int) := by
        rw [Int.tdiv_eq_ediv_of_nonneg (by omega), IntKind.wrap_u64]; clear hlt; omega
      have e3 : wrap64 ((n : Int) + 1) = ((n + 1 : Nat) : Int) := by clear hlt; unfold wrap64; omega
      rw [if_pos (by clear hlt; omega), e2, e3, e1]
      rw [ref_bits_l0 f k (x / 2) (n + 1) hlt (by omega) (by omega), Nat.add_assoc]
theorem ref_bits_some {x k : Nat} (h : x < 2 ^ 64) (hk : 65 ≤ k) : earshotref03_Bits.f k (x : Int) = some ((Lib.bitLen x : Nat) : Int) := by
  unfold earshotref03_Bits.f Lib.bitLen
  have := ref_bits_l0 64 k x 0 h (by omega) (by omega)
  rw [Nat.zero_add] at this
  exact this
theorem ref_log_l0 : ∀ (j k m : Nat) (b : Int), 2147483648 ≤ m * 2 ^ j → (j = 0 ∨ m * 2 ^ j < 4294967296) → earshotref03_Log.l0 (k + j + 1) b (m : Int) = earshotref03_Log.l1 (k + 0) b ((m * 2 ^ j : Nat) : Int)
  | 0, k, m, b, h0, _ => by
    rw [Nat.pow_zero, Nat.mul_one] at h0 ⊢
    rw [earshotref03_Log.l0, if_neg (by omega)]; rfl
  | j + 1, k, m, b, h0, h1 => by
    have h1 : m * 2 ^ (j + 1) < 4294967296 := by rcases h1 with h | h; cases h; exact h
    have e : m * 2 ^ (j + 1) = (m * 2) * 2 ^ j := by rw [Nat.pow_succ, Nat.mul_assoc, Nat.mul_comm 2]
    have hp : 0 < 2 ^ j := Nat.two_pow_pos j
    rw [e] at h0 h1 ⊢
    have hm : m * 2 < 4294967296 := Nat.lt_of_le_of_lt (Nat.le_mul_of_pos_right _ hp) h1
    have e2 : IntKind.u64.wrap ((m : Int) * 2) = ((m * 2 : Nat) : Int) := by rw [IntKind.wrap_u64]; clear h0 h1 hp e; omega
    rw [← ref_log_l0 j k (m * 2) b h0 (Or.inr h1)]
    show earshotref03_Log.l0 ((k + j + 1) + 1) b (m : Int) = _
    rw [earshotref03_Log.l0, if_pos (by clear h0 h1 hp e; omega), e2]
theorem ref_log_l1 : ∀ (j k m : Nat) (b : Int), m < 2 ^ 64 → 2147483648 ≤ m / 2 ^ j → m / 2 ^ j < 4294967296 → earshotref03_Log.l1 (k + j + 1) b (m : Int) = earshotref03_Log.l2 (k + 0) b ((m / 2 ^ j : Nat) : Int) 0 0
  | 0, k, m, b, hm, h0, h1 => by
    rw [Nat.pow_zero, Nat.div_one] at h0 h1 ⊢
    rw [earshotref03_Log.l1, if_neg (by omega)]; rfl
  | j + 1, k, m, b, hm, h0, h1 => by
    have e : m / 2 ^ (j + 1) = (m / 2) / 2 ^ j := by rw [Nat.pow_succ, Nat.mul_comm, Nat.div_div_eq_div_mul]
    rw [e] at h0 h1 ⊢
    have hle : m / 2 / 2 ^ j ≤ m / 2 := Nat.div_le_self _ _
    have e2 : IntKind.u64.wrap (Int.tdiv (m : Int) 2) = ((m / 2 : Nat) : Int) := by
      rw [Int.tdiv_eq_ediv_of_nonneg (by omega), IntKind.wrap_u64]; clear h0 h1 e hle; omega
    rw [← ref_log_l1 j k (m / 2) b (by omega) h0 h1]
    show earshotref03_Log.l1 ((k + j + 1) + 1) b (m : Int) = _
    rw [earshotref03_Log.l1, if_pos (by omega), e2]
theorem lt8 {i : Nat} (h : i < 8) : (i : Int) < 8 := by omega
theorem sq_wrap {m : Nat} (h1 : m < 4294967296) : IntKind.u64.wrap ((m : Int) * (m : Int)) = ((m * m : Nat) : Int) := by
  have := Nat.mul_le_mul (show m ≤ 4294967295 by omega) (show m ≤ 4294967295 by omega)
  rw [← Int.natCast_mul, IntKind.wrap_u64]
  omega
theorem half_wrap {m : Nat} (h1 : m < 4294967296) : IntKind.u64.wrap (Int.tdiv ((m * m : Nat) : Int) 2147483648) = ((m * m / 2147483648 : Nat) : Int) := by
  have := Nat.mul_le_mul (show m ≤ 4294967295 by omega) (show m ≤ 4294967295 by omega)
  generalize m * m = z at *
  rw [Int.tdiv_eq_ediv_of_nonneg (by omega), IntKind.wrap_u64]; omega
theorem q_half {q : Nat} (h1 : q < 8589934592) : IntKind.u64.wrap (Int.tdiv ((q : Nat) : Int) 2) = ((q / 2 : Nat) : Int) := by
  rw [Int.tdiv_eq_ediv_of_nonneg (by omega), IntKind.wrap_u64]; omega
theorem ww_add {i : Nat} (h : i < 2 ^ 42) : wrap64 ((i : Int) + 1) = ((i + 1 : Nat) : Int) := by unfold wrap64; omega
theorem ww_mul {n : Nat} (h : n < 2 ^ 40) : wrap64 ((n : Int) * 2) = ((2 * n : Nat) : Int) := by unfold wrap64; omega
theorem ref_log_l2 : ∀ (j k m n i l : Nat), i + j = 8 → l ≤ 63 → 2147483648 ≤ m → m < 4294967296 → n < 2 ^ (32 + i) → earshotref03_Log.l2 (k + j + 1) (l : Int) (m : Int) (n : Int) (i : Int) = some ((256 * l + (n * 2 ^ j + dD j m) : Nat) : Int)
  | 0, k, m, n, i, l, hi, hl, h0, h1, hn => by
    have hn40 : n < 2 ^ 40 := Nat.lt_of_lt_of_le hn (Nat.pow_le_pow_right (by decide) (by omega))
    clear hn
    rw [earshotref03_Log.l2, if_neg (by omega), dD, Nat.pow_zero, Nat.mul_one]
    congr 1
    unfold wrap64
    omega
  | j + 1, k, m, n, i, l, hi, hl, h0, h1, hn => by
    have hn40 : n < 2 ^ 40 := Nat.lt_of_lt_of_le hn (Nat.pow_le_pow_right (by decide) (by omega))
    have hn2 : ∀ d, d < 2 → 2 * n + d < 2 ^ (32 + (i + 1)) := by
      intro d hd
      rw [show 32 + (i + 1) = (32 + i) + 1 from rfl, Nat.pow_succ]
      generalize 2 ^ (32 + i) = P at hn
      omega
    have hd : dD (j + 1) m = (m * m / 2147483648 / 4294967296) * 2 ^ j + dD j (m * m / 2147483648 / 2 ^ (m * m / 2147483648 / 4294967296)) := rfl
    show earshotref03_Log.l2 ((k + j + 1) + 1) (l : Int) (m : Int) (n : Int) (i : Int) = _
    rw [hd, earshotref03_Log.l2, if_pos (lt8 (by omega)), sq_wrap h1, half_wrap h1, ww_add (by omega), ww_mul hn40, ww_add (by clear hn hn2; omega)]
    obtain ⟨s0, s1⟩ := sq_range h0 h1
    obtain ⟨a, b, c⟩ := next_range h0 h1
    clear hn hd
    generalize m * m / 2147483648 = q at *
    have hij : i + 1 + j = 8 := by omega
    by_cases hc : q / 4294967296 = 1
    · rw [hc, Nat.pow_one] at a b
      have ih := ref_log_l2 j k _ _ (i + 1) l hij hl a b (hn2 1 (by decide))
      clear hn2 a b
      rw [if_pos (by omega), q_half s1, ih, hc, Nat.pow_one, Nat.one_mul, Nat.pow_succ]
      congr 2
      generalize dD j _ = e
      rw [Nat.add_mul, Nat.one_mul, Nat.mul_comm 2 n, Nat.mul_assoc n 2, Nat.mul_comm 2 (2 ^ j), Nat.add_assoc]
    · have hc : q / 4294967296 = 0 := by clear hn2 a b; omega
      rw [hc, Nat.pow_zero, Nat.div_one] at a b
      have ih := ref_log_l2 j k _ _ (i + 1) l hij hl a b (hn2 0 (by decide))
      clear hn2 a b
      rw [if_neg (by omega), show ((2 * n : Nat) : Int) = ((2 * n + 0 : Nat) : Int) from rfl, ih, hc, Nat.pow_zero, Nat.div_one, Nat.zero_mul, Nat.pow_succ]
      congr 2
      generalize dD j _ = e
      rw [Nat.add_zero, Nat.mul_comm 2 n, Nat.mul_assoc n 2, Nat.mul_comm 2 (2 ^ j), Nat.zero_add]
theorem ref_log_some {x : Nat} (h : x < 2 ^ 64) : earshotref03_Log.f 110 (x : Int) = some ((logN x : Nat) : Int) := by
  by_cases h0 : x = 0
  · subst h0; rfl
  · obtain ⟨a, b, c, d⟩ := bl_spec h h0
    unfold earshotref03_Log.f logN
    rw [if_neg (by omega), ref_bits_some h (by decide), bsome, if_neg h0]
    obtain ⟨l, hl⟩ : ∃ l, Lib.bitLen x - 1 = l := ⟨_, rfl⟩
    have e1 : wrap64 (((Lib.bitLen x : Nat) : Int) - 1) = (l : Int) := by unfold wrap64; omega
    have hl63 : l ≤ 63 := by omega
    rw [e1]
    rw [hl] at c d ⊢
    obtain ⟨m0, m1⟩ := mant_range (b := l) hl63 c d
    by_cases h31 : l ≤ 31
    · have em : mant l x = x * 2 ^ (31 - l) := by
        unfold mant
        rw [show 63 - l = (31 - l) + 32 by omega, Nat.pow_add, ← Nat.mul_assoc]
        exact Nat.mul_div_cancel _ (by decide)
      have := ref_log_l0 (31 - l) (109 - (31 - l)) x (l : Int) (by rw [← em]; exact m0) (Or.inr (by rw [← em]; exact m1))
      rw [show 109 - (31 - l) + (31 - l) + 1 = 110 by omega, ← em] at this
      rw [this]
      have := ref_log_l1 0 (109 - (31 - l) - 1) (mant l x) (l : Int) (by omega) (by rw [Nat.pow_zero, Nat.div_one]; exact m0) (by rw [Nat.pow_zero, Nat.div_one]; exact m1)
      rw [show 109 - (31 - l) - 1 + 0 + 1 = 109 - (31 - l) + 0 by omega, Nat.pow_zero, Nat.div_one] at this
      rw [this]
      have := ref_log_l2 8 (109 - (31 - l) - 1 - 9) (mant l x) 0 0 l rfl hl63 m0 m1 (by decide)
      rw [show 109 - (31 - l) - 1 - 9 + 8 + 1 = 109 - (31 - l) - 1 + 0 by omega] at this
      rw [show (0 : Int) = ((0 : Nat) : Int) from rfl, this, Nat.zero_mul, Nat.zero_add]
    · have em : mant l x = x / 2 ^ (l - 31) := by
        unfold mant
        have e : (4294967296 : Nat) = 2 ^ (l - 31) * 2 ^ (63 - l) := by rw [← Nat.pow_add, show l - 31 + (63 - l) = 32 by omega]
        rw [e, Nat.mul_div_mul_right _ _ (Nat.two_pow_pos _)]
      have hx : 2147483648 ≤ x := Nat.le_trans (show 2 ^ 31 ≤ 2 ^ l from Nat.pow_le_pow_right (by decide) (by omega)) c
      have := ref_log_l0 0 109 x (l : Int) (by rw [Nat.pow_zero, Nat.mul_one]; exact hx) (Or.inl rfl)
      rw [Nat.pow_zero, Nat.mul_one] at this
      rw [this]
      have := ref_log_l1 (l - 31) (108 - (l - 31)) x (l : Int) h (by rw [← em]; exact m0) (by rw [← em]; exact m1)
      rw [show 108 - (l - 31) + (l - 31) + 1 = 109 + 0 by omega, ← em] at this
      rw [this]
      have := ref_log_l2 8 (108 - (l - 31) - 9) (mant l x) 0 0 l rfl hl63 m0 m1 (by decide)
      rw [show 108 - (l - 31) - 9 + 8 + 1 = 108 - (l - 31) + 0 by omega] at this
      rw [show (0 : Int) = ((0 : Nat) : Int) from rfl, this, Nat.zero_mul, Nat.zero_add]

theorem may_s {h : Nat} (hm : sp_may h = true) : 0 < h ∧ (h : Int) * ((32 / h : Nat) : Int) = 32 ∧ h ≤ 32 := by
  rcases sp_may_cases hm with rfl | rfl | rfl | rfl | rfl | rfl <;> decide
theorem ci64_mk {x : Int} (h0 : -9223372036854775808 ≤ x) (h1 : x ≤ 9223372036854775807) : ci64b x = true := by simp [ci64b, h0, h1]
theorem ref4rest_f {x : Int} (h0 : -9223372036854775808 ≤ x) (h1 : x ≤ 9223372036854775807) : earshotref04_Rest.f x = some (x % 64) := by
  unfold earshotref04_Rest.f
  rw [refrest_f ⟨h0, h1⟩ (by decide) (by decide)]
  rfl
theorem refcos_fin (k : Nat) : ∀ r : Fin 64, earshotref04_Cos.f 3 ((r.1 : Nat) : Int) = some (cosAt ((r.1 : Nat) : Int)) := by decide +kernel
theorem refcos_f {x : Int} (h0 : -9223372036854775808 ≤ x) (h1 : x ≤ 9223372036854775807) (k : Nat) (hk : 3 ≤ k) : earshotref04_Cos.f k x = some (cosT x) := by
  have e : earshotref04_Cos.f 3 x = earshotref04_Cos.f 3 (x % 64) := by
    unfold earshotref04_Cos.f
    rw [ref4rest_f h0 h1, ref4rest_f (x := x % 64) (by omega) (by omega), Int.emod_emod_of_dvd _ (Int.dvd_refl 64)]
  have m0 := Int.emod_nonneg x (show (64 : Int) ≠ 0 by decide)
  have m1 := Int.emod_lt_of_pos x (show (0 : Int) < 64 by decide)
  obtain ⟨n, hn⟩ := Int.eq_ofNat_of_zero_le m0
  refine at_rounds (fun k => earshotref04_Cos.mono x k) hk ?_
  rw [e, hn]
  unfold cosT
  rw [hn]
  exact refcos_fin 0 ⟨n, by omega⟩
theorem refsin_f {x : Int} (h0 : -9223372036854775808 ≤ x) (h1 : x ≤ 9223372036854775807) (k : Nat) (hk : 3 ≤ k) : earshotref04_Sin.f k x = some (sinT x) := by
  unfold earshotref04_Sin.f
  have m0 := Int.emod_nonneg x (show (64 : Int) ≠ 0 by decide)
  have m1 := Int.emod_lt_of_pos x (show (0 : Int) < 64 by decide)
  rw [ref4rest_f h0 h1, Option.bind_some, W_in (by omega) (by omega), refcos_f (by omega) (by omega) k hk]
  rfl
theorem refmay_f (h : Nat) : earshotref09_May.f (h : Int) = some (sp_may h) := by
  unfold earshotref09_May.f sp_may
  by_cases h1 : h = 1
  · subst h1; rfl
  by_cases h2 : h = 2
  · subst h2; rfl
  by_cases h4 : h = 4
  · subst h4; rfl
  by_cases h8 : h = 8
  · subst h8; rfl
  by_cases h16 : h = 16
  · subst h16; rfl
  rw [if_neg (by omega), if_neg (by omega), if_neg (by omega), if_neg (by omega), if_neg (by omega)]
  have e : ∀ a b : Nat, a ≠ b → (a == b) = false := fun a b h => by simp [h]
  rw [e h 1 h1, e h 2 h2, e h 4 h4, e h 8 h8, e h 16 h16]
  simp only [Bool.false_or]
  congr 1
  by_cases h32 : h = 32
  · subst h32; rfl
  · rw [e h 32 h32]; simp; omega
theorem quo_s {h j : Nat} (hm : sp_may h = true) : wrap64 (Int.tdiv (wrap64 ((j : Int) * 32)) (h : Int)) = (j : Int) * ((32 / h : Nat) : Int) ∨ h < j := by
  by_cases hj : h < j
  · exact .inr hj
  · refine .inl ?_
    have h32 := (may_s hm).2.2
    rw [W_in (a := (j : Int) * 32) (by omega) (by omega), Int.tdiv_eq_ediv_of_nonneg (by omega)]
    rcases sp_may_cases hm with rfl | rfl | rfl | rfl | rfl | rfl
    all_goals
      simp only [Nat.reduceDiv, Int.cast_ofNat_Int]
      rw [W_in (by omega) (by omega)]
      omega
theorem refreal_go (l : List Int) (hm : sp_may l.length = true) (m : Nat) (h3 : 3 ≤ m) : ∀ (d n : Nat), n + d = l.length →
    earshotref09_Real.l0 (d + 1 + m) l (sp_sum l cosT (32 / l.length) n) true (n : Int) = some (sp_sum l cosT (32 / l.length) l.length)
  | 0, n, hn => by
    rw [show 0 + 1 + m = m + 1 by omega, earshotref09_Real.l0, if_neg (by omega), show n = l.length by omega]
  | d + 1, n, hn => by
    have ih := refreal_go l hm m h3 d (n + 1) (by omega)
    obtain ⟨h0, hs, h32⟩ := may_s hm
    have w3 : wrap64 ((n : Int) + 1) = ((n + 1 : Nat) : Int) := by rw [W_in (by omega) (by omega)]; omega
    have hq := (quo_s (j := n) hm).resolve_right (by omega)
    have hb : 0 ≤ (n : Int) * ((32 / l.length : Nat) : Int) ∧ (n : Int) * ((32 / l.length : Nat) : Int) ≤ 32 := by
      rw [← hs]
      exact ⟨Int.mul_nonneg (Int.natCast_nonneg _) (Int.natCast_nonneg _), Int.mul_le_mul_of_nonneg_right (by omega) (Int.natCast_nonneg _)⟩
    rw [show d + 1 + 1 + m = (d + 1 + m) + 1 by omega, earshotref09_Real.l0, if_pos (by omega), if_pos rfl, if_pos (by omega), if_neg (by omega), hq, refcos_f (by omega) (by omega) _ (by omega), Option.bind_some, w3]
    unfold rd
    rw [Int.toNat_natCast]
    exact ih
theorem refreal_f (l : List Int) (hl : l.length ≤ 1000) : earshotref09_Real.f 1010 l = some (sp_part l cosT) := by
  unfold earshotref09_Real.f sp_part
  rw [refmay_f, Option.bind_some]
  by_cases hm : sp_may l.length = true
  · rw [hm, if_pos rfl]
    have h32 := (may_s hm).2.2
    have := refreal_go l hm (1009 - l.length) (by omega) l.length 0 (by omega)
    rw [show l.length + 1 + (1009 - l.length) = 1010 by omega] at this
    exact this
  · rw [if_neg hm]
    have hf : sp_may l.length = false := by simpa using hm
    rw [hf, earshotref09_Real.l0]
    split
    · rw [if_neg (by decide)]
    · rfl
theorem refimag_go (l : List Int) (hm : sp_may l.length = true) (m : Nat) (h3 : 3 ≤ m) : ∀ (d n : Nat), n + d = l.length →
    earshotref09_Imag.l0 (d + 1 + m) l (wrap64 (-(sp_sum l sinT (32 / l.length) n))) true (n : Int) = some (wrap64 (-(sp_sum l sinT (32 / l.length) l.length)))
  | 0, n, hn => by
    rw [show 0 + 1 + m = m + 1 by omega, earshotref09_Imag.l0, if_neg (by omega), show n = l.length by omega]
  | d + 1, n, hn => by
    have ih := refimag_go l hm m h3 d (n + 1) (by omega)
    obtain ⟨h0, hs, h32⟩ := may_s hm
    have w3 : wrap64 ((n : Int) + 1) = ((n + 1 : Nat) : Int) := by rw [W_in (by omega) (by omega)]; omega
    have hq := (quo_s (j := n) hm).resolve_right (by omega)
    have hb : 0 ≤ (n : Int) * ((32 / l.length : Nat) : Int) ∧ (n : Int) * ((32 / l.length : Nat) : Int) ≤ 32 := by
      rw [← hs]
      exact ⟨Int.mul_nonneg (Int.natCast_nonneg _) (Int.natCast_nonneg _), Int.mul_le_mul_of_nonneg_right (by omega) (Int.natCast_nonneg _)⟩
    rw [show d + 1 + 1 + m = (d + 1 + m) + 1 by omega, earshotref09_Imag.l0, if_pos (by omega), if_pos rfl, if_pos (by omega), if_neg (by omega), hq, refsin_f (by omega) (by omega) _ (by omega), Option.bind_some, w3]
    unfold rd
    rw [Int.toNat_natCast]
    rw [sp_sum, W_neg_W] at ih
    rw [← ih]
    congr 1
    rw [W_W_sub, W_sub_W, ← W_neg_W, W_add_W, W_neg_W]
    congr 1; omega
theorem refimag_f (l : List Int) (hl : l.length ≤ 1000) : earshotref09_Imag.f 1010 l = some (wrap64 (-(sp_part l sinT))) := by
  unfold earshotref09_Imag.f sp_part
  rw [refmay_f, Option.bind_some]
  by_cases hm : sp_may l.length = true
  · rw [hm, if_pos rfl]
    have h32 := (may_s hm).2.2
    have := refimag_go l hm (1009 - l.length) (by omega) l.length 0 (by omega)
    rw [show l.length + 1 + (1009 - l.length) = 1010 by omega] at this
    have hz : wrap64 (-(sp_sum l sinT (32 / l.length) 0)) = 0 := W_in (a := -0) (by decide) (by decide)
    rw [hz] at this
    exact this
  · rw [if_neg hm]
    have hf : sp_may l.length = false := by simpa using hm
    rw [hf, earshotref09_Imag.l0]
    have hz : wrap64 (-0) = 0 := W_in (a := -0) (by decide) (by decide)
    rw [hz]
    split
    · rw [if_neg (by decide)]
    · rfl

theorem same_goK (l : List Int) (hl : l.length ≤ 100000000) (d : Nat) : ∀ (k i : Nat), i ≤ l.length → l.length - i = d → d < k → earshotref04_Same.l0 k l l (i : Int) = some true := by
  induction d with
  | zero =>
    intro k i h0 hd hk
    obtain ⟨k, rfl⟩ : ∃ m, k = m + 1 := ⟨k - 1, by omega⟩
    simp only [earshotref04_Same.l0]
    rw [if_neg (by omega)]
  | succ d ih =>
    intro k i h0 hd hk
    obtain ⟨k, rfl⟩ : ∃ m, k = m + 1 := ⟨k - 1, by omega⟩
    simp only [earshotref04_Same.l0]
    have hw : wrap64 ((i : Int) + 1) = ((i + 1 : Nat) : Int) := by unfold wrap64; omega
    rw [if_pos (by omega), if_pos (by omega), if_pos (by omega), if_pos trivial, hw]
    exact ih k (i + 1) (by omega) (by omega) (by omega)
theorem sameK (l : List Int) (hl : l.length ≤ 100000000) {k : Nat} (hk : l.length < k) : earshotref04_Same.f k l l = some true := by
  unfold earshotref04_Same.f
  rw [if_pos rfl]
  exact same_goK l hl l.length k 0 (by omega) (by omega) (by omega)

theorem up_ {α : Type} {f : Nat → Option α} (h : ∀ k, LeO (f k) (f (k + 1))) {k n : Nat} {r : α} (hk : f k = some r) (hn : k ≤ n) : f n = some r := by
  obtain ⟨d, rfl⟩ := Nat.exists_eq_add_of_le hn
  clear hn
  induction d with
  | zero => exact hk
  | succ d ih => exact h (k + d) _ ih
theorem size_some {x : Int} (h0 : -9223372036854775808 ≤ x) (h1 : x < 9223372036854775808) : earshotref03_size.f x = some ((x.natAbs : Nat) : Int) := by
  unfold earshotref03_size.f
  split
  · congr 1
    rw [IntKind.wrap_u64, IntKind.wrap_u64]; unfold wrap64; omega
  · congr 1
    rw [IntKind.wrap_u64]; omega
theorem rnorm_l0 (l : List Int) (hl : l.length ≤ 500) (hw : Rng l) : ∀ (j k2 i acc : Nat), i + j = l.length → acc < 2 ^ 64 → j + 65 < k2 →
    earshotref03_Norm.l0 k2 l ((Lib.bitLen acc : Nat) : Int) (i : Int) = some ((Lib.bitLen (acc ||| orL (l.drop i)) : Nat) : Int)
  | 0, k2, i, acc, hi, ha, hk2 => by
    obtain ⟨k2, rfl⟩ : ∃ k', k2 = k' + 1 := ⟨k2 - 1, by omega⟩
    rw [earshotref03_Norm.l0, if_neg (by omega), List.drop_eq_nil_of_le (by omega)]
    show _ = some ((Lib.bitLen (acc ||| 0) : Nat) : Int)
    rw [Nat.or_zero]
  | j + 1, k2, i, acc, hi, ha, hk2 => by
    obtain ⟨k2, rfl⟩ : ∃ k', k2 = k' + 1 := ⟨k2 - 1, by omega⟩
    have hr : rd l (i : Int) = l[i]'(by omega) := by
      unfold rd
      rw [Int.toNat_natCast, List.getD_eq_getElem?_getD, List.getElem?_eq_getElem (by omega), Option.getD_some]
    obtain ⟨w0, w1⟩ := hw _ (List.getElem_mem (show i < l.length by omega))
    rw [← hr] at w0 w1
    have hx64 : (rd l (i : Int)).natAbs < 2 ^ 64 := by omega
    have e1 : wrap64 ((i : Int) + 1) = ((i + 1 : Nat) : Int) := by unfold wrap64; omega
    have ih := rnorm_l0 l hl hw j k2 (i + 1) (acc ||| (rd l (i : Int)).natAbs) (by omega) (Nat.or_lt_two_pow ha hx64) (by omega)
    have ed : orL (l.drop i) = (rd l (i : Int)).natAbs ||| orL (l.drop (i + 1)) := by
      rw [List.drop_eq_getElem_cons (show i < l.length by omega), hr]; rfl
    rw [ed, ← Nat.or_assoc, ← ih, earshotref03_Norm.l0, if_pos (by omega), if_pos (by omega), size_some w0 (by omega), bsome, ref_bits_some hx64 (by omega), bsome, e1, bl_or ha hx64]
    by_cases hc : Lib.bitLen (rd l (i : Int)).natAbs > Lib.bitLen acc
    · rw [if_pos hc, if_pos (by omega)]
    · rw [if_neg hc, if_neg (by omega)]
theorem rnorm_f (l : List Int) (hl : l.length ≤ 500) (hw : Rng l) (k : Nat) (hk : 600 ≤ k) : earshotref03_Norm.f k l = some ((normN l : Nat) : Int) := by
  have h := rnorm_l0 l hl hw l.length k 0 0 (by omega) (by decide) (by omega)
  rw [bl_zero] at h
  unfold earshotref03_Norm.f
  rw [show ((0 : Nat) : Int) = 0 from rfl] at h
  rw [h, List.drop_zero, Nat.zero_or]
  rfl
theorem rmay10_f (n : Nat) (hn : n ≤ 1000) : earshotref10_May.f (n : Int) = some (fftMay n) := by
  by_cases h : fftMay n = true
  · rw [h]; exact refmay10_f n h
  · rw [show fftMay n = false by simpa using h]
    exact rmay_no ⟨n, by omega⟩ (by simpa using h)
theorem rhalves (re im : List Int) (M H : Nat) (s : Nat) (hs : s ≤ 62) (hr : re.length = M) (hi : im.length = M) (hM : M = H + 1) (hH : H ≤ 32) (rr : Rng re) (ri : Rng im) (N : Int) (hN : Aside0 (wrap64 (Int.tdiv N 2) = (H : Int))) : ∀ (d n k : Nat) (ys zs : List Int), n + d = M → ys.length = M → zs.length = M →
    (∀ j, j < M → ys.getD j 0 = if j < n then (halfL re s).getD j 0 else re.getD j 0) → (∀ j, j < M → zs.getD j 0 = if j < n then (halfL im s).getD j 0 else im.getD j 0) →
    earshotref10_Bins.l1 (k + 100 + d) N (n : Int) ys zs (s : Int) = some (halfL re s, halfL im s, (s : Int))
  | 0, n, k, ys, zs, hn, hy, hz, gy, gz => by
    show earshotref10_Bins.l1 ((k + 99) + 1) _ _ _ _ _ = _
    rw [earshotref10_Bins.l1, hN.out, if_neg (by omega)]
    have e1 : ys = halfL re s := row_ext (by rw [halfL_length, hy, hr]) (fun j hj => by rw [gy j (by omega), if_pos (by omega)])
    have e2 : zs = halfL im s := row_ext (by rw [halfL_length, hz, hi]) (fun j hj => by rw [gz j (by omega), if_pos (by omega)])
    rw [e1, e2]
  | d + 1, n, k, ys, zs, hn, hy, hz, gy, gz => by
    have ry : rd ys (n : Int) = re.getD n 0 := by unfold rd; rw [Int.toNat_natCast, gy n (by omega), if_neg (by omega)]
    have rz : rd zs (n : Int) = im.getD n 0 := by unfold rd; rw [Int.toNat_natCast, gz n (by omega), if_neg (by omega)]
    have e1 : Aside0 (wrap64 ((n : Int) + 1) = ((n + 1 : Nat) : Int)) := ⟨by unfold wrap64; omega⟩
    rw [show k + 100 + (d + 1) = (k + 100 + d) + 1 by omega, earshotref10_Bins.l1, hN.out, if_pos (by omega), if_pos (by omega), if_pos (by omega), ry, rz, rhalf_f (rng_at rr n (by omega)) s hs _ (by omega), bsome, if_pos (by omega), rhalf_f (rng_at ri n (by omega)) s hs _ (by omega), bsome, e1.out, Int.toNat_natCast]
    exact rhalves re im M H s hs hr hi hM hH rr ri N hN d (n + 1) k _ _ (by omega) (by rw [List.length_set, hy]) (by rw [List.length_set, hz]) (fun j hj => set_half (s := s) hy hr (by omega) gy j hj) (fun j hj => set_half (s := s) hz hi (by omega) gz j hj)
theorem rbins_l0 (l : List Int) (hin : In64 l) (N H : Nat) (hl : l.length = N) (hm : fftMay N = true) (hH : N / 2 = H) (k : Nat) : ∀ (d n : Nat), n + d = H + 1 →
    earshotref10_Bins.l0 (k + 2000 + d) l (N : Int) (n : Int) (partsRe (spinsF l) n) (partsIm (spinsF l) n) 0 = some (binsF l)
  | 0, n, hn => by
    obtain rfl : n = H + 1 := by omega
    have hN64 : 2 ≤ N ∧ N ≤ 64 ∧ H ≤ 32 := by rcases fftMay_cases hm with rfl | rfl | rfl | rfl | rfl | rfl <;> omega
    have hq : Aside0 (wrap64 (Int.tdiv (N : Int) 2) = (H : Int)) := ⟨by
      have : Int.tdiv (N : Int) 2 = (H : Int) := by rw [Int.tdiv_eq_ediv_of_nonneg (by omega)]; omega
      rw [this]; exact W_in (by omega) (by omega)⟩
    have l1 := partsRe_length (spinsF l) (H + 1)
    have l2 := partsIm_length (spinsF l) (H + 1)
    have r1 := partsRe_rng (spinsF l) (H + 1)
    have r2 := partsIm_rng (spinsF l) (H + 1)
    have hb : binsF l = (halfL (partsRe (spinsF l) (H + 1)) (shiftOf (partsRe (spinsF l) (H + 1)) (partsIm (spinsF l) (H + 1))), halfL (partsIm (spinsF l) (H + 1)) (shiftOf (partsRe (spinsF l) (H + 1)) (partsIm (spinsF l) (H + 1))), ((shiftOf (partsRe (spinsF l) (H + 1)) (partsIm (spinsF l) (H + 1)) : Nat) : Int)) := by
      unfold binsF
      rw [hl, if_pos hm, hH]
    rw [hb]
    generalize partsRe (spinsF l) (H + 1) = re at *
    generalize partsIm (spinsF l) (H + 1) = im at *
    show earshotref10_Bins.l0 ((k + 1999) + 1) _ _ _ _ _ _ = _
    rw [earshotref10_Bins.l0, hq.out, if_neg (by omega), bsome, if_pos (by simp [l1]; omega), bsome, if_pos (by simp [l1, l2]; omega), List.nil_append, rnorm_f (re ++ im) (by simp [l1, l2]; omega) (r1.append r2) _ (by omega), bsome]
    have hnn := normN_le (r1.append r2)
    unfold shiftOf
    by_cases hc : ((normN (re ++ im) : Nat) : Int) > 15
    · rw [if_pos hc]
      have e : wrap64 (((normN (re ++ im) : Nat) : Int) - 15) = ((normN (re ++ im) - 15 : Nat) : Int) := by
        rw [W_in (by omega) (by omega)]; omega
      rw [e]
      show earshotref10_Bins.j1 ((k + 1998) + 1) _ _ _ _ = _
      rw [earshotref10_Bins.j1]
      have h := rhalves re im (H + 1) H (normN (re ++ im) - 15) (by omega) l1 l2 rfl hN64.2.2 r1 r2 (N : Int) hq (H + 1) 0 (k + 1998 - 100 - (H + 1)) re im (by omega) l1 l2 (fun j _ => by rw [if_neg (by omega)]) (fun j _ => by rw [if_neg (by omega)])
      rw [show k + 1998 - 100 - (H + 1) + 100 + (H + 1) = k + 1998 by omega] at h
      exact h
    · rw [if_neg hc]
      have e : normN (re ++ im) - 15 = 0 := by omega
      rw [e]
      show earshotref10_Bins.j1 ((k + 1998) + 1) _ _ _ _ = _
      rw [earshotref10_Bins.j1]
      have h := rhalves re im (H + 1) H 0 (by omega) l1 l2 rfl hN64.2.2 r1 r2 (N : Int) hq (H + 1) 0 (k + 1998 - 100 - (H + 1)) re im (by omega) l1 l2 (fun j _ => by rw [if_neg (by omega)]) (fun j _ => by rw [if_neg (by omega)])
      rw [show k + 1998 - 100 - (H + 1) + 100 + (H + 1) = k + 1998 by omega] at h
      exact h
  | d + 1, n, hn => by
    have hN64 : 2 ≤ N ∧ N ≤ 64 ∧ H ≤ 32 ∧ H < N := by rcases fftMay_cases hm with rfl | rfl | rfl | rfl | rfl | rfl <;> omega
    have hq : Aside0 (wrap64 (Int.tdiv (N : Int) 2) = (H : Int)) := ⟨by
      have : Int.tdiv (N : Int) 2 = (H : Int) := by rw [Int.tdiv_eq_ediv_of_nonneg (by omega)]; omega
      rw [this]; exact W_in (by omega) (by omega)⟩
    have hs : earshotref10_Sum.f (n : Int) l = some ((spinsF l).getD n []) := by
      unfold earshotref10_Sum.f
      rw [if_pos (by simp only [Bool.and_eq_true, decide_eq_true_eq, List.all_eq_true]; exact ⟨⟨⟨by omega, fun x hx => hin x hx⟩, by omega⟩, by omega⟩)]
      unfold sumF
      rw [hl, if_pos hm, spinAt_row l hin (by rw [hl]; exact hm) n (by omega)]
    have hrl : ((spinsF l).getD n []).length ≤ 1000 := by
      rw [spinAt_row l hin (by rw [hl]; exact hm) n (by omega), spinAt_length, hl, hH]; omega
    have e1 : Aside0 (wrap64 ((n : Int) + 1) = ((n + 1 : Nat) : Int)) := ⟨by unfold wrap64; omega⟩
    have hre : earshotref09_Real.f (k + 2000 + d) ((spinsF l).getD n []) = some (sp_part ((spinsF l).getD n []) cosT) := up_ (fun k => earshotref09_Real.mono _ k) (refreal_f _ hrl) (by omega)
    have him : earshotref09_Imag.f (k + 2000 + d) ((spinsF l).getD n []) = some (wrap64 (-(sp_part ((spinsF l).getD n []) sinT))) := up_ (fun k => earshotref09_Imag.mono _ k) (refimag_f _ hrl) (by omega)
    rw [show k + 2000 + (d + 1) = (k + 2000 + d) + 1 by omega, earshotref10_Bins.l0, hq.out, if_pos (by omega), hs, bsome, hre, bsome, if_pos (by rw [partsRe_length]; omega), him, bsome, if_pos (by rw [partsIm_length]; omega), e1.out, partsRe_snoc, partsIm_snoc]
    exact rbins_l0 l hin N H hl hm hH k d (n + 1) (by omega)
theorem rbins_f (l : List Int) (hin : In64 l) (hl : l.length ≤ 70) (k : Nat) : earshotref10_Bins.f (k + 2100) l = some (binsF l) := by
  unfold earshotref10_Bins.f
  rw [rmay10_f _ (by omega), bsome]
  by_cases hm : fftMay l.length = true
  · rw [if_pos hm]
    have hH : l.length / 2 + 1 ≤ 100 := by omega
    have h := rbins_l0 l hin l.length (l.length / 2) rfl hm rfl (k + 100 - (l.length / 2 + 1)) (l.length / 2 + 1) 0 (by omega)
    rw [show k + 100 - (l.length / 2 + 1) + 2000 + (l.length / 2 + 1) = k + 2100 by omega] at h
    exact h
  · rw [if_neg hm]
    unfold binsF
    rw [if_neg hm]
theorem rd_nat (l : List Int) (n : Nat) : rd l (n : Int) = l.getD n 0 := by unfold rd; rw [Int.toNat_natCast]
theorem rpow_go (a b : List Int) (h : a.length = b.length) (hl : a.length ≤ 1000) (k : Nat) : ∀ (d n : Nat), n + d = a.length → earshotref10_Power.l0 (k + 1 + d) a b ((powL a b).take n) (n : Int) = some (powL a b)
  | 0, n, hn => by
    rw [earshotref10_Power.l0, if_neg (by omega), List.take_of_length_le (by rw [powL_length h]; omega)]
  | d + 1, n, hn => by
    have e1 : wrap64 ((n : Int) + 1) = ((n + 1 : Nat) : Int) := by unfold wrap64; omega
    have ez := zip_take (fun x y => wrap64 (wrap64 (x * x) + wrap64 (y * y))) a b n (by omega) (by omega)
    rw [show k + 1 + (d + 1) = (k + 1 + d) + 1 by omega, earshotref10_Power.l0, if_pos (by omega), if_pos (by omega), if_pos (by omega), if_pos (by rw [List.length_take]; omega), rd_nat, rd_nat, e1]
    have e2 : (powL a b).take n ++ [wrap64 (wrap64 (a.getD n 0 * a.getD n 0) + wrap64 (b.getD n 0 * b.getD n 0))] = (powL a b).take (n + 1) := ez
    rw [e2]
    exact rpow_go a b h hl k d (n + 1) (by omega)
theorem rpow_f (a b : List Int) (h : a.length = b.length) (hl : a.length ≤ 1000) (k : Nat) (hk : 1001 ≤ k) : earshotref10_Power.f k a b = some (powL a b) := by
  have := rpow_go a b h hl (k - 1 - a.length) a.length 0 (by omega)
  rw [show k - 1 - a.length + 1 + a.length = k by omega] at this
  exact this
theorem bins_len (v : List Int) (hl : v.length ≤ 70) : (binsF v).1.length = (binsF v).2.1.length ∧ (binsF v).1.length ≤ 40 := by
  unfold binsF
  split
  · simp only [halfL_length, partsRe_length, partsIm_length]
    exact ⟨trivial, by omega⟩
  · exact ⟨rfl, by decide⟩

def highF (x : Int) : Int := if 0 ≤ x ∧ x ≤ 64 then hiN x.toNat else 0
theorem rhi_fin : ∀ b : Fin 65, earshotref11_High.f 80 ((b.1 : Nat) : Int) = some (hiN b.1) := by decide +kernel
theorem rhiK {b : Nat} (hb : b ≤ 64) : ∀ k, 80 ≤ k → earshotref11_High.f k (b : Int) = some (hiN b) := by
  intro k hk
  obtain ⟨d, rfl⟩ := Nat.exists_eq_add_of_le hk
  clear hk
  induction d with
  | zero => exact rhi_fin ⟨b, by omega⟩
  | succ d ih => exact earshotref11_High.mono _ _ _ ih
theorem high_f (x : Int) : mel_High.f 30 x = some (highF x) := by
  unfold highF
  by_cases h : 0 ≤ x ∧ x ≤ 64
  · rw [if_pos h]
    obtain ⟨n, rfl⟩ := Int.eq_ofNat_of_zero_le h.1
    rw [Int.toNat_natCast]
    exact hi_some (by omega)
  · rw [if_neg h]
    unfold mel_High.f
    by_cases h0 : x < 0
    · rw [if_pos h0]
    · rw [if_neg h0, if_pos (by omega)]
theorem rhigh_f (x : Int) : earshotref11_High.f 80 x = some (highF x) := by
  unfold highF
  by_cases h : 0 ≤ x ∧ x ≤ 64
  · rw [if_pos h]
    obtain ⟨n, rfl⟩ := Int.eq_ofNat_of_zero_le h.1
    rw [Int.toNat_natCast]
    exact rhiK (by omega) 80 (Nat.le_refl _)
  · rw [if_neg h]
    unfold earshotref11_High.f
    by_cases h0 : x < 0
    · rw [if_pos h0]
    · rw [if_neg h0, if_pos (by omega)]
theorem prod_in {b : Nat} {c : Int} (hb : b ≤ 64) (h0 : 0 ≤ c) (h1 : c ≤ 17) : wrap64 (hiN b * c) = hiN b * c ∧ wrap64 (c * hiN b) = c * hiN b := by
  have hv := hi_bd hb
  have hq : 0 ≤ hiN b * c ∧ hiN b * c ≤ 170000 :=
    ⟨Int.mul_nonneg hv.1 h0, Int.le_trans (Int.mul_le_mul_of_nonneg_right hv.2 h0) (by omega)⟩
  have e := Int.mul_comm (hiN b) c
  generalize hiN b * c = P at *
  rw [← e]
  exact ⟨W_in (by omega) (by omega), W_in (by omega) (by omega)⟩
theorem rl1 {N B m : Nat} (hN : 1 ≤ N) (hN2 : N ≤ 64) (hB : B ≤ 16) (hm : m ≤ B + 1) (acc : List Int) (ha : acc.length < 17592186044416) : ∀ d b k, b + d = edgeOf (N + 1) (B + 1) m → 81 + d ≤ k →
    ∃ k', k ≤ k' + d + 1 ∧ earshotref11_Edges.l1 k ((N : Int) + 1) (B : Int) acc (m : Int) (b : Int) = earshotref11_Edges.l0 k' ((N : Int) + 1) (B : Int) (acc ++ [((edgeOf (N + 1) (B + 1) m : Nat) : Int)]) ((m + 1 : Nat) : Int) := by
  have sp := edge_spec (n := N + 1) (c := B + 1) (m := m) (by omega) (by omega) hm
  rw [Nat.add_sub_cancel] at sp
  generalize edgeOf (N + 1) (B + 1) m = E at *
  obtain ⟨s1, s2, s3⟩ := sp
  have w3 : wrap64 ((N : Int) + 1 - 1) = (N : Int) := by unfold wrap64; omega
  have w4 : wrap64 ((B : Int) + 1) = ((B + 1 : Nat) : Int) := by unfold wrap64; omega
  have hc0 : (0 : Int) ≤ ((B + 1 : Nat) : Int) := Int.natCast_nonneg _
  have hc1 : ((B + 1 : Nat) : Int) ≤ 17 := by omega
  have hc2 : (0 : Int) ≤ (m : Int) := Int.natCast_nonneg _
  have hc3 : (m : Int) ≤ 17 := by omega
  have p1 := (prod_in hN2 hc2 hc3).2
  have w2 : wrap64 ((m : Int) + 1) = ((m + 1 : Nat) : Int) := by clear s1 s3 p1; unfold wrap64; omega
  intro d
  induction d with
  | zero =>
    intro b k hb hk
    obtain ⟨k, rfl⟩ : ∃ j, k = j + 1 := ⟨k - 1, by clear s1 s3 p1 w2 w3 w4; omega⟩
    have hk8 : 80 ≤ k := by clear s1 s3 p1 w2 w3 w4; omega
    obtain rfl : b = E := hb
    have g0 := rhiK (Nat.le_trans s2 hN2) k hk8
    have g1 := rhiK hN2 k hk8
    have p0 := (prod_in (Nat.le_trans s2 hN2) hc0 hc1).1
    refine ⟨k, Nat.le_refl _, ?_⟩
    rw [earshotref11_Edges.l1, g0, bsome, w3, g1, bsome, w4, p0, p1, if_neg s3, if_pos ha, w2]
  | succ d ih =>
    intro b k hb hk
    obtain ⟨k, rfl⟩ : ∃ j, k = j + 1 := ⟨k - 1, by clear s1 s3 p1 w2 w3 w4; omega⟩
    have hk8 : 80 ≤ k := by clear s1 s3 p1 w2 w3 w4; omega
    have hlt : b < E := by clear s1 s3 p1 w2 w3 w4; omega
    have hb64 : b ≤ 64 := by clear s1 s3 p1 w2 w3 w4; omega
    have wb : wrap64 ((b : Int) + 1) = ((b + 1 : Nat) : Int) := by clear s1 s3 p1 w2 w3 w4; unfold wrap64; omega
    have g0 := rhiK hb64 k hk8
    have g1 := rhiK hN2 k hk8
    have p0 := (prod_in hb64 hc0 hc1).1
    have hd : k ≤ k := Nat.le_refl _
    obtain ⟨k', h1, h2⟩ := ih (b + 1) k (by clear s1 s3 p1 w2 w3 w4 p0 wb ih; omega) (by clear s1 s3 p1 w2 w3 w4 p0 wb ih; omega)
    refine ⟨k', by clear s1 s3 p1 w2 w3 w4 p0 wb ih h2; omega, ?_⟩
    rw [earshotref11_Edges.l1, g0, bsome, w3, g1, bsome, w4, p0, p1, if_pos (s1 b hlt), wb]
    exact h2
theorem range_snoc (f : Nat → Int) (m : Nat) : (List.range m).map f ++ [f m] = (List.range (m + 1)).map f := by rw [List.range_succ, List.map_append]; rfl
theorem rl0 {N B : Nat} (hN : 1 ≤ N) (hN2 : N ≤ 64) (hB : B ≤ 16) : ∀ d m k, m + d = B + 2 → 200 + 70 * d ≤ k →
    earshotref11_Edges.l0 k ((N : Int) + 1) (B : Int) ((List.range m).map fun j => ((edgeOf (N + 1) (B + 1) j : Nat) : Int)) (m : Int) = some (edgesL (N + 1) (B + 1)) := by
  intro d
  induction d with
  | zero =>
    intro m k hm hk
    obtain ⟨k, rfl⟩ : ∃ j, k = j + 1 := ⟨k - 1, by omega⟩
    have w4 : wrap64 ((B : Int) + 1) = ((B + 1 : Nat) : Int) := by unfold wrap64; omega
    have hn : ¬ (m : Int) ≤ ((B + 1 : Nat) : Int) := by clear w4; omega
    obtain rfl : m = B + 2 := hm
    rw [earshotref11_Edges.l0, w4, if_neg hn]
    rfl
  | succ d ih =>
    intro m k hm hk
    obtain ⟨k, rfl⟩ : ∃ j, k = j + 1 := ⟨k - 1, by omega⟩
    have w4 : wrap64 ((B : Int) + 1) = ((B + 1 : Nat) : Int) := by unfold wrap64; omega
    have hn : (m : Int) ≤ ((B + 1 : Nat) : Int) := by clear w4; omega
    have hE := (edge_spec (n := N + 1) (c := B + 1) (m := m) (by omega) (by omega) (by clear w4; omega)).2.1
    rw [Nat.add_sub_cancel] at hE
    obtain ⟨k', h1, h2⟩ := rl1 (N := N) (B := B) (m := m) hN hN2 hB (by clear w4; omega) ((List.range m).map fun j => ((edgeOf (N + 1) (B + 1) j : Nat) : Int)) (by rw [List.length_map, List.length_range]; clear w4; omega) (edgeOf (N + 1) (B + 1) m) 0 k (Nat.zero_add _) (by clear w4; omega)
    rw [show ((0 : Nat) : Int) = 0 from rfl, range_snoc (fun j => ((edgeOf (N + 1) (B + 1) j : Nat) : Int)) m] at h2
    rw [earshotref11_Edges.l0, w4, if_pos hn, h2]
    exact ih (m + 1) k' (by clear w4 h2; omega) (by clear w4 h2; omega)
theorem redges_f (a0 a1 : Int) : earshotref11_Edges.f 2000 a0 a1 = some (edgesF a0 a1) := by
  unfold edgesF earshotref11_Edges.f
  by_cases hm : mayE a0 a1 = true
  · rw [if_pos hm]
    simp only [mayE, Bool.and_eq_true, decide_eq_true_eq] at hm
    obtain ⟨N, hN⟩ := Int.eq_ofNat_of_zero_le (show 0 ≤ a0 - 1 by omega)
    obtain ⟨B, rfl⟩ := Int.eq_ofNat_of_zero_le (show 0 ≤ a1 by omega)
    obtain rfl : a0 = (N : Int) + 1 := by omega
    rw [if_neg (by omega), if_neg (by omega), if_neg (by omega), decide_eq_false (show ¬ (B : Int) > 16 by omega), earshotref11_Edges.j0, if_neg (by decide)]
    have := rl0 (N := N) (B := B) (by omega) (by omega) (by omega) (B + 2) 0 1999 (by omega) (by omega)
    rw [show ((N : Int) + 1).toNat = N + 1 by omega, Int.toNat_natCast]
    rw [show ((0 : Nat) : Int) = 0 from rfl] at this
    exact this
  · rw [if_neg hm]
    have hj : earshotref11_Edges.j0 2000 a0 a1 true = some [] := by rw [earshotref11_Edges.j0, if_pos rfl]
    by_cases c1 : a0 < 2
    · rw [if_pos c1, hj]
    by_cases c2 : a0 > 65
    · rw [if_neg c1, if_pos c2, hj]
    by_cases c3 : a1 < 1
    · rw [if_neg c1, if_neg c2, if_pos c3, hj]
    · have c4 : a1 > 16 := by
        apply Classical.byContradiction; intro c4; apply hm
        unfold mayE; simp only [Bool.and_eq_true, decide_eq_true_eq]; omega
      rw [if_neg c1, if_neg c2, if_neg c3, decide_eq_true c4, hj]

theorem ref_log_K {x k : Nat} (h : x < 2 ^ 64) (hk : 110 ≤ k) : earshotref03_Log.f k (x : Int) = some ((logN x : Nat) : Int) := by
  obtain ⟨d, rfl⟩ := Nat.exists_eq_add_of_le hk
  clear hk
  induction d with
  | zero => exact ref_log_some h
  | succ d ih => exact earshotref03_Log.mono _ _ _ ih
theorem ref_log_one {k : Nat} (hk : 110 ≤ k) : earshotref03_Log.f k 1 = some 0 := by
  have h := ref_log_K (x := 1) (by decide) hk
  rw [show logN 1 = 0 by decide +kernel] at h
  exact h
theorem rlogs_l0 (l : List Int) (hw : In64 l) (hl : l.length ≤ 1000) : ∀ e k i, i + e = l.length → e + 120 ≤ k →
    earshotref12_Logs.l0 k l ((logsL l).take i) (i : Int) = some (logsL l) := by
  intro e
  induction e with
  | zero =>
    intro k i hi hk
    obtain ⟨k, rfl⟩ : ∃ j, k = j + 1 := ⟨k - 1, by omega⟩
    obtain rfl : i = l.length := by omega
    rw [earshotref12_Logs.l0, if_neg (by omega), List.take_of_length_le (by rw [logsL_length]; exact Nat.le_refl _)]
  | succ e ih =>
    intro k i hi hk
    obtain ⟨k, rfl⟩ : ∃ j, k = j + 1 := ⟨k - 1, by omega⟩
    have hlt : i < l.length := by omega
    have c1 : (i : Int) < (l.length : Int) := by omega
    have c2 : (0 : Int) ≤ (i : Int) := by omega
    have c4 : ((logsL l).take i).length < 17592186044416 := by rw [List.length_take, logsL_length]; omega
    have hw1 : wrap64 ((i : Int) + 1) = ((i + 1 : Nat) : Int) := by unfold wrap64; omega
    have hk110 : 110 ≤ k := by omega
    have hgo := ih k (i + 1) (by omega) (by omega)
    have hr : rd l (i : Int) = l.getD i 0 := by unfold rd; rw [Int.toNat_natCast]
    have hx := hw.getD i
    have hx0 : -9223372036854775808 ≤ l.getD i 0 := by rw [← hx]; exact W_lo _
    have hx1 : l.getD i 0 ≤ 9223372036854775807 := by rw [← hx]; exact W_hi _
    have hs : (logsL l).take i ++ [logV (l.getD i 0)] = (logsL l).take (i + 1) := by
      rw [← logsL_getD l i hlt, List.take_succ_eq_append_getElem (by rw [logsL_length]; exact hlt), List.getD_eq_getElem?_getD, List.getElem?_eq_getElem (by rw [logsL_length]; exact hlt), Option.getD_some]
    rw [earshotref12_Logs.l0, if_pos c1, if_pos c2, hr]
    obtain ⟨a1, a2⟩ := logV_arg hx0 hx1
    by_cases hp : l.getD i 0 > 0
    · have ha : IntKind.u64.wrap (IntKind.u64.wrap (l.getD i 0) + 1) = (((if l.getD i 0 < 0 then 0 else l.getD i 0).toNat + 1 : Nat) : Int) := by
        rw [IntKind.wrap_u64, IntKind.wrap_u64, if_neg (by omega)]; clear a1 a2 hgo; omega
      rw [if_pos hp, ha, ref_log_K a2 hk110, bsome, if_pos c4, hw1]
      unfold logV at hs
      rw [hs]
      exact hgo
    · have hv : logV (l.getD i 0) = 0 := by
        have := (logV_le hx0 hx1).2.2.1 (by omega)
        exact this
      rw [if_neg hp, ref_log_one hk110, bsome, if_pos c4, hw1]
      rw [hv] at hs
      rw [hs]
      exact hgo
theorem rlogs_f (l : List Int) (hw : In64 l) (hl : l.length ≤ 1000) : earshotref12_Logs.f 1200 l = some (logsL l) := by
  unfold earshotref12_Logs.f
  exact rlogs_l0 l hw hl l.length 1200 0 (by omega) (by omega)
theorem rrow_fin4 : ∀ k : Fin 4, earshotref12_Row.f 60 ((k.1 : Nat) : Int) 4 = some (dctRow k.1 4) := by decide +kernel
theorem rrow_fin8 : ∀ k : Fin 8, earshotref12_Row.f 60 ((k.1 : Nat) : Int) 8 = some (dctRow k.1 8) := by decide +kernel
theorem rrow_fin16 : ∀ k : Fin 16, earshotref12_Row.f 60 ((k.1 : Nat) : Int) 16 = some (dctRow k.1 16) := by decide +kernel
theorem rmay_f (n : Int) : earshotref12_May.f n = some (mayB n.toNat) := by
  unfold earshotref12_May.f mayB
  by_cases h4 : n = 4
  · subst h4; rfl
  by_cases h8 : n = 8
  · subst h8; rfl
  by_cases h16 : n = 16
  · subst h16; rfl
  rw [if_neg h4, if_neg h8]
  have e4 : (n.toNat == 4) = false := by simp; omega
  have e8 : (n.toNat == 8) = false := by simp; omega
  have e16 : (n.toNat == 16) = false := by simp; omega
  have e : (n == 16) = false := by simp; omega
  rw [e4, e8, e16, e]; rfl
theorem rrow_0 (a0 a1 : Int) : earshotref12_Row.f 60 a0 a1 = some (rowF a0 a1) := by
  unfold rowF
  by_cases h : rowMay a0 a1 = true
  · rw [if_pos h]
    simp only [rowMay, Bool.and_eq_true, decide_eq_true_eq] at h
    obtain ⟨k, rfl⟩ := Int.eq_ofNat_of_zero_le h.1.2
    obtain ⟨n, rfl⟩ := Int.eq_ofNat_of_zero_le (show 0 ≤ a1 by omega)
    simp only [Int.toNat_natCast] at h ⊢
    rcases mayB_cases h.1.1 with rfl | rfl | rfl
    · exact rrow_fin4 ⟨k, by omega⟩
    · exact rrow_fin8 ⟨k, by omega⟩
    · exact rrow_fin16 ⟨k, by omega⟩
  · rw [if_neg h]
    have hj : earshotref12_Row.j0 60 a0 a1 true = some [] := by rw [earshotref12_Row.j0, if_pos rfl]
    unfold earshotref12_Row.f
    rw [rmay_f, bsome]
    cases hb : mayB a1.toNat
    · rw [if_neg (by decide), hj]
    · rw [if_pos rfl]
      by_cases c1 : a0 < 0
      · rw [if_pos c1, hj]
      · rw [if_neg c1, decide_eq_true (show a0 ≥ a1 from ?_), hj]
        apply Classical.byContradiction; intro c2; apply h
        unfold rowMay; rw [hb]; simp only [Bool.true_and, Bool.and_eq_true, decide_eq_true_eq]; omega
theorem rrow_f (a0 a1 : Int) : ∀ k, 60 ≤ k → earshotref12_Row.f k a0 a1 = some (rowF a0 a1) := by
  intro k hk
  obtain ⟨d, rfl⟩ := Nat.exists_eq_add_of_le hk
  clear hk
  induction d with
  | zero => exact rrow_0 a0 a1
  | succ d ih => exact earshotref12_Row.mono _ _ _ _ ih
theorem rdct_l1 (c : Int) (l out : List Int) (i n : Nat) (hl : l.length = n) (hn : n ≤ 16) (ho : out.length ≤ 16) (hi : i ≤ 16) : ∀ d j k, j + d = n → 100 + d ≤ k →
    ∃ k', k ≤ k' + d + 1 ∧ earshotref12_Dct.l1 k c l out (i : Int) (dctRow i n) (dS (dctRow i n) l j) (j : Int) = earshotref12_Dct.l0 k' c l (out ++ [dctV l i]) ((i + 1 : Nat) : Int) := by
  intro d
  induction d with
  | zero =>
    intro j k hj hk
    obtain ⟨k, rfl⟩ : ∃ m, k = m + 1 := ⟨k - 1, by omega⟩
    obtain rfl : j = n := by omega
    have hw1 : wrap64 ((i : Int) + 1) = ((i + 1 : Nat) : Int) := by unfold wrap64; omega
    have hh := rhalf_f (dS_in (dctRow i j) l j) 14 (by decide) k (by omega)
    have e14 : ((14 : Nat) : Int) = 14 := rfl
    have e2 : ((2 ^ 14 : Nat) : Int) = 16384 := by decide
    rw [e14, e2] at hh
    refine ⟨k, Nat.le_refl _, ?_⟩
    rw [earshotref12_Dct.l1, if_neg (by rw [hl]; omega), hh, bsome, if_pos (by omega), hw1]
    unfold dctV
    rw [hl]
  | succ d ih =>
    intro j k hj hk
    obtain ⟨k, rfl⟩ : ∃ m, k = m + 1 := ⟨k - 1, by omega⟩
    have hw1 : wrap64 ((j : Int) + 1) = ((j + 1 : Nat) : Int) := by unfold wrap64; omega
    have c1 : (j : Int) < (l.length : Int) := by rw [hl]; omega
    have c2 : (0 : Int) ≤ (j : Int) := by omega
    have c3 : (j : Int) < ((dctRow i n).length : Int) := by rw [dctRow_length]; omega
    obtain ⟨k', h1, h2⟩ := ih (j + 1) k (by omega) (by omega)
    refine ⟨k', by omega, ?_⟩
    rw [earshotref12_Dct.l1, if_pos c1, if_pos c2, if_pos c3, hw1]
    have e : wrap64 (dS (dctRow i n) l j + wrap64 (rd l (j : Int) * rd (dctRow i n) (j : Int))) = dS (dctRow i n) l (j + 1) := by
      unfold rd; rw [Int.toNat_natCast, Int.mul_comm]; rfl
    rw [e]
    exact h2
theorem dctL_snoc (l : List Int) (i : Nat) : dctL i l ++ [dctV l i] = dctL (i + 1) l := by unfold dctL; rw [List.range_succ, List.map_append]; rfl
theorem rdct_l0 (c n : Nat) (l : List Int) (hl : l.length = n) (hm : mayB n = true) (hc : c ≤ n) : ∀ e i k, i + e = c → 200 + 40 * e ≤ k → earshotref12_Dct.l0 k (c : Int) l (dctL i l) (i : Int) = some (dctL c l) := by
  have hn : n ≤ 16 := by rcases mayB_cases hm with rfl | rfl | rfl <;> omega
  intro e
  induction e with
  | zero =>
    intro i k hi hk
    obtain ⟨k, rfl⟩ : ∃ m, k = m + 1 := ⟨k - 1, by omega⟩
    obtain rfl : i = c := by omega
    rw [earshotref12_Dct.l0, if_neg (by omega)]
  | succ e ih =>
    intro i k hi hk
    obtain ⟨k, rfl⟩ : ∃ m, k = m + 1 := ⟨k - 1, by omega⟩
    have hr := rrow_f (i : Int) (n : Int) k (by omega)
    rw [rowF_yes hm (by omega)] at hr
    obtain ⟨k', h1, h2⟩ := rdct_l1 (c : Int) l (dctL i l) i n hl hn (by simp [dctL]; omega) (by omega) n 0 k (by omega) (by omega)
    rw [earshotref12_Dct.l0, if_pos (by omega), hl, hr, bsome]
    have e0 : dS (dctRow i n) l 0 = 0 := rfl
    rw [e0, show ((0 : Nat) : Int) = 0 from rfl] at h2
    rw [h2, dctL_snoc]
    exact ih (i + 1) k' (by omega) (by omega)
theorem rdct_f (a0 : Int) (l : List Int) : earshotref12_Dct.f 1000 a0 l = some (dctF a0 l) := by
  unfold earshotref12_Dct.f dctF
  rw [rmay_f, Int.toNat_natCast, bsome]
  by_cases h : dctMay a0 l.length = true
  · rw [if_pos h]
    simp only [dctMay, Bool.and_eq_true, decide_eq_true_eq] at h
    obtain ⟨c, rfl⟩ := Int.eq_ofNat_of_zero_le (show 0 ≤ a0 by omega)
    have hn : l.length ≤ 16 := by rcases mayB_cases h.1.1 with h | h | h <;> omega
    rw [h.1.1, if_pos rfl, if_neg (by omega), decide_eq_false (by omega), earshotref12_Dct.j0, if_neg (by decide), Int.toNat_natCast]
    exact rdct_l0 c l.length l rfl h.1.1 (by omega) c 0 999 (by omega) (by omega)
  · rw [if_neg h]
    have hj : earshotref12_Dct.j0 1000 a0 l true = some [] := by rw [earshotref12_Dct.j0, if_pos rfl]
    cases hb : mayB l.length
    · rw [if_neg (by decide), hj]
    · rw [if_pos rfl]
      by_cases c1 : a0 < 1
      · rw [if_pos c1, hj]
      · rw [if_neg c1, decide_eq_true (show a0 > (l.length : Int) from ?_), hj]
        apply Classical.byContradiction; intro c2; apply h
        unfold dctMay; rw [hb]; simp only [Bool.true_and, Bool.and_eq_true, decide_eq_true_eq]; omega
theorem dctF_length (a0 : Int) (l : List Int) : (dctF a0 l).length ≤ 16 := by
  unfold dctF
  split
  · rename_i h
    simp only [dctMay, Bool.and_eq_true, decide_eq_true_eq] at h
    have hn : l.length ≤ 16 := by rcases mayB_cases h.1.1 with h | h | h <;> omega
    simp [dctL]; omega
  · simp
theorem rowF_length (a0 a1 : Int) : (rowF a0 a1).length ≤ 16 := by
  unfold rowF
  split
  · rename_i h
    simp only [rowMay, Bool.and_eq_true, decide_eq_true_eq] at h
    rw [dctRow_length]
    rcases mayB_cases h.1.1 with h | h | h <;> omega
  · simp

theorem ref_right (s h b c p : Int) : earshotref13_Right.f s h b c p = some (rightB s h b c p) := rfl

theorem rin_f (x : Int) : earshotref13_in.f x (-65536) 65536 = some (!(badLV x)) := by
  unfold earshotref13_in.f badLV
  by_cases h1 : x ≥ -65536
  · rw [if_pos h1, decide_eq_false (show ¬ x < -65536 by omega)]
    by_cases h2 : x ≤ 65536
    · rw [decide_eq_true h2, decide_eq_false (show ¬ 65536 < x by omega)]; rfl
    · rw [decide_eq_false h2, decide_eq_true (show 65536 < x by omega)]; rfl
  · rw [if_neg h1, decide_eq_true (show x < -65536 by omega)]; rfl
theorem rall_l0 (ys : List Int) (hl : ys.length ≤ 1000) : ∀ (d n k : Nat), n + d = ys.length → d + 1 ≤ k → earshotref13_All.l0 k ys (-65536) 65536 (n : Int) = some (!((ys.drop n).any badLV))
  | 0, n, k, hn, hk => by
    obtain ⟨k, rfl⟩ : ∃ q, k = q + 1 := ⟨k - 1, by omega⟩
    rw [earshotref13_All.l0, if_neg (by omega), List.drop_of_length_le (by omega)]
    rfl
  | d + 1, n, k, hn, hk => by
    obtain ⟨k, rfl⟩ : ∃ q, k = q + 1 := ⟨k - 1, by omega⟩
    have e1 : wrap64 ((n : Int) + 1) = ((n + 1 : Nat) : Int) := by unfold wrap64; omega
    have hd : ys.drop n = ys.getD n 0 :: ys.drop (n + 1) := by
      rw [List.getD_eq_getElem?_getD, List.getElem?_eq_getElem (by omega)]
      exact List.drop_eq_getElem_cons (by omega)
    have ih := rall_l0 ys hl d (n + 1) k (by omega) (by omega)
    rw [earshotref13_All.l0, if_pos (by omega), if_pos (by omega), rd_nat, rin_f, bsome, hd, List.any_cons, e1, ih]
    cases badLV (ys.getD n 0)
    · rw [Bool.not_false, if_pos rfl, Bool.false_or]
    · rw [Bool.not_true, if_neg (by decide)]; rfl
theorem rall_f (ys : List Int) (hl : ys.length ≤ 1000) (k : Nat) (hk : 1001 ≤ k) : earshotref13_All.f k ys (-65536) 65536 = some (lvl ys) := by
  have h := rall_l0 ys hl ys.length 0 k (by omega) (by omega)
  rw [List.drop_zero] at h
  exact h
theorem rwin_f (s : Int) (h : sizeB s = true) (k : Nat) (hk : 200 ≤ k) : earshotref04_Window.f k s = some (winList s) := by
  have h0 : s = 16 ∨ s = 32 ∨ s = 64 := by simp [sizeB] at h; omega
  refine up_ (f := fun k => earshotref04_Window.f k s) (fun k => earshotref04_Window.mono _ k) (k := 200) ?_ hk
  rcases h0 with rfl | rfl | rfl
  · decide +kernel
  · decide +kernel
  · decide +kernel
theorem mid_get (G L : List Int) (n : Nat) (hG : n < G.length) (hL : n < L.length) : (G.take n ++ L.drop n).getD n 0 = L.getD n 0 := by
  rw [List.getD_eq_getElem?_getD, List.getElem?_append_right (by rw [List.length_take]; omega), List.length_take, List.getElem?_drop, List.getD_eq_getElem?_getD]
  congr 2
  omega
theorem mid_set (G L : List Int) (n : Nat) (hG : n < G.length) (hL : n < L.length) : (G.take n ++ L.drop n).set n (G.getD n 0) = G.take (n + 1) ++ L.drop (n + 1) := by
  have e1 : G.take (n + 1) = G.take n ++ [G.getD n 0] := by
    rw [List.take_add_one, List.getD_eq_getElem?_getD, List.getElem?_eq_getElem hG]; rfl
  have e2 : L.drop n = L.getD n 0 :: L.drop (n + 1) := by
    rw [List.getD_eq_getElem?_getD, List.getElem?_eq_getElem hL]
    exact List.drop_eq_getElem_cons hL
  rw [e1, e2, List.set_append_right _ _ (by rw [List.length_take]; omega), List.length_take, show n - min n G.length = 0 by omega, List.set_cons_zero, List.append_assoc]
  rfl
theorem rframe_l1 (s h b c p sh : Int) (re im L G : List Int) (B : Nat) (hL : L.length = B) (hG : G.length = B) (hB : B ≤ 16) (hx : ∀ j, j < B → G.getD j 0 = frameA (L.getD j 0) sh) :
    ∀ (d n k : Nat), n + d = B → 2000 + d ≤ k → earshotref13_Frame.l1 k (G.take n ++ L.drop n) (n : Int) s h b c p re im sh = some (dctF c G)
  | 0, n, k, hn, hk => by
    obtain ⟨k, rfl⟩ : ∃ q, k = q + 1 := ⟨k - 1, by omega⟩
    have e : G.take n ++ L.drop n = G := by rw [List.take_of_length_le (by omega), List.drop_of_length_le (by omega), List.append_nil]
    rw [e, earshotref13_Frame.l1, if_neg (by omega), up_ (f := fun k => earshotref12_Dct.f k c G) (fun k => earshotref12_Dct.mono _ _ k) (rdct_f c G) (by omega), bsome]
  | d + 1, n, k, hn, hk => by
    obtain ⟨k, rfl⟩ : ∃ q, k = q + 1 := ⟨k - 1, by omega⟩
    have e1 : wrap64 ((n : Int) + 1) = ((n + 1 : Nat) : Int) := by unfold wrap64; omega
    have hlen : (G.take n ++ L.drop n).length = B := by rw [List.length_append, List.length_take, List.length_drop]; omega
    have hv : wrap64 (L.getD n 0 + wrap64 (512 * sh)) = G.getD n 0 := (hx n (by omega)).symm
    rw [earshotref13_Frame.l1, if_pos (by omega), if_pos (by omega), rd_nat, Int.toNat_natCast, mid_get G L n (by omega) (by omega), hv, mid_set G L n (by omega) (by omega), e1]
    exact rframe_l1 s h b c p sh re im L G B hL hG hB hx d (n + 1) k (by omega) (by omega)
theorem rframe_l0 (s h b c p : Int) (N : Nat) (ys z out : List Int) (hs : (N : Int) = s) (hy : ys.length = N) (hw : (winList s).length = N) (hv : lvl ys = true) (hN : N ≤ 64) (hz : frameZ s ys = z)
    (hT : ∀ k, 3000 ≤ k → ((earshotref10_Bins.f k z).bind fun bt254 => ((earshotref10_Power.f k bt254.1 bt254.2.1).bind fun t262 => ((earshotref11_Edges.f k (wrap64 ((wrap64 (Int.tdiv s 2)) + 1)) b).bind fun t265 => ((earshotref11_Bands.f t262 t265).bind fun t268 => ((earshotref12_Logs.f k t268).bind fun t271 => (earshotref13_Frame.l1 k t271 0 s h b c p bt254.1 bt254.2.1 bt254.2.2)))))) = some out) :
    ∀ (d n k : Nat), n + d = N → 3100 + d ≤ k → earshotref13_Frame.l0 k ys (winList s) (z.take n) (n : Int) s h b c p = some out
  | 0, n, k, hn, hk => by
    obtain ⟨k, rfl⟩ : ∃ q, k = q + 1 := ⟨k - 1, by omega⟩
    have hzl : z.length = N := by rw [← hz, frameZ_length]; omega
    rw [List.take_of_length_le (by omega), earshotref13_Frame.l0, if_neg (by omega)]
    exact hT k (by omega)
  | d + 1, n, k, hn, hk => by
    obtain ⟨k, rfl⟩ : ∃ q, k = q + 1 := ⟨k - 1, by omega⟩
    have hzl : z.length = N := by rw [← hz, frameZ_length]; omega
    have e1 : wrap64 ((n : Int) + 1) = ((n + 1 : Nat) : Int) := by unfold wrap64; omega
    have hps := prod_small (lvl_at hv n) (winList_in s n)
    have e2 : wrap64 (ys.getD n 0 * (winList s).getD n 0) = ys.getD n 0 * (winList s).getD n 0 := by
      generalize ys.getD n 0 * (winList s).getD n 0 = q at hps
      unfold wrap64; omega
    have e3 := rhalf_f (x := ys.getD n 0 * (winList s).getD n 0) ⟨by omega, by omega⟩ 14 (by omega) k (by omega)
    rw [show ((2 ^ 14 : Nat) : Int) = 16384 by decide, ← frameZ_at s ys n (by omega), hz] at e3
    have e4 : z.take n ++ [z.getD n 0] = z.take (n + 1) := by
      rw [List.take_add_one, List.getD_eq_getElem?_getD, List.getElem?_eq_getElem (by omega)]; rfl
    rw [earshotref13_Frame.l0, if_pos (by omega), if_pos (by omega), if_pos (by omega), if_pos (by omega), rd_nat, rd_nat, e2]
    rw [show ((14 : Nat) : Int) = 14 by rfl] at e3
    rw [e3, bsome, if_pos (by rw [List.length_take]; omega), e4, e1]
    exact rframe_l0 s h b c p N ys z out hs hy hw hv hN hz hT d (n + 1) k (by omega) (by omega)
theorem rframe_yes (s h b c p : Int) (ys : List Int) (hr : rightB s h b c p = true) (hv : lvl ys = true) (hl : (ys.length : Int) = s) (k : Nat) (hk : 3200 ≤ k) : earshotref13_Frame.l0 k ys (winList s) [] 0 s h b c p = some (frameL s b c ys) := by
  have hr0 := hr
  simp only [rightB, Bool.and_eq_true, decide_eq_true_eq] at hr0
  obtain ⟨⟨⟨⟨⟨⟨⟨r0, r1⟩, r2⟩, r3⟩, r4⟩, r5⟩, r6⟩, r7⟩ := hr0
  obtain ⟨N, hs⟩ : ∃ N : Nat, (N : Int) = s := ⟨ys.length, hl⟩
  have hlN : ys.length = N := by omega
  have hN : N = 16 ∨ N = 32 ∨ N = 64 := by simp [sizeB] at r0; omega
  obtain ⟨B, hb⟩ : ∃ B : Nat, (B : Int) = b := ⟨b.toNat, by rcases mayB_cases r3 with h | h | h <;> omega⟩
  have hBm : B = 4 ∨ B = 8 ∨ B = 16 := by rcases mayB_cases r3 with h | h | h <;> omega
  have hmay : fftMay N = true := by rcases hN with rfl | rfl | rfl <;> decide
  have hsN : s.toNat = N := by omega
  have hbB : b.toNat = B := by omega
  obtain ⟨H1, hH⟩ : ∃ H1, N / 2 + 1 = H1 := ⟨_, rfl⟩
  have hN0 : 16 ≤ N := by omega
  have hN1 : N ≤ 64 := by omega
  have hB1 : B ≤ 16 := by omega
  have hH33 : H1 ≤ 33 := by omega
  obtain ⟨re, im, sh, hB⟩ : ∃ re im sh, binsF (frameZ s ys) = (re, im, sh) := ⟨_, _, _, rfl⟩
  have hed : (edgesF (s / 2 + 1) b).length = B + 2 := by
    unfold edgesF
    rw [if_pos (by simp only [mayE, Bool.and_eq_true, decide_eq_true_eq]; omega)]
    simp [edgesL]; omega
  have hG1 : frameG s b (frameZ s ys) = (List.range B).map fun m => frameA ((logsL (bandsL (powL re im) (edgesF (s / 2 + 1) b))).getD m 0) sh := by
    unfold frameG frameB
    rw [hbB, hB]
  have hzl : (frameZ s ys).length = N := by rw [frameZ_length, hsN]
  have hrl : re.length = H1 := by
    have e1 : re = (binsF (frameZ s ys)).1 := by rw [hB]
    rw [e1, binsF, hzl, if_pos hmay]; show (halfL _ _).length = _; rw [halfL, List.length_map, partsRe_length, hH]
  have hil : im.length = H1 := by
    have e1 : im = (binsF (frameZ s ys)).2.1 := by rw [hB]
    rw [e1, binsF, hzl, if_pos hmay]; show (halfL _ _).length = _; rw [halfL, List.length_map, partsIm_length, hH]
  have hpl : (powL re im).length = H1 := by rw [powL_length (by rw [hrl, hil]), hrl]
  have hbl : (bandsL (powL re im) (edgesF (s / 2 + 1) b)).length = B := by simp [bandsL, hed]
  have hgl : (frameG s b (frameZ s ys)).length = B := by rw [frameG_length, hbB]
  have hga : ∀ m, m < B → (frameG s b (frameZ s ys)).getD m 0 = frameA ((logsL (bandsL (powL re im) (edgesF (s / 2 + 1) b))).getD m 0) sh := fun m hm => by rw [hG1]; exact getD_map_range B (fun m => frameA ((logsL (bandsL (powL re im) (edgesF (s / 2 + 1) b))).getD m 0) sh) m hm
  have hll : (logsL (bandsL (powL re im) (edgesF (s / 2 + 1) b))).length = B := by rw [logsL_length, hbl]
  have hwl : (winList s).length = N := by rw [winList_len, if_pos r0, hsN]
  have hd2 : wrap64 ((wrap64 (Int.tdiv s 2)) + 1) = s / 2 + 1 := by
    rcases hN with rfl | rfl | rfl <;> (rw [← hs]; decide +kernel)
  have hzin : In64 (frameZ s ys) := frameZ_in s ys hv
  have hfl : frameL s b c ys = dctF c (frameG s b (frameZ s ys)) := rfl
  obtain ⟨Z, hZ⟩ : ∃ Z, frameZ s ys = Z := ⟨_, rfl⟩
  rw [hfl]
  refine rframe_l0 s h b c p N ys Z _ hs hlN hwl hv hN1 hZ ?_ N 0 k (by omega) (by omega)
  intro k hk
  rw [hZ] at hB hzin hzl hga hgl ⊢
  have hbn := rbins_f Z hzin (by omega) (k - 2100)
  rw [show k - 2100 + 2100 = k by omega, hB] at hbn
  rw [hbn, bsome]
  show ((earshotref10_Power.f k re im).bind fun t262 => _) = _
  rw [rpow_f re im (by rw [hrl, hil]) (by omega) k (by omega), bsome, hd2, up_ (f := fun k => earshotref11_Edges.f k (s / 2 + 1) b) (fun k => earshotref11_Edges.mono _ _ k) (redges_f _ _) (by omega), bsome]
  have hbd : earshotref11_Bands.f (powL re im) (edgesF (s / 2 + 1) b) = some (bandsL (powL re im) (edgesF (s / 2 + 1) b)) := by
    unfold earshotref11_Bands.f
    rw [if_pos (by simp only [Bool.and_eq_true, decide_eq_true_eq]; omega)]
  rw [hbd, bsome, up_ (f := fun k => earshotref12_Logs.f k (bandsL (powL re im) (edgesF (s / 2 + 1) b))) (fun k => earshotref12_Logs.mono _ k) (rlogs_f _ (bandsL_in _ _) (by omega)) (by omega), bsome]
  have h1 := rframe_l1 s h b c p sh re im (logsL (bandsL (powL re im) (edgesF (s / 2 + 1) b))) (frameG s b Z) B hll hgl hB1 hga B 0 k (by omega) (by omega)
  rw [List.take_zero, List.drop_zero, List.nil_append] at h1
  exact h1
theorem rframe_f (s h b c p : Int) (ys : List Int) (hl : ys.length ≤ 1000) (k : Nat) (hk : 5000 ≤ k) : earshotref13_Frame.f k s h b c p ys = some (frameF s h b c p ys) := by
  obtain ⟨k, rfl⟩ : ∃ q, k = q + 1 := ⟨k - 1, by omega⟩
  have e0 : earshotref13_Frame.j0 (k + 1) ys true s h b c p = some [] := by rw [earshotref13_Frame.j0, if_pos rfl]
  unfold earshotref13_Frame.f
  rw [ref_right, bsome, rall_f ys hl (k + 1) (by omega), bsome]
  by_cases hok : frameOk s h b c p ys = true
  · have hok0 := hok
    unfold frameF
    rw [if_pos hok]
    simp only [frameOk, Bool.and_eq_true, decide_eq_true_eq] at hok0
    obtain ⟨⟨hr, hlen⟩, hv⟩ := hok0
    have r0 : sizeB s = true := by
      have hr0 := hr
      simp only [rightB, Bool.and_eq_true, decide_eq_true_eq] at hr0
      exact hr0.1.1.1.1.1.1.1
    rw [if_pos hr, if_pos hv, earshotref13_Frame.j0, if_neg (by simp [hlen]), rwin_f s r0 k (by omega), bsome]
    exact rframe_yes s h b c p ys hr hv hlen k (by omega)
  · have hf : frameF s h b c p ys = [] := by unfold frameF; rw [if_neg hok]
    rw [hf]
    by_cases hr : rightB s h b c p = true
    · rw [if_pos hr]
      by_cases hv : lvl ys = true
      · rw [if_pos hv]
        have hne : ((ys.length : Int) != s) = true := by
          rw [bne_iff_ne]
          intro e
          exact hok (by simp only [frameOk, Bool.and_eq_true, decide_eq_true_eq]; exact ⟨⟨hr, e⟩, hv⟩)
        rw [hne, e0]
      · rw [if_neg hv, e0]
    · rw [if_neg hr, e0]

theorem fr_d {w0 : World} (A : Option Addr) (n cy K : Nat) (s h b c p : Int) (ys F : List Int) (W : World) (hB : Below w0.heap.size w0 W) (hG : GlobA W) (hl : ys.length = n) (hC : (Kd.int .i64).C W A n ys) (hF : frameF s h b c p ys = F) (hK : F.length = K) :
    Calls Tryd.prog 24 #[.agg #[.int .i64 s, .int .i64 h, .int .i64 b, .int .i64 c, .int .i64 p], .slice A n cy] W (CRes w0 W K F) := by
  subst hF
  refine (frame_go A cy n s h b c p ys W hG hl hC).mono ?_
  rintro e w' ⟨v, rfl, hR, hb⟩
  exact cres_of hB hR hK hb
theorem rfr_d {w0 : World} (A : Option Addr) (n cy K : Nat) (s h b c p : Int) (ys F : List Int) (W : World) (hB : Below w0.heap.size w0 W) (hl : ys.length = n) (hn : n ≤ 1000) (hc : n ≤ cy) (hC : (Kd.int .i64).C W A n ys) (hF : frameF s h b c p ys = F) (hK : F.length = K) :
    Calls Tryd.prog 25 #[.agg #[.int .i64 s, .int .i64 h, .int .i64 b, .int .i64 c, .int .i64 p], .slice A n cy] W (CRes w0 W K F) := by
  subst hF
  subst hl
  refine (earshotref13_Frame.calls 5000 s h b c p A cy ys _ W hC hc (rframe_f s h b c p ys hn 5000 (Nat.le_refl _))).mono ?_
  rintro e w' ⟨v, rfl, hR, hb⟩
  exact cres_of hB hR hK hb
theorem below_trans {w w1 w2 : World} (h : Below w.heap.size w w1) (k : Below w1.heap.size w1 w2) : Below w.heap.size w w2 := below_step h k
theorem frameF_le (s h b c p : Int) (ys : List Int) : (frameF s h b c p ys).length ≤ 100 := by
  by_cases hok : frameOk s h b c p ys = true
  · rw [frameF_len hok]
    simp only [frameOk, Bool.and_eq_true] at hok
    have hr := hok.1.1
    simp only [rightB, Bool.and_eq_true, decide_eq_true_eq] at hr
    obtain ⟨⟨⟨⟨⟨⟨⟨r0, r1⟩, r2⟩, r3⟩, r4⟩, r5⟩, r6⟩, r7⟩ := hr
    rcases mayB_cases r3 with h | h | h <;> omega
  · unfold frameF
    rw [if_neg hok]
    decide
theorem lvl_set {l : List Int} (h : lvl l = true) (i : Nat) {x : Int} (hx : -65536 ≤ x ∧ x ≤ 65536) : lvl (l.set i x) = true := by
  unfold lvl at h ⊢
  rw [Bool.not_eq_true', List.any_eq_false] at h ⊢
  intro y hy
  rcases List.mem_or_eq_of_mem_set hy with k | k
  · exact h y k
  · subst k
    unfold badLV
    rw [decide_eq_false (by omega), decide_eq_false (by omega)]
    decide
theorem lvl_zero (n : Nat) : lvl (List.replicate n 0) = true := by
  unfold lvl
  rw [Bool.not_eq_true', List.any_eq_false]
  intro y hy
  rw [List.eq_of_mem_replicate hy]
  decide
def earshotlaw13_FrontFrames.f (a0_0 a0_1 a0_2 a0_3 a0_4 : Int) (a1_0 a1_1 a1_2 : Int) (a1_3 a1_4 : Bool) (l2 : List Int) : Option (Bool) := if decide (l2.length ≤ 4000000000000000000) then some true else none
set_option maxHeartbeats 32000000 in
set_option maxRecDepth 100000 in
theorem ff_short (A : Option Addr) (n cy : Nat) (s h b c p x y z : Int) (a d : Bool) (Y : List Int) (w : World) (hG : GlobA w) (hl : Y.length = n) (hC : (Kd.int .i64).C w A n Y) (hnc : n ≤ cy) (hn : n ≤ 64) (hm : n ≤ 4000000000000000000) :
    Calls Tryd.prog 8 #[.agg #[.int .i64 s, .int .i64 h, .int .i64 b, .int .i64 c, .int .i64 p], .agg #[.int .i64 x, .int .i64 y, .int .i64 z, .bool a, .bool d], .slice A n cy] w fun e w' => e = .returned (.bool true) ∧ Below w.heap.size w w' := by
  have hu39 := Tryd.underlying39
  have hu41 := Tryd.underlying41
  obtain ⟨N, hN⟩ : ∃ N : Nat, (N : Int) = specS a := ⟨(specS a).toNat, by cases a <;> decide⟩
  have hN1 : N = 16 ∨ N = 32 := by
    have : specS a = 16 ∨ specS a = 32 := by cases a <;> decide
    omega
  have hsr := spec_right x y z a d
  have hsp := spec_go x y z a d
  rw [← hN] at hsr hsp
  generalize 1 + x % (N : Int) = h2 at hsr hsp
  generalize specB d = b2 at hsr hsp
  generalize 1 + y % b2 = c2 at hsr hsp
  generalize z % 32768 = p2 at hsr hsp
  have HSP : Aside0 (∀ W : World, Calls Tryd.prog 23 #[.agg #[.int .i64 x, .int .i64 y, .int .i64 z, .bool a, .bool d]] W fun e w' => e = .returned (.agg #[.int .i64 (N : Int), .int .i64 h2, .int .i64 b2, .int .i64 c2, .int .i64 p2]) ∧ Below W.heap.size W w') := ⟨hsp⟩
  have HR2 := Aside0.mk hsr
  have hN2 : N ≤ 32 := by omega
  have hN3 : 16 ≤ N := by omega
  have hmk := print_make 22 3 .i64 8 Tryd.underlying22 turn_info (by decide) N (by omega)
  have HC0 := Aside0.mk hC
  have HL0 := Aside0.mk hl
  have HG0 := Aside0.mk hG
  obtain ⟨FR, hFR⟩ : ∃ F, frameF s h b c p Y = F := ⟨_, rfl⟩
  obtain ⟨FQ, hFQ⟩ : ∃ F, frameF (N : Int) h2 b2 c2 p2 Y = F := ⟨_, rfl⟩
  obtain ⟨KR, hKR⟩ : ∃ k, FR.length = k := ⟨_, rfl⟩
  obtain ⟨KQ, hKQ⟩ : ∃ k, FQ.length = k := ⟨_, rfl⟩
  have hKR2 : KR ≤ 100 := by rw [← hKR, ← hFR]; exact frameF_le _ _ _ _ _ _
  have hKQ2 : KQ ≤ 100 := by rw [← hKQ, ← hFQ]; exact frameF_le _ _ _ _ _ _
  have HFR := Aside0.mk hFR
  have HFQ := Aside0.mk hFQ
  have HKR := Aside0.mk hKR
  have HKQ := Aside0.mk hKQ
  have hMc : n ≤ cy := by omega
  have hM1 : n ≤ 64 := by omega
  have hc64 : (64 : Int) ≤ (cy : Int) ∨ n ≤ 64 := by omega
  obtain ⟨rb, hrb⟩ : ∃ r, rightB s h b c p = r := ⟨_, rfl⟩
  have HRB := Aside0.mk hrb
  clear hsr hsp hC hl hG hN hN1 hFR hFQ hKR hKQ hrb
  have ST0 : True := trivial
  go_enter Tryd.func8, Tryd.ntmps8
  go_upto_region 5 with (first
    | ((with_reducible refine gate_dst (N := 3) rfl ?_); refine box_event ?hg (N := 3) ?hd (cs := #[.int .i64 s, .int .i64 h, .int .i64 b, .int .i64 c, .int .i64 p]) (t := 39) ?hr ?_; (case hd => rfl); (case hg => first | rfl | exact wanted_on rfl rfl rfl (by first | assumption | rfl | (simp [*]; done))); (case hr => first | (go_simp; done) | (go_simp; rfl)); intro g3 hg3 w1 hbox hb; have B3 := Aside0.mk hbox; have HB1 := Aside0.mk hb; have hgl3 : w.heap.size ≤ g3 := (by omega); clear ST0 hbox hb hg3; have ST1 : True := trivial)
    | ((with_reducible refine gate_dst (N := 4) rfl ?_); refine box_event ?hg (N := 4) ?hd (cs := #[.int .i64 x, .int .i64 y, .int .i64 z, .bool a, .bool d]) (t := 41) ?hr ?_; (case hd => rfl); (case hg => first | rfl | exact wanted_on rfl rfl rfl (by first | assumption | rfl | (simp [*]; done))); (case hr => first | (go_simp; done) | (go_simp; rfl)); intro g4 hg4 w2 hbox hb; have B4 := Aside0.mk hbox; have HB2 := Aside0.mk (below_step HB1.out hb); have B3n := Aside0.mk (blk_below B3.out hb); clear ST1 hbox hb hg4 HB1 B3; have B3 := B3n; clear B3n; have ST2 : True := trivial)
    | (go_at_call 22; clear ST2; (with_reducible refine (awake_go _ (HG0.out.below HB2.out)).mono ?_); rintro e_ w3 ⟨rfl, hb⟩; have HB3 := Aside0.mk (below_step HB2.out hb); have B3n := Aside0.mk (blk_below B3.out hb); have B4n := Aside0.mk (blk_below B4.out hb); clear hb HB2 B3 B4; have B3 := B3n; have B4 := B4n; clear B3n B4n; have q0 := blk_cell B4.out 0; have q1 := blk_cell B4.out 1; have q2 := blk_cell B4.out 2; have q3 := blk_cell B4.out 3; have q4 := blk_cell B4.out 4; have ST3 : True := trivial)
    | (go_at_call 23; clear ST3; (with_reducible refine (HSP.out _).mono ?_); rintro e_ w4 ⟨rfl, hb⟩; have HB4 := Aside0.mk (below_step HB3.out hb); have B3n := Aside0.mk (blk_below B3.out hb); clear hb HB3 B3 B4 q0 q1 q2 q3 q4; have B3 := B3n; clear B3n; have ST4 : True := trivial)
    | ((with_reducible refine gate_dst (N := 8) rfl ?_); refine box_event ?hg (N := 8) ?hd (cs := #[.int .i64 0, .int .i64 0, .int .i64 0, .int .i64 0, .int .i64 0]) (t := 39) ?hr ?_; (case hd => rfl); (case hg => first | rfl | exact wanted_on rfl rfl rfl (by first | assumption | rfl | (simp [*]; done))); (case hr => first | (go_simp; done) | (go_simp; rfl)); intro g8 hg8 w5 hbox hb; have B8 := Aside0.mk hbox; have HB5 := Aside0.mk (below_step HB4.out hb); have B3n := Aside0.mk (blk_below B3.out hb); have hgl8 : w.heap.size ≤ g8 := (by rw [hg8]; exact HB4.out.size); have hne8 : g3 ≠ g8 := (by rw [hg8]; exact Nat.ne_of_lt (blk_lt B3.out)); clear ST4 hbox hb hg8 HB4 B3; have B3 := B3n; clear B3n; have q0 := blk_cell B8.out 0; have q1 := blk_cell B8.out 1; have q2 := blk_cell B8.out 2; have q3 := blk_cell B8.out 3; have q4 := blk_cell B8.out 4; have f0 := blk_frozen B8.out 0; have f1 := blk_frozen B8.out 1; have f2 := blk_frozen B8.out 2; have f3 := blk_frozen B8.out 3; have f4 := blk_frozen B8.out 4; have ST5 : True := trivial))
  obtain ⟨w6, hw6⟩ : ∃ W, fill5 w5 g8 (.int .i64 (N : Int)) (.int .i64 h2) (.int .i64 b2) (.int .i64 c2) (.int .i64 p2) = W := ⟨_, rfl⟩
  have B8n := Aside0.mk (hw6 ▸ fill5_at B8.out (.int .i64 (N : Int)) (.int .i64 h2) (.int .i64 b2) (.int .i64 c2) (.int .i64 p2))
  have B3n := Aside0.mk (hw6 ▸ fill5_far (g := g8) B3.out hne8 (.int .i64 (N : Int)) (.int .i64 h2) (.int .i64 b2) (.int .i64 c2) (.int .i64 p2))
  have HB6 := Aside0.mk (hw6 ▸ fill5_below HB5.out hgl8 (.int .i64 (N : Int)) (.int .i64 h2) (.int .i64 b2) (.int .i64 c2) (.int .i64 p2))
  unfold fill5 at hw6
  rw [hw6]
  clear hw6 B8 B3 HB5 q0 q1 q2 q3 q4 f0 f1 f2 f3 f4 hne8
  have hbm := below_alloc (Below.refl w6.heap.size w6) (.cells (madeCells #[.int .i64 0] N) 3)
  have B8 := Aside0.mk (blk_below B8n.out hbm)
  have B3 := Aside0.mk (blk_below B3n.out hbm)
  have HBm := Aside0.mk (below_step HB6.out hbm)
  have HO0 : Aside0 (OwnT (w6.alloc (.cells (madeCells #[.int .i64 0] N) 3)) w.heap.size w6.heap.size N N (List.replicate N 0)) := ⟨own_made w6 w.heap.size 3 .i64 N HB6.out.size (by omega)⟩
  have HL0' : Aside0 (lvl (List.replicate N 0) = true) := ⟨lvl_zero N⟩
  have q0 := blk_cell B8n.out 0
  have hglw : w.heap.size ≤ w6.heap.size := HB6.out.size
  have hg3l : g3 ≠ w6.heap.size := Nat.ne_of_lt (blk_lt B3n.out)
  have hg8l : g8 ≠ w6.heap.size := Nat.ne_of_lt (blk_lt B8n.out)
  clear hbm B3n B8n HB6
  go_wp2
  go_loopw [10] (fun x wr => ∃ (i : Nat) (ls : List Int), i ≤ N ∧ x = .int .i64 (i : Int) ∧ Aside0 (lvl ls = true) ∧ Aside0 (OwnT wr w.heap.size w6.heap.size N N ls) ∧ Aside0 (wr.heap[g3]? = some (.cells #[.int .i64 s, .int .i64 h, .int .i64 b, .int .i64 c, .int .i64 p] 39 (0, 0))) ∧ Aside0 (wr.heap[g8]? = some (.cells #[.int .i64 (N : Int), .int .i64 h2, .int .i64 b2, .int .i64 c2, .int .i64 p2] 39 (0, 0))) ∧ Aside0 (Below w.heap.size w wr)) (fun x _ => N - (intOf x).toNat)
  case atStart => exact ⟨0, List.replicate N 0, by omega, rfl, HL0', HO0, B3, B8, HBm⟩
  case round =>
    clear HO0 HL0' B3 B8 HBm
    obtain ⟨i, ls, hi, rfl, HLV, HO, B3, B8, HB⟩ := hrel
    have hls := HO.out.len
    by_cases hlt : i < N ∧ i < n
    · obtain ⟨hlt1, hlt2⟩ := hlt
      have hC1 := Kd.C_below HC0.out HB.out
      obtain ⟨ad, rfl, hcs⟩ := sp_ad hC1 (by omega)
      have k0 := hcs i hlt2
      obtain ⟨yy, hyy⟩ : ∃ y, Y.getD i 0 = y := ⟨_, rfl⟩
      rw [hyy] at k0
      obtain ⟨q, hq⟩ : ∃ q, Int.tmod yy 65537 = q := ⟨_, rfl⟩
      have hq1 : -65536 ≤ q ∧ q ≤ 65536 := by
        have h1 := Int.natAbs_tmod yy 65537
        rw [hq] at h1
        have h2 := Nat.mod_lt yy.natAbs (show 0 < (65537 : Int).natAbs by decide)
        have h3 : (65537 : Int).natAbs = 65537 := rfl
        rw [h3] at h1 h2
        omega
      have e1 : IntKind.i64.wrap q = q := by rw [IntKind.wrap_i64]; omega
      have hlu := Aside0.mk (lvl_set HLV.out i hq1)
      have c1 := HO.out.cell i hlt1 rfl
      have u1 := HO.out.free i hlt1
      have j0 : (0 : Int) ≤ (i : Int) := by omega
      have j1 : (i : Int) < (N : Int) := by omega
      have j2 : (i : Int) < (n : Int) := by omega
      clear hcs hC1 hyy
      go_wp2
      go_roundw
      case rel => exact ⟨i + 1, ls.set i q, by omega, by go_num, hlu, ⟨HO.out.set i q⟩, ⟨blk_far B3.out hg3l _⟩, ⟨blk_far B8.out hg8l _⟩, ⟨below_set HB.out hglw⟩⟩
      case measure => simp [intOf]; omega
    · have hex : (¬ (i : Int) < (N : Int)) ∨ ((i : Int) < (N : Int) ∧ ¬ (i : Int) < (n : Int)) := by omega
      obtain ⟨FL, hFL⟩ : ∃ F, frameF (N : Int) h2 b2 c2 p2 ls = F := ⟨_, rfl⟩
      obtain ⟨KL, hKL⟩ : ∃ k, FL.length = k := ⟨_, rfl⟩
      have hKL2 : KL ≤ 100 := by rw [← hKL, ← hFL]; exact frameF_le _ _ _ _ _ _
      have hKLc : (KL : Int) = c2 := by
        have hok : frameOk (N : Int) h2 b2 c2 p2 ls = true := by
          simp only [frameOk, Bool.and_eq_true, decide_eq_true_eq]
          exact ⟨⟨HR2.out, by rw [hls]⟩, HLV.out⟩
        have hr := HR2.out
        simp only [rightB, Bool.and_eq_true, decide_eq_true_eq] at hr
        rw [← hKL, ← hFL, frameF_len hok]
        omega
      have HFL := Aside0.mk hFL
      have HKL := Aside0.mk hKL
      have HLS := Aside0.mk hls
      have HCY := Aside0.mk (Kd.C_below HC0.out HB.out)
      have HCL := Aside0.mk HO.out.C
      have HGR := Aside0.mk (HG0.out.below HB.out)
      have HF1 : Aside0 (∀ W : World, Below wr.heap.size wr W → Calls Tryd.prog 24 #[.agg #[.int .i64 s, .int .i64 h, .int .i64 b, .int .i64 c, .int .i64 p], .slice A n cy] W (CRes wr W KR FR)) := ⟨fun W hb => fr_d A _ cy KR s h b c p Y FR W hb (HGR.out.below hb) HL0.out (Kd.C_below HCY.out hb) HFR.out HKR.out⟩
      have HE1 : Aside0 (∀ W : World, Below wr.heap.size wr W → Calls Tryd.prog 25 #[.agg #[.int .i64 s, .int .i64 h, .int .i64 b, .int .i64 c, .int .i64 p], .slice A n cy] W (CRes wr W KR FR)) := ⟨fun W hb => rfr_d A _ cy KR s h b c p Y FR W hb HL0.out (by omega) hMc (Kd.C_below HCY.out hb) HFR.out HKR.out⟩
      have HF2 : Aside0 (∀ W : World, Below wr.heap.size wr W → Calls Tryd.prog 24 #[.agg #[.int .i64 (N : Int), .int .i64 h2, .int .i64 b2, .int .i64 c2, .int .i64 p2], .slice A n cy] W (CRes wr W KQ FQ)) := ⟨fun W hb => fr_d A _ cy KQ _ h2 b2 c2 p2 Y FQ W hb (HGR.out.below hb) HL0.out (Kd.C_below HCY.out hb) HFQ.out HKQ.out⟩
      have HE2 : Aside0 (∀ W : World, Below wr.heap.size wr W → Calls Tryd.prog 25 #[.agg #[.int .i64 (N : Int), .int .i64 h2, .int .i64 b2, .int .i64 c2, .int .i64 p2], .slice A n cy] W (CRes wr W KQ FQ)) := ⟨fun W hb => rfr_d A _ cy KQ _ h2 b2 c2 p2 Y FQ W hb HL0.out (by omega) hMc (Kd.C_below HCY.out hb) HFQ.out HKQ.out⟩
      have HF3 : Aside0 (∀ W : World, Below wr.heap.size wr W → Calls Tryd.prog 24 #[.agg #[.int .i64 (N : Int), .int .i64 h2, .int .i64 b2, .int .i64 c2, .int .i64 p2], .slice (some ⟨w6.heap.size, 0, none⟩) N N] W (CRes wr W KL FL)) := ⟨fun W hb => fr_d _ _ N KL _ h2 b2 c2 p2 ls FL W hb (HGR.out.below hb) HLS.out (Kd.C_below HCL.out hb) HFL.out HKL.out⟩
      have HE3 : Aside0 (∀ W : World, Below wr.heap.size wr W → Calls Tryd.prog 25 #[.agg #[.int .i64 (N : Int), .int .i64 h2, .int .i64 b2, .int .i64 c2, .int .i64 p2], .slice (some ⟨w6.heap.size, 0, none⟩) N N] W (CRes wr W KL FL)) := ⟨fun W hb => rfr_d _ _ N KL _ h2 b2 c2 p2 ls FL W hb HLS.out (by omega) (Nat.le_refl _) (Kd.C_below HCL.out hb) HFL.out HKL.out⟩
      have HSR : Aside0 (∀ (A1 : Option Addr) (c1 : Nat) (A2 : Option Addr) (c2 : Nat) (W : World), Below wr.heap.size wr W → (Kd.int .i64).C W A1 KR FR → (Kd.int .i64).C W A2 KR FR → KR ≤ c1 → KR ≤ c2 → Calls Tryd.prog 16 #[.slice A1 KR c1, .slice A2 KR c2] W fun e w' => e = .returned (.bool true) ∧ Aside0 (Below wr.heap.size wr w') ∧ Aside0 (Below W.heap.size W w')) := ⟨fun A1 c1 A2 c2 W hb h1 h2 k1 k2 => same_c A1 KR c1 A2 c2 FR FR W hb HKR.out rfl h1 h2 k1 k2 (by omega)⟩
      have HSQ : Aside0 (∀ (A1 : Option Addr) (c1 : Nat) (A2 : Option Addr) (c2 : Nat) (W : World), Below wr.heap.size wr W → (Kd.int .i64).C W A1 KQ FQ → (Kd.int .i64).C W A2 KQ FQ → KQ ≤ c1 → KQ ≤ c2 → Calls Tryd.prog 16 #[.slice A1 KQ c1, .slice A2 KQ c2] W fun e w' => e = .returned (.bool true) ∧ Aside0 (Below wr.heap.size wr w') ∧ Aside0 (Below W.heap.size W w')) := ⟨fun A1 c1 A2 c2 W hb h1 h2 k1 k2 => same_c A1 KQ c1 A2 c2 FQ FQ W hb HKQ.out rfl h1 h2 k1 k2 (by omega)⟩
      have HSL : Aside0 (∀ (A1 : Option Addr) (c1 : Nat) (A2 : Option Addr) (c2 : Nat) (W : World), Below wr.heap.size wr W → (Kd.int .i64).C W A1 KL FL → (Kd.int .i64).C W A2 KL FL → KL ≤ c1 → KL ≤ c2 → Calls Tryd.prog 16 #[.slice A1 KL c1, .slice A2 KL c2] W fun e w' => e = .returned (.bool true) ∧ Aside0 (Below wr.heap.size wr w') ∧ Aside0 (Below W.heap.size W w')) := ⟨fun A1 c1 A2 c2 W hb h1 h2 k1 k2 => same_c A1 KL c1 A2 c2 FL FL W hb HKL.out rfl h1 h2 k1 k2 (by omega)⟩
      have hB0 : Aside0 (Below wr.heap.size wr wr) := ⟨Below.refl _ _⟩
      clear hlt hFL hKL hls HO HCY HCL HLV
      have r0 := blk_cell B3.out 0
      have r1 := blk_cell B3.out 1
      have r2 := blk_cell B3.out 2
      have r3 := blk_cell B3.out 3
      have r4 := blk_cell B3.out 4
      go_upto_region 7 with fail
      go_cut [35] from 26 to 45 (fun v W => v = .bool false ∧ W = wr)
      case first =>
        rcases hex with e1 | ⟨e1, e2⟩
        all_goals
          go_wp2_with fail
          go_meet
          case rel => exact ⟨rfl, rfl⟩
      case rest =>
        obtain ⟨rfl, hw_⟩ := hcut
        replace hw_ := hw_.symm
        subst hw_
        go_upto_region 10 with (fail)
        have HBq := hB0
        clear r0 r1 r2 r3 r4
        go_cut [11] from 15 (fun v W => v = .bool true ∧ Aside0 (Below wr.heap.size wr W))
        case first =>
          have ST0 : True := trivial
          have r0 := blk_cell (blk_below B3.out HBq.out) 0
          have r1 := blk_cell (blk_below B3.out HBq.out) 1
          have r2 := blk_cell (blk_below B3.out HBq.out) 2
          have r3 := blk_cell (blk_below B3.out HBq.out) 3
          have r4 := blk_cell (blk_below B3.out HBq.out) 4
          go_region_held3 (fun w' => w'.cell? ⟨g3, 0, none⟩ = some (.int .i64 s) ∧ w'.cell? ⟨g3, 1, none⟩ = some (.int .i64 h) ∧ w'.cell? ⟨g3, 2, none⟩ = some (.int .i64 b) ∧ w'.cell? ⟨g3, 3, none⟩ = some (.int .i64 c) ∧ w'.cell? ⟨g3, 4, none⟩ = some (.int .i64 p))
            (first | go_keep | (go_split_ands; refine ⟨?_, ?_, ?_, ?_, ?_⟩ <;> (refine pw_cell_below hs.out ?_; assumption)))
            (first
            | (go_at_call 24; clear ST0; (with_reducible refine (HF1.out _ ?hb).mono ?_); (case hb => repeat (first | exact HBq.out | apply below_alloc | apply pw_below_drewN | apply below_drew1)); rintro e_ wa ⟨A1, d1, rfl, k1, C1, HBa, hs⟩; have ST1 : True := trivial)
            | (go_at_call 25; clear ST1; (with_reducible refine (HE1.out _ ?hb).mono ?_); (case hb => repeat (first | exact HBa.out | apply below_alloc | apply pw_below_drewN | apply below_drew1)); rintro e_ wb ⟨A2, d2, rfl, k2, C2, HBb, hs⟩; have hs2 := below_then (show Below wa.heap.size wa _ by repeat (first | exact Below.refl _ _ | apply below_alloc | apply pw_below_drewN | apply below_drew1)) (by simp) hs.out; have C1n := Aside0.mk (Kd.C_below C1.out hs2); clear hs2 C1; have C1 := C1n; clear C1n;  have ST3 : True := trivial)
            | (go_at_call 25; clear ST0; (with_reducible refine (HE1.out _ ?hb).mono ?_); (case hb => repeat (first | exact HBq.out | apply below_alloc | apply pw_below_drewN | apply below_drew1)); rintro e_ wa ⟨A2, d2, rfl, k2, C2, HBa, hs⟩; have ST2 : True := trivial)
            | (go_at_call 24; clear ST2; (with_reducible refine (HF1.out _ ?hb).mono ?_); (case hb => repeat (first | exact HBa.out | apply below_alloc | apply pw_below_drewN | apply below_drew1)); rintro e_ wb ⟨A1, d1, rfl, k1, C1, HBb, hs⟩; have hs2 := below_then (show Below wa.heap.size wa _ by repeat (first | exact Below.refl _ _ | apply below_alloc | apply pw_below_drewN | apply below_drew1)) (by simp) hs.out; have C2n := Aside0.mk (Kd.C_below C2.out hs2); clear hs2 C2; have C2 := C2n; clear C2n;  have ST3 : True := trivial)
            | (go_at_call 16; clear ST3; refine (HSR.out A1 d1 A2 d2 _ ?hb ?h1 ?h2 k1 k2).mono ?_; (case hb => repeat (first | exact HBb.out | apply below_alloc | apply pw_below_drewN | apply below_drew1)); (case h1 => repeat (first | exact C1.out | refine Kd.C_drewN ?_ _ | refine Kd.C_drew ?_)); (case h2 => repeat (first | exact C2.out | refine Kd.C_drewN ?_ _ | refine Kd.C_drew ?_)); rintro e_ ws ⟨rfl, HBs, hs⟩))
          all_goals
            go_wp2_with fail
            go_meet
            case rel => exact ⟨rfl, HBs⟩
        case rest =>
        obtain ⟨rfl, HBn⟩ := hcut
        clear HBq
        have HBq := HBn
        clear HBn
        go_upto_region 11 with (fail)
        go_cut [12] from 15 (fun v W => v = .bool true ∧ Aside0 (Below wr.heap.size wr W))
        case first =>
          have ST0 : True := trivial
          have r0 := blk_cell (blk_below B8.out HBq.out) 0
          have r1 := blk_cell (blk_below B8.out HBq.out) 1
          have r2 := blk_cell (blk_below B8.out HBq.out) 2
          have r3 := blk_cell (blk_below B8.out HBq.out) 3
          have r4 := blk_cell (blk_below B8.out HBq.out) 4
          go_region_held3 (fun w' => w'.cell? ⟨g8, 0, none⟩ = some (.int .i64 (N : Int)) ∧ w'.cell? ⟨g8, 1, none⟩ = some (.int .i64 h2) ∧ w'.cell? ⟨g8, 2, none⟩ = some (.int .i64 b2) ∧ w'.cell? ⟨g8, 3, none⟩ = some (.int .i64 c2) ∧ w'.cell? ⟨g8, 4, none⟩ = some (.int .i64 p2))
            (first | go_keep | (go_split_ands; refine ⟨?_, ?_, ?_, ?_, ?_⟩ <;> (refine pw_cell_below hs.out ?_; assumption)))
            (first
            | (go_at_call 24; clear ST0; (with_reducible refine (HF2.out _ ?hb).mono ?_); (case hb => repeat (first | exact HBq.out | apply below_alloc | apply pw_below_drewN | apply below_drew1)); rintro e_ wa ⟨A1, d1, rfl, k1, C1, HBa, hs⟩; have ST1 : True := trivial)
            | (go_at_call 25; clear ST1; (with_reducible refine (HE2.out _ ?hb).mono ?_); (case hb => repeat (first | exact HBa.out | apply below_alloc | apply pw_below_drewN | apply below_drew1)); rintro e_ wb ⟨A2, d2, rfl, k2, C2, HBb, hs⟩; have hs2 := below_then (show Below wa.heap.size wa _ by repeat (first | exact Below.refl _ _ | apply below_alloc | apply pw_below_drewN | apply below_drew1)) (by simp) hs.out; have C1n := Aside0.mk (Kd.C_below C1.out hs2); clear hs2 C1; have C1 := C1n; clear C1n;  have ST3 : True := trivial)
            | (go_at_call 25; clear ST0; (with_reducible refine (HE2.out _ ?hb).mono ?_); (case hb => repeat (first | exact HBq.out | apply below_alloc | apply pw_below_drewN | apply below_drew1)); rintro e_ wa ⟨A2, d2, rfl, k2, C2, HBa, hs⟩; have ST2 : True := trivial)
            | (go_at_call 24; clear ST2; (with_reducible refine (HF2.out _ ?hb).mono ?_); (case hb => repeat (first | exact HBa.out | apply below_alloc | apply pw_below_drewN | apply below_drew1)); rintro e_ wb ⟨A1, d1, rfl, k1, C1, HBb, hs⟩; have hs2 := below_then (show Below wa.heap.size wa _ by repeat (first | exact Below.refl _ _ | apply below_alloc | apply pw_below_drewN | apply below_drew1)) (by simp) hs.out; have C2n := Aside0.mk (Kd.C_below C2.out hs2); clear hs2 C2; have C2 := C2n; clear C2n;  have ST3 : True := trivial)
            | (go_at_call 16; clear ST3; refine (HSQ.out A1 d1 A2 d2 _ ?hb ?h1 ?h2 k1 k2).mono ?_; (case hb => repeat (first | exact HBb.out | apply below_alloc | apply pw_below_drewN | apply below_drew1)); (case h1 => repeat (first | exact C1.out | refine Kd.C_drewN ?_ _ | refine Kd.C_drew ?_)); (case h2 => repeat (first | exact C2.out | refine Kd.C_drewN ?_ _ | refine Kd.C_drew ?_)); rintro e_ ws ⟨rfl, HBs, hs⟩))
          all_goals
            go_wp2_with fail
            go_meet
            case rel => exact ⟨rfl, HBs⟩
        case rest =>
        obtain ⟨rfl, HBn⟩ := hcut
        clear HBq
        have HBq := HBn
        clear HBn
        go_upto_region 12 with (fail)
        go_cut [13] from 15 (fun v W => v = .bool true ∧ Aside0 (Below wr.heap.size wr W))
        case first =>
          have ST0 : True := trivial
          have r0 := blk_cell (blk_below B8.out HBq.out) 0
          have r1 := blk_cell (blk_below B8.out HBq.out) 1
          have r2 := blk_cell (blk_below B8.out HBq.out) 2
          have r3 := blk_cell (blk_below B8.out HBq.out) 3
          have r4 := blk_cell (blk_below B8.out HBq.out) 4
          go_region_held3 (fun w' => w'.cell? ⟨g8, 0, none⟩ = some (.int .i64 (N : Int)) ∧ w'.cell? ⟨g8, 1, none⟩ = some (.int .i64 h2) ∧ w'.cell? ⟨g8, 2, none⟩ = some (.int .i64 b2) ∧ w'.cell? ⟨g8, 3, none⟩ = some (.int .i64 c2) ∧ w'.cell? ⟨g8, 4, none⟩ = some (.int .i64 p2))
            (first | go_keep | (go_split_ands; refine ⟨?_, ?_, ?_, ?_, ?_⟩ <;> (refine pw_cell_below hs.out ?_; assumption)))
            (first
            | (go_at_call 24; clear ST0; (with_reducible refine (HF3.out _ ?hb).mono ?_); (case hb => repeat (first | exact HBq.out | apply below_alloc | apply pw_below_drewN | apply below_drew1)); rintro e_ wa ⟨A1, d1, rfl, k1, C1, HBa, hs⟩; have ST1 : True := trivial)
            | (go_at_call 25; clear ST1; (with_reducible refine (HE3.out _ ?hb).mono ?_); (case hb => repeat (first | exact HBa.out | apply below_alloc | apply pw_below_drewN | apply below_drew1)); rintro e_ wb ⟨A2, d2, rfl, k2, C2, HBb, hs⟩; have hs2 := below_then (show Below wa.heap.size wa _ by repeat (first | exact Below.refl _ _ | apply below_alloc | apply pw_below_drewN | apply below_drew1)) (by simp) hs.out; have C1n := Aside0.mk (Kd.C_below C1.out hs2); clear hs2 C1; have C1 := C1n; clear C1n;  have ST3 : True := trivial)
            | (go_at_call 25; clear ST0; (with_reducible refine (HE3.out _ ?hb).mono ?_); (case hb => repeat (first | exact HBq.out | apply below_alloc | apply pw_below_drewN | apply below_drew1)); rintro e_ wa ⟨A2, d2, rfl, k2, C2, HBa, hs⟩; have ST2 : True := trivial)
            | (go_at_call 24; clear ST2; (with_reducible refine (HF3.out _ ?hb).mono ?_); (case hb => repeat (first | exact HBa.out | apply below_alloc | apply pw_below_drewN | apply below_drew1)); rintro e_ wb ⟨A1, d1, rfl, k1, C1, HBb, hs⟩; have hs2 := below_then (show Below wa.heap.size wa _ by repeat (first | exact Below.refl _ _ | apply below_alloc | apply pw_below_drewN | apply below_drew1)) (by simp) hs.out; have C2n := Aside0.mk (Kd.C_below C2.out hs2); clear hs2 C2; have C2 := C2n; clear C2n;  have ST3 : True := trivial)
            | (go_at_call 16; clear ST3; refine (HSL.out A1 d1 A2 d2 _ ?hb ?h1 ?h2 k1 k2).mono ?_; (case hb => repeat (first | exact HBb.out | apply below_alloc | apply pw_below_drewN | apply below_drew1)); (case h1 => repeat (first | exact C1.out | refine Kd.C_drewN ?_ _ | refine Kd.C_drew ?_)); (case h2 => repeat (first | exact C2.out | refine Kd.C_drewN ?_ _ | refine Kd.C_drew ?_)); rintro e_ ws ⟨rfl, HBs, hs⟩))
          all_goals
            go_wp2_with fail
            go_meet
            case rel => exact ⟨rfl, HBs⟩
        case rest =>
        obtain ⟨rfl, HBn⟩ := hcut
        clear HBq
        have HBq := HBn
        clear HBn
        have r0 := blk_cell (blk_below B3.out HBq.out) 0
        have r1 := blk_cell (blk_below B3.out HBq.out) 1
        have r2 := blk_cell (blk_below B3.out HBq.out) 2
        have r3 := blk_cell (blk_below B3.out HBq.out) 3
        have r4 := blk_cell (blk_below B3.out HBq.out) 4
        have ST0 : True := trivial
        go_upto_region 14 with (first
          | (go_at_call 26; clear ST0; (with_reducible refine (earshotref13_Right.calls s h b c p rb _ ?hr).mono ?_); (case hr => rw [ref_right, HRB.out]); rintro e_ wb ⟨rfl, hs⟩; have HBb := Aside0.mk (below_step HBq.out hs); clear hs r0 r1 r2 r3 r4; have ST1 : True := trivial))
        have r0 := blk_cell (blk_below B3.out HBb.out) 0
        have r1 := blk_cell (blk_below B3.out HBb.out) 1
        have r2 := blk_cell (blk_below B3.out HBb.out) 2
        have r3 := blk_cell (blk_below B3.out HBb.out) 3
        have r4 := blk_cell (blk_below B3.out HBb.out) 4
        have t0 := blk_cell (blk_below B8.out HBb.out) 0
        have t1 := blk_cell (blk_below B8.out HBb.out) 1
        have t2 := blk_cell (blk_below B8.out HBb.out) 2
        have t3 := blk_cell (blk_below B8.out HBb.out) 3
        have t4 := blk_cell (blk_below B8.out HBb.out) 4
        have HRT : Aside0 (∀ W : World, Below wr.heap.size wr W → Calls Tryd.prog 27 #[.agg #[.int .i64 s, .int .i64 h, .int .i64 b, .int .i64 c, .int .i64 p]] W fun e w' => e = .returned (.bool rb) ∧ Aside0 (Below wr.heap.size wr w') ∧ Aside0 (Below W.heap.size W w')) := ⟨fun W hb => (right_go s h b c p rb W (HGR.out.below hb) HRB.out).mono fun e w' ⟨k, q⟩ => ⟨k, ⟨below_step hb q⟩, ⟨q⟩⟩⟩
        have HRU : Aside0 (∀ W : World, Below wr.heap.size wr W → Calls Tryd.prog 27 #[.agg #[.int .i64 (N : Int), .int .i64 h2, .int .i64 b2, .int .i64 c2, .int .i64 p2]] W fun e w' => e = .returned (.bool true) ∧ Aside0 (Below wr.heap.size wr w') ∧ Aside0 (Below W.heap.size W w')) := ⟨fun W hb => (right_go _ h2 b2 c2 p2 true W (HGR.out.below hb) HR2.out).mono fun e w' ⟨k, q⟩ => ⟨k, ⟨below_step hb q⟩, ⟨q⟩⟩⟩
        subst hKLc
        clear HF1 HE1 HF2 HE2 HE3 HSR HSQ HSL HFR HFQ HKR HKQ HFL HKL HR2 HRB
        cases rb
        all_goals
          have ST0 : True := trivial
          go_region_held3 (fun w' => w'.cell? ⟨g3, 0, none⟩ = some (.int .i64 s) ∧ w'.cell? ⟨g3, 1, none⟩ = some (.int .i64 h) ∧ w'.cell? ⟨g3, 2, none⟩ = some (.int .i64 b) ∧ w'.cell? ⟨g3, 3, none⟩ = some (.int .i64 c) ∧ w'.cell? ⟨g3, 4, none⟩ = some (.int .i64 p) ∧ w'.cell? ⟨g8, 0, none⟩ = some (.int .i64 (N : Int)) ∧ w'.cell? ⟨g8, 1, none⟩ = some (.int .i64 h2) ∧ w'.cell? ⟨g8, 2, none⟩ = some (.int .i64 b2) ∧ w'.cell? ⟨g8, 3, none⟩ = some (.int .i64 (KL : Int)) ∧ w'.cell? ⟨g8, 4, none⟩ = some (.int .i64 p2))
            (first | go_keep | (go_split_ands; refine ⟨?_, ?_, ?_, ?_, ?_, ?_, ?_, ?_, ?_, ?_⟩ <;> (refine pw_cell_below hs.out ?_; assumption)))
            (first
            | (go_at_call 24; clear ST0; (with_reducible refine (HF3.out _ ?hb).mono ?_); (case hb => repeat (first | exact HBb.out | apply below_alloc | apply pw_below_drewN | apply below_drew1)); rintro e_ wx ⟨AX, dX, rfl, kX, CX, HBx, hs⟩; have ST1 : True := trivial)
            | (go_at_call 27; clear ST1; (with_reducible refine (HRT.out _ ?hb).mono ?_); (case hb => repeat (first | exact HBx.out | apply below_alloc | apply pw_below_drewN | apply below_drew1)); rintro e_ wy ⟨rfl, HBy, hs⟩; have ST2 : True := trivial)
            | (go_at_call 27; clear ST2; (with_reducible refine (HRU.out _ ?hb).mono ?_); (case hb => repeat (first | exact HBy.out | apply below_alloc | apply pw_below_drewN | apply below_drew1)); rintro e_ wz ⟨rfl, HBz, hs⟩))
          all_goals
            go_wp2
            go_ret
            exact ⟨rfl, below_trans HB.out HBz.out⟩
set_option maxHeartbeats 32000000 in
set_option maxRecDepth 100000 in
theorem ff_long (A : Option Addr) (n cy : Nat) (s h b c p x y z : Int) (a d : Bool) (Y : List Int) (w : World) (hG : GlobA w) (hl : Y.length = 64) (hC : (Kd.int .i64).C w A 64 Y) (hnc : n ≤ cy) (hn : 64 < n) (hm : n ≤ 4000000000000000000) :
    Calls Tryd.prog 8 #[.agg #[.int .i64 s, .int .i64 h, .int .i64 b, .int .i64 c, .int .i64 p], .agg #[.int .i64 x, .int .i64 y, .int .i64 z, .bool a, .bool d], .slice A n cy] w fun e w' => e = .returned (.bool true) ∧ Below w.heap.size w w' := by
  have hu39 := Tryd.underlying39
  have hu41 := Tryd.underlying41
  obtain ⟨N, hN⟩ : ∃ N : Nat, (N : Int) = specS a := ⟨(specS a).toNat, by cases a <;> decide⟩
  have hN1 : N = 16 ∨ N = 32 := by
    have : specS a = 16 ∨ specS a = 32 := by cases a <;> decide
    omega
  have hsr := spec_right x y z a d
  have hsp := spec_go x y z a d
  rw [← hN] at hsr hsp
  generalize 1 + x % (N : Int) = h2 at hsr hsp
  generalize specB d = b2 at hsr hsp
  generalize 1 + y % b2 = c2 at hsr hsp
  generalize z % 32768 = p2 at hsr hsp
  have HSP : Aside0 (∀ W : World, Calls Tryd.prog 23 #[.agg #[.int .i64 x, .int .i64 y, .int .i64 z, .bool a, .bool d]] W fun e w' => e = .returned (.agg #[.int .i64 (N : Int), .int .i64 h2, .int .i64 b2, .int .i64 c2, .int .i64 p2]) ∧ Below W.heap.size W w') := ⟨hsp⟩
  have HR2 := Aside0.mk hsr
  have hN2 : N ≤ 32 := by omega
  have hN3 : 16 ≤ N := by omega
  have hmk := print_make 22 3 .i64 8 Tryd.underlying22 turn_info (by decide) N (by omega)
  have HC0 := Aside0.mk hC
  have HL0 := Aside0.mk hl
  have HG0 := Aside0.mk hG
  obtain ⟨FR, hFR⟩ : ∃ F, frameF s h b c p Y = F := ⟨_, rfl⟩
  obtain ⟨FQ, hFQ⟩ : ∃ F, frameF (N : Int) h2 b2 c2 p2 Y = F := ⟨_, rfl⟩
  obtain ⟨KR, hKR⟩ : ∃ k, FR.length = k := ⟨_, rfl⟩
  obtain ⟨KQ, hKQ⟩ : ∃ k, FQ.length = k := ⟨_, rfl⟩
  have hKR2 : KR ≤ 100 := by rw [← hKR, ← hFR]; exact frameF_le _ _ _ _ _ _
  have hKQ2 : KQ ≤ 100 := by rw [← hKQ, ← hFQ]; exact frameF_le _ _ _ _ _ _
  have HFR := Aside0.mk hFR
  have HFQ := Aside0.mk hFQ
  have HKR := Aside0.mk hKR
  have HKQ := Aside0.mk hKQ
  have hMc : 64 ≤ cy := by omega
  have hM1 : 64 ≤ 64 := by omega
  have hc64 : (64 : Int) ≤ (cy : Int) ∨ n ≤ 64 := by omega
  obtain ⟨rb, hrb⟩ : ∃ r, rightB s h b c p = r := ⟨_, rfl⟩
  have HRB := Aside0.mk hrb
  clear hsr hsp hC hl hG hN hN1 hFR hFQ hKR hKQ hrb
  have ST0 : True := trivial
  go_enter Tryd.func8, Tryd.ntmps8
  go_upto_region 5 with (first
    | ((with_reducible refine gate_dst (N := 3) rfl ?_); refine box_event ?hg (N := 3) ?hd (cs := #[.int .i64 s, .int .i64 h, .int .i64 b, .int .i64 c, .int .i64 p]) (t := 39) ?hr ?_; (case hd => rfl); (case hg => first | rfl | exact wanted_on rfl rfl rfl (by first | assumption | rfl | (simp [*]; done))); (case hr => first | (go_simp; done) | (go_simp; rfl)); intro g3 hg3 w1 hbox hb; have B3 := Aside0.mk hbox; have HB1 := Aside0.mk hb; have hgl3 : w.heap.size ≤ g3 := (by omega); clear ST0 hbox hb hg3; have ST1 : True := trivial)
    | ((with_reducible refine gate_dst (N := 4) rfl ?_); refine box_event ?hg (N := 4) ?hd (cs := #[.int .i64 x, .int .i64 y, .int .i64 z, .bool a, .bool d]) (t := 41) ?hr ?_; (case hd => rfl); (case hg => first | rfl | exact wanted_on rfl rfl rfl (by first | assumption | rfl | (simp [*]; done))); (case hr => first | (go_simp; done) | (go_simp; rfl)); intro g4 hg4 w2 hbox hb; have B4 := Aside0.mk hbox; have HB2 := Aside0.mk (below_step HB1.out hb); have B3n := Aside0.mk (blk_below B3.out hb); clear ST1 hbox hb hg4 HB1 B3; have B3 := B3n; clear B3n; have ST2 : True := trivial)
    | (go_at_call 22; clear ST2; (with_reducible refine (awake_go _ (HG0.out.below HB2.out)).mono ?_); rintro e_ w3 ⟨rfl, hb⟩; have HB3 := Aside0.mk (below_step HB2.out hb); have B3n := Aside0.mk (blk_below B3.out hb); have B4n := Aside0.mk (blk_below B4.out hb); clear hb HB2 B3 B4; have B3 := B3n; have B4 := B4n; clear B3n B4n; have q0 := blk_cell B4.out 0; have q1 := blk_cell B4.out 1; have q2 := blk_cell B4.out 2; have q3 := blk_cell B4.out 3; have q4 := blk_cell B4.out 4; have ST3 : True := trivial)
    | (go_at_call 23; clear ST3; (with_reducible refine (HSP.out _).mono ?_); rintro e_ w4 ⟨rfl, hb⟩; have HB4 := Aside0.mk (below_step HB3.out hb); have B3n := Aside0.mk (blk_below B3.out hb); clear hb HB3 B3 B4 q0 q1 q2 q3 q4; have B3 := B3n; clear B3n; have ST4 : True := trivial)
    | ((with_reducible refine gate_dst (N := 8) rfl ?_); refine box_event ?hg (N := 8) ?hd (cs := #[.int .i64 0, .int .i64 0, .int .i64 0, .int .i64 0, .int .i64 0]) (t := 39) ?hr ?_; (case hd => rfl); (case hg => first | rfl | exact wanted_on rfl rfl rfl (by first | assumption | rfl | (simp [*]; done))); (case hr => first | (go_simp; done) | (go_simp; rfl)); intro g8 hg8 w5 hbox hb; have B8 := Aside0.mk hbox; have HB5 := Aside0.mk (below_step HB4.out hb); have B3n := Aside0.mk (blk_below B3.out hb); have hgl8 : w.heap.size ≤ g8 := (by rw [hg8]; exact HB4.out.size); have hne8 : g3 ≠ g8 := (by rw [hg8]; exact Nat.ne_of_lt (blk_lt B3.out)); clear ST4 hbox hb hg8 HB4 B3; have B3 := B3n; clear B3n; have q0 := blk_cell B8.out 0; have q1 := blk_cell B8.out 1; have q2 := blk_cell B8.out 2; have q3 := blk_cell B8.out 3; have q4 := blk_cell B8.out 4; have f0 := blk_frozen B8.out 0; have f1 := blk_frozen B8.out 1; have f2 := blk_frozen B8.out 2; have f3 := blk_frozen B8.out 3; have f4 := blk_frozen B8.out 4; have ST5 : True := trivial))
  obtain ⟨w6, hw6⟩ : ∃ W, fill5 w5 g8 (.int .i64 (N : Int)) (.int .i64 h2) (.int .i64 b2) (.int .i64 c2) (.int .i64 p2) = W := ⟨_, rfl⟩
  have B8n := Aside0.mk (hw6 ▸ fill5_at B8.out (.int .i64 (N : Int)) (.int .i64 h2) (.int .i64 b2) (.int .i64 c2) (.int .i64 p2))
  have B3n := Aside0.mk (hw6 ▸ fill5_far (g := g8) B3.out hne8 (.int .i64 (N : Int)) (.int .i64 h2) (.int .i64 b2) (.int .i64 c2) (.int .i64 p2))
  have HB6 := Aside0.mk (hw6 ▸ fill5_below HB5.out hgl8 (.int .i64 (N : Int)) (.int .i64 h2) (.int .i64 b2) (.int .i64 c2) (.int .i64 p2))
  unfold fill5 at hw6
  rw [hw6]
  clear hw6 B8 B3 HB5 q0 q1 q2 q3 q4 f0 f1 f2 f3 f4 hne8
  have hbm := below_alloc (Below.refl w6.heap.size w6) (.cells (madeCells #[.int .i64 0] N) 3)
  have B8 := Aside0.mk (blk_below B8n.out hbm)
  have B3 := Aside0.mk (blk_below B3n.out hbm)
  have HBm := Aside0.mk (below_step HB6.out hbm)
  have HO0 : Aside0 (OwnT (w6.alloc (.cells (madeCells #[.int .i64 0] N) 3)) w.heap.size w6.heap.size N N (List.replicate N 0)) := ⟨own_made w6 w.heap.size 3 .i64 N HB6.out.size (by omega)⟩
  have HL0' : Aside0 (lvl (List.replicate N 0) = true) := ⟨lvl_zero N⟩
  have q0 := blk_cell B8n.out 0
  have hglw : w.heap.size ≤ w6.heap.size := HB6.out.size
  have hg3l : g3 ≠ w6.heap.size := Nat.ne_of_lt (blk_lt B3n.out)
  have hg8l : g8 ≠ w6.heap.size := Nat.ne_of_lt (blk_lt B8n.out)
  clear hbm B3n B8n HB6
  go_wp2
  go_loopw [10] (fun x wr => ∃ (i : Nat) (ls : List Int), i ≤ N ∧ x = .int .i64 (i : Int) ∧ Aside0 (lvl ls = true) ∧ Aside0 (OwnT wr w.heap.size w6.heap.size N N ls) ∧ Aside0 (wr.heap[g3]? = some (.cells #[.int .i64 s, .int .i64 h, .int .i64 b, .int .i64 c, .int .i64 p] 39 (0, 0))) ∧ Aside0 (wr.heap[g8]? = some (.cells #[.int .i64 (N : Int), .int .i64 h2, .int .i64 b2, .int .i64 c2, .int .i64 p2] 39 (0, 0))) ∧ Aside0 (Below w.heap.size w wr)) (fun x _ => N - (intOf x).toNat)
  case atStart => exact ⟨0, List.replicate N 0, by omega, rfl, HL0', HO0, B3, B8, HBm⟩
  case round =>
    clear HO0 HL0' B3 B8 HBm
    obtain ⟨i, ls, hi, rfl, HLV, HO, B3, B8, HB⟩ := hrel
    have hls := HO.out.len
    by_cases hlt : i < N ∧ i < 64
    · obtain ⟨hlt1, hlt2⟩ := hlt
      have hC1 := Kd.C_below HC0.out HB.out
      obtain ⟨ad, rfl, hcs⟩ := sp_ad hC1 (by omega)
      have k0 := hcs i hlt2
      obtain ⟨yy, hyy⟩ : ∃ y, Y.getD i 0 = y := ⟨_, rfl⟩
      rw [hyy] at k0
      obtain ⟨q, hq⟩ : ∃ q, Int.tmod yy 65537 = q := ⟨_, rfl⟩
      have hq1 : -65536 ≤ q ∧ q ≤ 65536 := by
        have h1 := Int.natAbs_tmod yy 65537
        rw [hq] at h1
        have h2 := Nat.mod_lt yy.natAbs (show 0 < (65537 : Int).natAbs by decide)
        have h3 : (65537 : Int).natAbs = 65537 := rfl
        rw [h3] at h1 h2
        omega
      have e1 : IntKind.i64.wrap q = q := by rw [IntKind.wrap_i64]; omega
      have hlu := Aside0.mk (lvl_set HLV.out i hq1)
      have c1 := HO.out.cell i hlt1 rfl
      have u1 := HO.out.free i hlt1
      have j0 : (0 : Int) ≤ (i : Int) := by omega
      have j1 : (i : Int) < (N : Int) := by omega
      have j2 : (i : Int) < (64 : Int) := by omega
      clear hcs hC1 hyy
      go_wp2
      go_roundw
      case rel => exact ⟨i + 1, ls.set i q, by omega, by go_num, hlu, ⟨HO.out.set i q⟩, ⟨blk_far B3.out hg3l _⟩, ⟨blk_far B8.out hg8l _⟩, ⟨below_set HB.out hglw⟩⟩
      case measure => simp [intOf]; omega
    · have hex : (¬ (i : Int) < (N : Int)) ∨ ((i : Int) < (N : Int) ∧ ¬ (i : Int) < (64 : Int)) := by omega
      obtain ⟨FL, hFL⟩ : ∃ F, frameF (N : Int) h2 b2 c2 p2 ls = F := ⟨_, rfl⟩
      obtain ⟨KL, hKL⟩ : ∃ k, FL.length = k := ⟨_, rfl⟩
      have hKL2 : KL ≤ 100 := by rw [← hKL, ← hFL]; exact frameF_le _ _ _ _ _ _
      have hKLc : (KL : Int) = c2 := by
        have hok : frameOk (N : Int) h2 b2 c2 p2 ls = true := by
          simp only [frameOk, Bool.and_eq_true, decide_eq_true_eq]
          exact ⟨⟨HR2.out, by rw [hls]⟩, HLV.out⟩
        have hr := HR2.out
        simp only [rightB, Bool.and_eq_true, decide_eq_true_eq] at hr
        rw [← hKL, ← hFL, frameF_len hok]
        omega
      have HFL := Aside0.mk hFL
      have HKL := Aside0.mk hKL
      have HLS := Aside0.mk hls
      have HCY := Aside0.mk (Kd.C_below HC0.out HB.out)
      have HCL := Aside0.mk HO.out.C
      have HGR := Aside0.mk (HG0.out.below HB.out)
      have HF1 : Aside0 (∀ W : World, Below wr.heap.size wr W → Calls Tryd.prog 24 #[.agg #[.int .i64 s, .int .i64 h, .int .i64 b, .int .i64 c, .int .i64 p], .slice A 64 cy] W (CRes wr W KR FR)) := ⟨fun W hb => fr_d A _ cy KR s h b c p Y FR W hb (HGR.out.below hb) HL0.out (Kd.C_below HCY.out hb) HFR.out HKR.out⟩
      have HE1 : Aside0 (∀ W : World, Below wr.heap.size wr W → Calls Tryd.prog 25 #[.agg #[.int .i64 s, .int .i64 h, .int .i64 b, .int .i64 c, .int .i64 p], .slice A 64 cy] W (CRes wr W KR FR)) := ⟨fun W hb => rfr_d A _ cy KR s h b c p Y FR W hb HL0.out (by omega) hMc (Kd.C_below HCY.out hb) HFR.out HKR.out⟩
      have HF2 : Aside0 (∀ W : World, Below wr.heap.size wr W → Calls Tryd.prog 24 #[.agg #[.int .i64 (N : Int), .int .i64 h2, .int .i64 b2, .int .i64 c2, .int .i64 p2], .slice A 64 cy] W (CRes wr W KQ FQ)) := ⟨fun W hb => fr_d A _ cy KQ _ h2 b2 c2 p2 Y FQ W hb (HGR.out.below hb) HL0.out (Kd.C_below HCY.out hb) HFQ.out HKQ.out⟩
      have HE2 : Aside0 (∀ W : World, Below wr.heap.size wr W → Calls Tryd.prog 25 #[.agg #[.int .i64 (N : Int), .int .i64 h2, .int .i64 b2, .int .i64 c2, .int .i64 p2], .slice A 64 cy] W (CRes wr W KQ FQ)) := ⟨fun W hb => rfr_d A _ cy KQ _ h2 b2 c2 p2 Y FQ W hb HL0.out (by omega) hMc (Kd.C_below HCY.out hb) HFQ.out HKQ.out⟩
      have HF3 : Aside0 (∀ W : World, Below wr.heap.size wr W → Calls Tryd.prog 24 #[.agg #[.int .i64 (N : Int), .int .i64 h2, .int .i64 b2, .int .i64 c2, .int .i64 p2], .slice (some ⟨w6.heap.size, 0, none⟩) N N] W (CRes wr W KL FL)) := ⟨fun W hb => fr_d _ _ N KL _ h2 b2 c2 p2 ls FL W hb (HGR.out.below hb) HLS.out (Kd.C_below HCL.out hb) HFL.out HKL.out⟩
      have HE3 : Aside0 (∀ W : World, Below wr.heap.size wr W → Calls Tryd.prog 25 #[.agg #[.int .i64 (N : Int), .int .i64 h2, .int .i64 b2, .int .i64 c2, .int .i64 p2], .slice (some ⟨w6.heap.size, 0, none⟩) N N] W (CRes wr W KL FL)) := ⟨fun W hb => rfr_d _ _ N KL _ h2 b2 c2 p2 ls FL W hb HLS.out (by omega) (Nat.le_refl _) (Kd.C_below HCL.out hb) HFL.out HKL.out⟩
      have HSR : Aside0 (∀ (A1 : Option Addr) (c1 : Nat) (A2 : Option Addr) (c2 : Nat) (W : World), Below wr.heap.size wr W → (Kd.int .i64).C W A1 KR FR → (Kd.int .i64).C W A2 KR FR → KR ≤ c1 → KR ≤ c2 → Calls Tryd.prog 16 #[.slice A1 KR c1, .slice A2 KR c2] W fun e w' => e = .returned (.bool true) ∧ Aside0 (Below wr.heap.size wr w') ∧ Aside0 (Below W.heap.size W w')) := ⟨fun A1 c1 A2 c2 W hb h1 h2 k1 k2 => same_c A1 KR c1 A2 c2 FR FR W hb HKR.out rfl h1 h2 k1 k2 (by omega)⟩
      have HSQ : Aside0 (∀ (A1 : Option Addr) (c1 : Nat) (A2 : Option Addr) (c2 : Nat) (W : World), Below wr.heap.size wr W → (Kd.int .i64).C W A1 KQ FQ → (Kd.int .i64).C W A2 KQ FQ → KQ ≤ c1 → KQ ≤ c2 → Calls Tryd.prog 16 #[.slice A1 KQ c1, .slice A2 KQ c2] W fun e w' => e = .returned (.bool true) ∧ Aside0 (Below wr.heap.size wr w') ∧ Aside0 (Below W.heap.size W w')) := ⟨fun A1 c1 A2 c2 W hb h1 h2 k1 k2 => same_c A1 KQ c1 A2 c2 FQ FQ W hb HKQ.out rfl h1 h2 k1 k2 (by omega)⟩
      have HSL : Aside0 (∀ (A1 : Option Addr) (c1 : Nat) (A2 : Option Addr) (c2 : Nat) (W : World), Below wr.heap.size wr W → (Kd.int .i64).C W A1 KL FL → (Kd.int .i64).C W A2 KL FL → KL ≤ c1 → KL ≤ c2 → Calls Tryd.prog 16 #[.slice A1 KL c1, .slice A2 KL c2] W fun e w' => e = .returned (.bool true) ∧ Aside0 (Below wr.heap.size wr w') ∧ Aside0 (Below W.heap.size W w')) := ⟨fun A1 c1 A2 c2 W hb h1 h2 k1 k2 => same_c A1 KL c1 A2 c2 FL FL W hb HKL.out rfl h1 h2 k1 k2 (by omega)⟩
      have hB0 : Aside0 (Below wr.heap.size wr wr) := ⟨Below.refl _ _⟩
      clear hlt hFL hKL hls HO HCY HCL HLV
      have r0 := blk_cell B3.out 0
      have r1 := blk_cell B3.out 1
      have r2 := blk_cell B3.out 2
      have r3 := blk_cell B3.out 3
      have r4 := blk_cell B3.out 4
      go_upto_region 7 with fail
      go_cut [35] from 26 to 45 (fun v W => v = .bool false ∧ W = wr)
      case first =>
        rcases hex with e1 | ⟨e1, e2⟩
        all_goals
          go_wp2_with fail
          go_meet
          case rel => exact ⟨rfl, rfl⟩
      case rest =>
        obtain ⟨rfl, hw_⟩ := hcut
        replace hw_ := hw_.symm
        subst hw_
        go_upto_region 10 with (fail)
        have HBq := hB0
        clear r0 r1 r2 r3 r4
        go_cut [11] from 15 (fun v W => v = .bool true ∧ Aside0 (Below wr.heap.size wr W))
        case first =>
          have ST0 : True := trivial
          have r0 := blk_cell (blk_below B3.out HBq.out) 0
          have r1 := blk_cell (blk_below B3.out HBq.out) 1
          have r2 := blk_cell (blk_below B3.out HBq.out) 2
          have r3 := blk_cell (blk_below B3.out HBq.out) 3
          have r4 := blk_cell (blk_below B3.out HBq.out) 4
          go_region_held3 (fun w' => w'.cell? ⟨g3, 0, none⟩ = some (.int .i64 s) ∧ w'.cell? ⟨g3, 1, none⟩ = some (.int .i64 h) ∧ w'.cell? ⟨g3, 2, none⟩ = some (.int .i64 b) ∧ w'.cell? ⟨g3, 3, none⟩ = some (.int .i64 c) ∧ w'.cell? ⟨g3, 4, none⟩ = some (.int .i64 p))
            (first | go_keep | (go_split_ands; refine ⟨?_, ?_, ?_, ?_, ?_⟩ <;> (refine pw_cell_below hs.out ?_; assumption)))
            (first
            | (go_at_call 24; clear ST0; (with_reducible refine (HF1.out _ ?hb).mono ?_); (case hb => repeat (first | exact HBq.out | apply below_alloc | apply pw_below_drewN | apply below_drew1)); rintro e_ wa ⟨A1, d1, rfl, k1, C1, HBa, hs⟩; have ST1 : True := trivial)
            | (go_at_call 25; clear ST1; (with_reducible refine (HE1.out _ ?hb).mono ?_); (case hb => repeat (first | exact HBa.out | apply below_alloc | apply pw_below_drewN | apply below_drew1)); rintro e_ wb ⟨A2, d2, rfl, k2, C2, HBb, hs⟩; have hs2 := below_then (show Below wa.heap.size wa _ by repeat (first | exact Below.refl _ _ | apply below_alloc | apply pw_below_drewN | apply below_drew1)) (by simp) hs.out; have C1n := Aside0.mk (Kd.C_below C1.out hs2); clear hs2 C1; have C1 := C1n; clear C1n;  have ST3 : True := trivial)
            | (go_at_call 25; clear ST0; (with_reducible refine (HE1.out _ ?hb).mono ?_); (case hb => repeat (first | exact HBq.out | apply below_alloc | apply pw_below_drewN | apply below_drew1)); rintro e_ wa ⟨A2, d2, rfl, k2, C2, HBa, hs⟩; have ST2 : True := trivial)
            | (go_at_call 24; clear ST2; (with_reducible refine (HF1.out _ ?hb).mono ?_); (case hb => repeat (first | exact HBa.out | apply below_alloc | apply pw_below_drewN | apply below_drew1)); rintro e_ wb ⟨A1, d1, rfl, k1, C1, HBb, hs⟩; have hs2 := below_then (show Below wa.heap.size wa _ by repeat (first | exact Below.refl _ _ | apply below_alloc | apply pw_below_drewN | apply below_drew1)) (by simp) hs.out; have C2n := Aside0.mk (Kd.C_below C2.out hs2); clear hs2 C2; have C2 := C2n; clear C2n;  have ST3 : True := trivial)
            | (go_at_call 16; clear ST3; refine (HSR.out A1 d1 A2 d2 _ ?hb ?h1 ?h2 k1 k2).mono ?_; (case hb => repeat (first | exact HBb.out | apply below_alloc | apply pw_below_drewN | apply below_drew1)); (case h1 => repeat (first | exact C1.out | refine Kd.C_drewN ?_ _ | refine Kd.C_drew ?_)); (case h2 => repeat (first | exact C2.out | refine Kd.C_drewN ?_ _ | refine Kd.C_drew ?_)); rintro e_ ws ⟨rfl, HBs, hs⟩))
          all_goals
            go_wp2_with fail
            go_meet
            case rel => exact ⟨rfl, HBs⟩
        case rest =>
        obtain ⟨rfl, HBn⟩ := hcut
        clear HBq
        have HBq := HBn
        clear HBn
        go_upto_region 11 with (fail)
        go_cut [12] from 15 (fun v W => v = .bool true ∧ Aside0 (Below wr.heap.size wr W))
        case first =>
          have ST0 : True := trivial
          have r0 := blk_cell (blk_below B8.out HBq.out) 0
          have r1 := blk_cell (blk_below B8.out HBq.out) 1
          have r2 := blk_cell (blk_below B8.out HBq.out) 2
          have r3 := blk_cell (blk_below B8.out HBq.out) 3
          have r4 := blk_cell (blk_below B8.out HBq.out) 4
          go_region_held3 (fun w' => w'.cell? ⟨g8, 0, none⟩ = some (.int .i64 (N : Int)) ∧ w'.cell? ⟨g8, 1, none⟩ = some (.int .i64 h2) ∧ w'.cell? ⟨g8, 2, none⟩ = some (.int .i64 b2) ∧ w'.cell? ⟨g8, 3, none⟩ = some (.int .i64 c2) ∧ w'.cell? ⟨g8, 4, none⟩ = some (.int .i64 p2))
            (first | go_keep | (go_split_ands; refine ⟨?_, ?_, ?_, ?_, ?_⟩ <;> (refine pw_cell_below hs.out ?_; assumption)))
            (first
            | (go_at_call 24; clear ST0; (with_reducible refine (HF2.out _ ?hb).mono ?_); (case hb => repeat (first | exact HBq.out | apply below_alloc | apply pw_below_drewN | apply below_drew1)); rintro e_ wa ⟨A1, d1, rfl, k1, C1, HBa, hs⟩; have ST1 : True := trivial)
            | (go_at_call 25; clear ST1; (with_reducible refine (HE2.out _ ?hb).mono ?_); (case hb => repeat (first | exact HBa.out | apply below_alloc | apply pw_below_drewN | apply below_drew1)); rintro e_ wb ⟨A2, d2, rfl, k2, C2, HBb, hs⟩; have hs2 := below_then (show Below wa.heap.size wa _ by repeat (first | exact Below.refl _ _ | apply below_alloc | apply pw_below_drewN | apply below_drew1)) (by simp) hs.out; have C1n := Aside0.mk (Kd.C_below C1.out hs2); clear hs2 C1; have C1 := C1n; clear C1n;  have ST3 : True := trivial)
            | (go_at_call 25; clear ST0; (with_reducible refine (HE2.out _ ?hb).mono ?_); (case hb => repeat (first | exact HBq.out | apply below_alloc | apply pw_below_drewN | apply below_drew1)); rintro e_ wa ⟨A2, d2, rfl, k2, C2, HBa, hs⟩; have ST2 : True := trivial)
            | (go_at_call 24; clear ST2; (with_reducible refine (HF2.out _ ?hb).mono ?_); (case hb => repeat (first | exact HBa.out | apply below_alloc | apply pw_below_drewN | apply below_drew1)); rintro e_ wb ⟨A1, d1, rfl, k1, C1, HBb, hs⟩; have hs2 := below_then (show Below wa.heap.size wa _ by repeat (first | exact Below.refl _ _ | apply below_alloc | apply pw_below_drewN | apply below_drew1)) (by simp) hs.out; have C2n := Aside0.mk (Kd.C_below C2.out hs2); clear hs2 C2; have C2 := C2n; clear C2n;  have ST3 : True := trivial)
            | (go_at_call 16; clear ST3; refine (HSQ.out A1 d1 A2 d2 _ ?hb ?h1 ?h2 k1 k2).mono ?_; (case hb => repeat (first | exact HBb.out | apply below_alloc | apply pw_below_drewN | apply below_drew1)); (case h1 => repeat (first | exact C1.out | refine Kd.C_drewN ?_ _ | refine Kd.C_drew ?_)); (case h2 => repeat (first | exact C2.out | refine Kd.C_drewN ?_ _ | refine Kd.C_drew ?_)); rintro e_ ws ⟨rfl, HBs, hs⟩))
          all_goals
            go_wp2_with fail
            go_meet
            case rel => exact ⟨rfl, HBs⟩
        case rest =>
        obtain ⟨rfl, HBn⟩ := hcut
        clear HBq
        have HBq := HBn
        clear HBn
        go_upto_region 12 with (fail)
        go_cut [13] from 15 (fun v W => v = .bool true ∧ Aside0 (Below wr.heap.size wr W))
        case first =>
          have ST0 : True := trivial
          have r0 := blk_cell (blk_below B8.out HBq.out) 0
          have r1 := blk_cell (blk_below B8.out HBq.out) 1
          have r2 := blk_cell (blk_below B8.out HBq.out) 2
          have r3 := blk_cell (blk_below B8.out HBq.out) 3
          have r4 := blk_cell (blk_below B8.out HBq.out) 4
          go_region_held3 (fun w' => w'.cell? ⟨g8, 0, none⟩ = some (.int .i64 (N : Int)) ∧ w'.cell? ⟨g8, 1, none⟩ = some (.int .i64 h2) ∧ w'.cell? ⟨g8, 2, none⟩ = some (.int .i64 b2) ∧ w'.cell? ⟨g8, 3, none⟩ = some (.int .i64 c2) ∧ w'.cell? ⟨g8, 4, none⟩ = some (.int .i64 p2))
            (first | go_keep | (go_split_ands; refine ⟨?_, ?_, ?_, ?_, ?_⟩ <;> (refine pw_cell_below hs.out ?_; assumption)))
            (first
            | (go_at_call 24; clear ST0; (with_reducible refine (HF3.out _ ?hb).mono ?_); (case hb => repeat (first | exact HBq.out | apply below_alloc | apply pw_below_drewN | apply below_drew1)); rintro e_ wa ⟨A1, d1, rfl, k1, C1, HBa, hs⟩; have ST1 : True := trivial)
            | (go_at_call 25; clear ST1; (with_reducible refine (HE3.out _ ?hb).mono ?_); (case hb => repeat (first | exact HBa.out | apply below_alloc | apply pw_below_drewN | apply below_drew1)); rintro e_ wb ⟨A2, d2, rfl, k2, C2, HBb, hs⟩; have hs2 := below_then (show Below wa.heap.size wa _ by repeat (first | exact Below.refl _ _ | apply below_alloc | apply pw_below_drewN | apply below_drew1)) (by simp) hs.out; have C1n := Aside0.mk (Kd.C_below C1.out hs2); clear hs2 C1; have C1 := C1n; clear C1n;  have ST3 : True := trivial)
            | (go_at_call 25; clear ST0; (with_reducible refine (HE3.out _ ?hb).mono ?_); (case hb => repeat (first | exact HBq.out | apply below_alloc | apply pw_below_drewN | apply below_drew1)); rintro e_ wa ⟨A2, d2, rfl, k2, C2, HBa, hs⟩; have ST2 : True := trivial)
            | (go_at_call 24; clear ST2; (with_reducible refine (HF3.out _ ?hb).mono ?_); (case hb => repeat (first | exact HBa.out | apply below_alloc | apply pw_below_drewN | apply below_drew1)); rintro e_ wb ⟨A1, d1, rfl, k1, C1, HBb, hs⟩; have hs2 := below_then (show Below wa.heap.size wa _ by repeat (first | exact Below.refl _ _ | apply below_alloc | apply pw_below_drewN | apply below_drew1)) (by simp) hs.out; have C2n := Aside0.mk (Kd.C_below C2.out hs2); clear hs2 C2; have C2 := C2n; clear C2n;  have ST3 : True := trivial)
            | (go_at_call 16; clear ST3; refine (HSL.out A1 d1 A2 d2 _ ?hb ?h1 ?h2 k1 k2).mono ?_; (case hb => repeat (first | exact HBb.out | apply below_alloc | apply pw_below_drewN | apply below_drew1)); (case h1 => repeat (first | exact C1.out | refine Kd.C_drewN ?_ _ | refine Kd.C_drew ?_)); (case h2 => repeat (first | exact C2.out | refine Kd.C_drewN ?_ _ | refine Kd.C_drew ?_)); rintro e_ ws ⟨rfl, HBs, hs⟩))
          all_goals
            go_wp2_with fail
            go_meet
            case rel => exact ⟨rfl, HBs⟩
        case rest =>
        obtain ⟨rfl, HBn⟩ := hcut
        clear HBq
        have HBq := HBn
        clear HBn
        have r0 := blk_cell (blk_below B3.out HBq.out) 0
        have r1 := blk_cell (blk_below B3.out HBq.out) 1
        have r2 := blk_cell (blk_below B3.out HBq.out) 2
        have r3 := blk_cell (blk_below B3.out HBq.out) 3
        have r4 := blk_cell (blk_below B3.out HBq.out) 4
        have ST0 : True := trivial
        go_upto_region 14 with (first
          | (go_at_call 26; clear ST0; (with_reducible refine (earshotref13_Right.calls s h b c p rb _ ?hr).mono ?_); (case hr => rw [ref_right, HRB.out]); rintro e_ wb ⟨rfl, hs⟩; have HBb := Aside0.mk (below_step HBq.out hs); clear hs r0 r1 r2 r3 r4; have ST1 : True := trivial))
        have r0 := blk_cell (blk_below B3.out HBb.out) 0
        have r1 := blk_cell (blk_below B3.out HBb.out) 1
        have r2 := blk_cell (blk_below B3.out HBb.out) 2
        have r3 := blk_cell (blk_below B3.out HBb.out) 3
        have r4 := blk_cell (blk_below B3.out HBb.out) 4
        have t0 := blk_cell (blk_below B8.out HBb.out) 0
        have t1 := blk_cell (blk_below B8.out HBb.out) 1
        have t2 := blk_cell (blk_below B8.out HBb.out) 2
        have t3 := blk_cell (blk_below B8.out HBb.out) 3
        have t4 := blk_cell (blk_below B8.out HBb.out) 4
        have HRT : Aside0 (∀ W : World, Below wr.heap.size wr W → Calls Tryd.prog 27 #[.agg #[.int .i64 s, .int .i64 h, .int .i64 b, .int .i64 c, .int .i64 p]] W fun e w' => e = .returned (.bool rb) ∧ Aside0 (Below wr.heap.size wr w') ∧ Aside0 (Below W.heap.size W w')) := ⟨fun W hb => (right_go s h b c p rb W (HGR.out.below hb) HRB.out).mono fun e w' ⟨k, q⟩ => ⟨k, ⟨below_step hb q⟩, ⟨q⟩⟩⟩
        have HRU : Aside0 (∀ W : World, Below wr.heap.size wr W → Calls Tryd.prog 27 #[.agg #[.int .i64 (N : Int), .int .i64 h2, .int .i64 b2, .int .i64 c2, .int .i64 p2]] W fun e w' => e = .returned (.bool true) ∧ Aside0 (Below wr.heap.size wr w') ∧ Aside0 (Below W.heap.size W w')) := ⟨fun W hb => (right_go _ h2 b2 c2 p2 true W (HGR.out.below hb) HR2.out).mono fun e w' ⟨k, q⟩ => ⟨k, ⟨below_step hb q⟩, ⟨q⟩⟩⟩
        subst hKLc
        clear HF1 HE1 HF2 HE2 HE3 HSR HSQ HSL HFR HFQ HKR HKQ HFL HKL HR2 HRB
        cases rb
        all_goals
          have ST0 : True := trivial
          go_region_held3 (fun w' => w'.cell? ⟨g3, 0, none⟩ = some (.int .i64 s) ∧ w'.cell? ⟨g3, 1, none⟩ = some (.int .i64 h) ∧ w'.cell? ⟨g3, 2, none⟩ = some (.int .i64 b) ∧ w'.cell? ⟨g3, 3, none⟩ = some (.int .i64 c) ∧ w'.cell? ⟨g3, 4, none⟩ = some (.int .i64 p) ∧ w'.cell? ⟨g8, 0, none⟩ = some (.int .i64 (N : Int)) ∧ w'.cell? ⟨g8, 1, none⟩ = some (.int .i64 h2) ∧ w'.cell? ⟨g8, 2, none⟩ = some (.int .i64 b2) ∧ w'.cell? ⟨g8, 3, none⟩ = some (.int .i64 (KL : Int)) ∧ w'.cell? ⟨g8, 4, none⟩ = some (.int .i64 p2))
            (first | go_keep | (go_split_ands; refine ⟨?_, ?_, ?_, ?_, ?_, ?_, ?_, ?_, ?_, ?_⟩ <;> (refine pw_cell_below hs.out ?_; assumption)))
            (first
            | (go_at_call 24; clear ST0; (with_reducible refine (HF3.out _ ?hb).mono ?_); (case hb => repeat (first | exact HBb.out | apply below_alloc | apply pw_below_drewN | apply below_drew1)); rintro e_ wx ⟨AX, dX, rfl, kX, CX, HBx, hs⟩; have ST1 : True := trivial)
            | (go_at_call 27; clear ST1; (with_reducible refine (HRT.out _ ?hb).mono ?_); (case hb => repeat (first | exact HBx.out | apply below_alloc | apply pw_below_drewN | apply below_drew1)); rintro e_ wy ⟨rfl, HBy, hs⟩; have ST2 : True := trivial)
            | (go_at_call 27; clear ST2; (with_reducible refine (HRU.out _ ?hb).mono ?_); (case hb => repeat (first | exact HBy.out | apply below_alloc | apply pw_below_drewN | apply below_drew1)); rintro e_ wz ⟨rfl, HBz, hs⟩))
          all_goals
            go_wp2
            go_ret
            exact ⟨rfl, below_trans HB.out HBz.out⟩
theorem earshotlaw13_FrontFrames.calls (a0_0 a0_1 a0_2 a0_3 a0_4 : Int) (a1_0 a1_1 a1_2 : Int) (a1_3 a1_4 : Bool) (A2 : Option Addr) (c2 : Nat) (l2 : List Int) (r : Bool) (w : World) (hG : GlobA w) (hr2 : Kd.C (Kd.int .i64) w A2 l2.length l2) (hc2 : l2.length ≤ c2) (h : earshotlaw13_FrontFrames.f a0_0 a0_1 a0_2 a0_3 a0_4 a1_0 a1_1 a1_2 a1_3 a1_4 l2 = some r) :
    Calls Tryd.prog 8 #[.agg #[.int .i64 a0_0, .int .i64 a0_1, .int .i64 a0_2, .int .i64 a0_3, .int .i64 a0_4], .agg #[.int .i64 a1_0, .int .i64 a1_1, .int .i64 a1_2, .bool a1_3, .bool a1_4], .slice A2 l2.length c2] w fun e w' => e = .returned (.bool r) ∧ Below w.heap.size w w' := by
  unfold earshotlaw13_FrontFrames.f at h
  split at h
  case isFalse => cases h
  rename_i hz
  obtain rfl := Option.some.inj h
  have hz2 := of_decide_eq_true hz
  by_cases hl : 64 < l2.length
  · have hT := Kd.C_take hr2 (m := 64) (by omega)
    have e : (l2.take 64).length = 64 := by rw [List.length_take]; omega
    rw [e] at hT
    exact ff_long A2 l2.length c2 a0_0 a0_1 a0_2 a0_3 a0_4 a1_0 a1_1 a1_2 a1_3 a1_4 _ w hG e hT hc2 hl hz2
  · exact ff_short A2 l2.length c2 a0_0 a0_1 a0_2 a0_3 a0_4 a1_0 a1_1 a1_2 a1_3 a1_4 l2 w hG rfl hr2 hc2 (by omega) hz2

/-- THE ONE PURE STATEMENT of earshotlaw13_FrontFrames: yours. -/
def earshotlaw13_FrontFrames.Pure : Prop := ∀ (a0_0 : Int) (a0_1 : Int) (a0_2 : Int) (a0_3 : Int) (a0_4 : Int) (a1_0 : Int) (a1_1 : Int) (a1_2 : Int) (a1_3 : Bool) (a1_4 : Bool) (l2 : List Int), (Lit.int .i64 a0_0).wf = true → (Lit.int .i64 a0_1).wf = true → (Lit.int .i64 a0_2).wf = true → (Lit.int .i64 a0_3).wf = true → (Lit.int .i64 a0_4).wf = true → (Lit.int .i64 a1_0).wf = true → (Lit.int .i64 a1_1).wf = true → (Lit.int .i64 a1_2).wf = true → l2.length ≤ maxLen → l2.length * 8 ≤ 140737488351232 → (∀ x ∈ l2, (Lit.int .i64 x).wf = true) → earshotlaw13_FrontFrames.f a0_0 a0_1 a0_2 a0_3 a0_4 a1_0 a1_1 a1_2 a1_3 a1_4 l2 = some true
theorem earshotlaw13_FrontFrames.walk (P : earshotlaw13_FrontFrames.Pure) (a0_0 : Int) (a0_1 : Int) (a0_2 : Int) (a0_3 : Int) (a0_4 : Int) (a1_0 : Int) (a1_1 : Int) (a1_2 : Int) (a1_3 : Bool) (a1_4 : Bool) (a2 : Option Addr) (len2 cap2 : Nat) (z2 : List Int) (w : World) (w0_0 : (Lit.int .i64 a0_0).wf = true) (w0_1 : (Lit.int .i64 a0_1).wf = true) (w0_2 : (Lit.int .i64 a0_2).wf = true) (w0_3 : (Lit.int .i64 a0_3).wf = true) (w0_4 : (Lit.int .i64 a0_4).wf = true) (w1_0 : (Lit.int .i64 a1_0).wf = true) (w1_1 : (Lit.int .i64 a1_1).wf = true) (w1_2 : (Lit.int .i64 a1_2).wf = true) (w2 : (a2 = none ∧ len2 = 0 ∧ cap2 = 0 ∧ z2 = []) ∨ ∃ x, a2 = some x ∧ len2 ≤ cap2 ∧ cap2 ≤ maxLen ∧ z2.length = cap2 ∧ (∀ i, i < z2.length → w.cell? (x.add i) = some (.int .i64 (z2.getD i 0))) ∧ ∀ n ∈ z2, (Lit.int .i64 n).wf = true) (y2 : len2 * 8 ≤ 140737488351232) (hG : GlobA w) :
    Calls Tryd.prog 8 #[.agg #[.int .i64 a0_0, .int .i64 a0_1, .int .i64 a0_2, .int .i64 a0_3, .int .i64 a0_4], .agg #[.int .i64 a1_0, .int .i64 a1_1, .int .i64 a1_2, .bool a1_3, .bool a1_4], .slice a2 len2 cap2] w fun e w' => e = .returned (.bool true) ∧ Below w.heap.size w w' := by
  obtain ⟨l2, rfl, hr2, hm2, hw2, hc2⟩ := ReadsInt.ofRowC w2
  have h := P a0_0 a0_1 a0_2 a0_3 a0_4 a1_0 a1_1 a1_2 a1_3 a1_4 l2 w0_0 w0_1 w0_2 w0_3 w0_4 w1_0 w1_1 w1_2 hm2 y2 hw2
  refine (earshotlaw13_FrontFrames.calls a0_0 a0_1 a0_2 a0_3 a0_4 a1_0 a1_1 a1_2 a1_3 a1_4 _ _ l2 true w hG (Kd.C_of_reads (d := (0 : Int)) (h1 := fun _ => rfl) hr2) hc2 h).mono ?_
  rintro e w' ⟨rfl, hd⟩
  exact ⟨rfl, hd⟩

end Go.Proofs.YtmhacdnnnebpdaaDoor.PFrontFrames
