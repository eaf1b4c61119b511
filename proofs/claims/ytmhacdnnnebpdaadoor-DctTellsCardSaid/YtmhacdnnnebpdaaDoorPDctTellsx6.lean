-- Written by a program of this work (wip/tools) for this claim; Lean checks it.
import Derived.Test.YtmhacdnnnebpdaaDoorPDctTellsx0
import Derived.Test.YtmhacdnnnebpdaaDoorPDctTellsx1
import Derived.Test.YtmhacdnnnebpdaaDoorPDctTellsx2
import Derived.Test.YtmhacdnnnebpdaaDoorPDctTellsx3
import Derived.Test.YtmhacdnnnebpdaaDoorPDctTellsx4
import Derived.Test.YtmhacdnnnebpdaaDoorPDctTellsx5
namespace Go.Proofs.YtmhacdnnnebpdaaDoor.PDctTells
open Go.RowKit Go.Proofs.YtmhacdnnnebpdaaDoorW.PrintWords Go.Proofs.YtmhacdnnnebpdaaDoorW.PrintLast Go.Proofs.YtmhacdnnnebpdaaDoorW.PrintMore
attribute [local go_sem] max2_int min2_int max_two min_two max_three min_three max_four min_four   -- for this text's walks alone
set_option linter.unusedVariables false
set_option linter.unusedSimpArgs false

/-! ### earshotlaw12_DctTells: function 3 -/
-- PURE intro l0 a1 a b _ h8 hw h1 ha hb; unfold earshotlaw12_DctTells.f; rw [if_pos]; simp only [Bool.and_eq_true, decide_eq_true_eq, List.all_eq_true]; exact ⟨by omega, fun x hx => wf_i64 (hw x hx)⟩
theorem bsome {α β : Type} (a : α) (f : α → Option β) : (some a).bind f = f a := by
  generalize h : some a = o
  cases o with
  | none => cases h
  | some b => cases h; rfl

/-- A call's result is a row that reads as xs; the world is as it was, but for what is new. -/
def CRes (w0 W : World) (h : Nat) (xs : List Int) (e : Ending) (w' : World) : Prop :=
  ∃ A c, e = .returned (.slice A h c) ∧ h ≤ c ∧ Aside0 ((Kd.int .i64).C w' A h xs) ∧ Aside0 (Below w0.heap.size w0 w') ∧ Aside0 (Below W.heap.size W w')
theorem cres_of {w0 W w' : World} {h : Nat} {xs : List Int} {v : Value} {t b : Nat} {ok : Nat → Prop} (hB : Below w0.heap.size w0 W) (hR : (Kd.int .i64).R t w' b ok v xs) (hl : xs.length = h) (hb : Below W.heap.size W w') : CRes w0 W h xs (.returned v) w' := by
  subst hl
  obtain ⟨A, c, rfl, h1, h2⟩ := Kd.R_reads hR
  exact ⟨A, c, rfl, h1, ⟨h2⟩, ⟨below_step hB hb⟩, ⟨hb⟩⟩
theorem same_go (l : List Int) (hl : l.length ≤ 100000000) (d : Nat) : ∀ (k i : Nat), i ≤ l.length → l.length - i = d → d < k → earshotref04_Same.l0 k l l (i : Int) = some true := by
  induction d with
  | zero =>
    intro k i h0 hd hk
    obtain ⟨k, rfl⟩ : ∃ m, k = m + 1 := ⟨k - 1, by omega⟩
    simp only [earshotref04_Same.l0]
    rw [if_neg (by omega)]
  | succ d ih =>
    intro k i h0 hd hk
    obtain ⟨k, rfl⟩ : ∃ m, k = m + 1 := ⟨k - 1, by omega⟩
    simp only [earshotref04_Same.l0]
    have hw : wrap64 ((i : Int) + 1) = ((i + 1 : Nat) : Int) := by unfold wrap64; omega
    rw [if_pos (by omega), if_pos (by omega), if_pos (by omega), if_pos trivial, hw]
    exact ih k (i + 1) (by omega) (by omega) (by omega)
theorem same_f (l : List Int) (hl : l.length ≤ 100000000) : earshotref04_Same.f (l.length + 1) l l = some true := by
  unfold earshotref04_Same.f
  rw [if_pos rfl]
  exact same_go l hl l.length _ 0 (by omega) (by omega) (by omega)
/-- Two rows that read the same. -/
theorem same_c {w0 : World} (A1 : Option Addr) (h c1 : Nat) (A2 : Option Addr) (c2 : Nat) (l1 l2 : List Int) (W : World) (hB : Below w0.heap.size w0 W) (hl : l1.length = h) (he : l1 = l2) (hC1 : (Kd.int .i64).C W A1 h l1) (hC2 : (Kd.int .i64).C W A2 h l2) (h1 : h ≤ c1) (h2 : h ≤ c2) (hh : h ≤ 1000000) :
    Calls Tryd.prog 16 #[.slice A1 h c1, .slice A2 h c2] W fun e w' => e = .returned (.bool true) ∧ Aside0 (Below w0.heap.size w0 w') ∧ Aside0 (Below W.heap.size W w') := by
  subst he
  subst hl
  exact (earshotref04_Same.calls _ A1 c1 l1 A2 c2 l1 true W hC1 h1 hC2 h2 (same_f l1 (by omega))).mono fun e w' ⟨a, ⟨n, b⟩⟩ => by
    subst b
    exact ⟨a, ⟨pw_below_drewN hB n⟩, ⟨pw_below_drewN (Below.refl _ _) n⟩⟩
theorem zeros_c (X : World) (g n : Nat) (hg : g = X.heap.size) (hn : n ≤ 1000000) : (Kd.int .i64).C (X.alloc (.cells (madeCells #[.int .i64 0] n) 3)) (some ⟨g, 0, none⟩) n (List.replicate n 0) := by
  subst hg
  have h := own_made X X.heap.size 3 .i64 n (Nat.le_refl _) (by omega)
  have hR := Kd.R_of_own (enc := Value.int .i64) (h1 := fun _ => rfl) (ok := fun _ => True) (xs := List.replicate n 0) (by rw [List.length_replicate]; exact h) (fun _ _ => trivial)
  obtain ⟨A, c, he, _, h2⟩ := Kd.R_reads hR
  rw [List.length_replicate] at he h2
  injection he with e1 e2 e3
  rw [e1]
  exact h2
/-- A callee that draws only, in a region that is walked once, in a world that has drawn before. -/
theorem quiet_add {P : Program} {f : FuncId} {args : Array Value} {W : World} {K x : Nat} {v : Value} (h : Calls P f args (W.drewN (K + x)) fun e w' => e = .returned v ∧ Drawn0 (W.drewN (K + x)) w') :
    Calls P f args (W.drewN (K + x)) fun e w'' => e = .returned v ∧ ∃ n, w'' = W.drewN (K + n) :=
  h.mono fun _ _ ⟨he, ⟨m, hm⟩⟩ => ⟨he, x + m, by rw [hm, World.drewN_drewN, Nat.add_assoc]⟩
/-- .. likewise, in a world that is named by one count. -/
theorem quiet_d {P : Program} {f : FuncId} {args : Array Value} {W : World} {x : Nat} {v : Value} (h : Calls P f args (W.drewN x) fun e w' => e = .returned v ∧ Drawn0 (W.drewN x) w') :
    Calls P f args (W.drewN x) fun e w'' => e = .returned v ∧ ∃ n, w'' = W.drewN n :=
  h.mono fun _ _ ⟨he, ⟨m, hm⟩⟩ => ⟨he, x + m, by rw [hm, World.drewN_drewN]⟩

theorem i64_mask (i : Nat) (hi : i ≤ 62) (n m : Int) (hm : m = ((2 ^ i - 1 : Nat) : Int)) : Go.bits .and .i64 n m = n % ((2 ^ i : Nat) : Int) := by
  have hp : 0 < 2 ^ i := Nat.two_pow_pos i
  have hle : 2 ^ i ≤ 4611686018427387904 := Nat.pow_le_pow_right (n := 2) (by decide) hi
  have h1 : (BitVec.ofInt 64 m).toNat = 2 ^ i - 1 := by
    subst hm
    rw [BitVec.ofInt_natCast, BitVec.toNat_ofNat]
    exact Nat.mod_eq_of_lt (by omega)
  have key : (BitVec.ofInt 64 n &&& BitVec.ofInt 64 m).toNat = (n % ((2 ^ 64 : Nat) : Int)).toNat % 2 ^ i := by
    rw [BitVec.toNat_and, BitVec.toNat_ofInt, h1, Nat.and_two_pow_sub_one_eq_mod]
  show IntKind.i64.wrap ((BitVec.ofInt 64 n &&& BitVec.ofInt 64 m).toNat : Nat) = n % _
  rw [key, IntKind.wrap_i64]
  have r0 : 0 ≤ n % ((2 ^ 64 : Nat) : Int) := Int.emod_nonneg _ (by decide)
  have e : (((n % ((2 ^ 64 : Nat) : Int)).toNat % 2 ^ i : Nat) : Int) = n % ((2 ^ i : Nat) : Int) := by
    rw [Int.natCast_emod, Int.toNat_of_nonneg r0]
    refine Int.emod_emod_of_dvd _ ?_
    exact Int.natCast_dvd_natCast.2 (Nat.pow_dvd_pow 2 (by omega))
  rw [e]
  generalize hz : n % ((2 ^ i : Nat) : Int) = z
  have m0 : 0 ≤ z := hz ▸ Int.emod_nonneg _ (by omega)
  have m1 : z < ((2 ^ i : Nat) : Int) := hz ▸ Int.emod_lt_of_pos _ (by omega)
  have hle' : ((2 ^ i : Nat) : Int) ≤ 4611686018427387904 := Int.ofNat_le.2 hle
  have m2 : z < 4611686018427387904 := Int.lt_of_lt_of_le m1 hle'
  clear m1 hle' hle hz e key h1
  omega

/-- The digits behind the point, step by step, of a mantissa in [2^31, 2^32). -/
def dD : Nat → Nat → Nat
  | 0, _ => 0
  | k + 1, m => (m * m / 2147483648 / 4294967296) * 2 ^ k + dD k (m * m / 2147483648 / 2 ^ (m * m / 2147483648 / 4294967296))
theorem sq_range {m : Nat} (h0 : 2147483648 ≤ m) (h1 : m < 4294967296) : 2147483648 ≤ m * m / 2147483648 ∧ m * m / 2147483648 < 8589934592 := by
  have a : 2147483648 * 2147483648 ≤ m * m := Nat.mul_le_mul h0 h0
  have b : m * m ≤ 4294967295 * 4294967295 := Nat.mul_le_mul (by omega) (by omega)
  omega
theorem next_range {m : Nat} (h0 : 2147483648 ≤ m) (h1 : m < 4294967296) : 2147483648 ≤ m * m / 2147483648 / 2 ^ (m * m / 2147483648 / 4294967296) ∧ m * m / 2147483648 / 2 ^ (m * m / 2147483648 / 4294967296) < 4294967296 ∧ m * m / 2147483648 / 4294967296 < 2 := by
  obtain ⟨a, b⟩ := sq_range h0 h1
  generalize m * m / 2147483648 = q at *
  have h : q / 4294967296 = 0 ∨ q / 4294967296 = 1 := by omega
  rcases h with h | h
  · rw [h]; omega
  · rw [h]; omega
theorem dD_lt : ∀ (k : Nat) {m : Nat}, 2147483648 ≤ m → m < 4294967296 → dD k m < 2 ^ k
  | 0, _, _, _ => by simp [dD]
  | k + 1, m, h0, h1 => by
    obtain ⟨a, b, c⟩ := next_range h0 h1
    have ih := dD_lt k a b
    simp only [dD]
    generalize m * m / 2147483648 / 4294967296 = d at *
    generalize dD k _ = e at *
    have hd : d = 0 ∨ d = 1 := by omega
    rw [Nat.pow_succ]
    rcases hd with rfl | rfl <;> omega
theorem dD_mono : ∀ (k : Nat) {m n : Nat}, 2147483648 ≤ m → m ≤ n → n < 4294967296 → dD k m ≤ dD k n
  | 0, _, _, _, _, _ => Nat.le_refl _
  | k + 1, m, n, h0, h, h1 => by
    obtain ⟨a, b, c⟩ := next_range h0 (by omega)
    obtain ⟨a2, b2, c2⟩ := next_range (m := n) (by omega) h1
    have hq : m * m / 2147483648 ≤ n * n / 2147483648 := Nat.div_le_div_right (Nat.mul_le_mul h h)
    have lt := dD_lt k a b
    simp only [dD]
    by_cases he : m * m / 2147483648 / 4294967296 = n * n / 2147483648 / 4294967296
    · have ih := dD_mono k a (by rw [he]; exact Nat.div_le_div_right hq) b2
      rw [he] at ih ⊢
      omega
    · have hlt : m * m / 2147483648 / 4294967296 ≤ n * n / 2147483648 / 4294967296 := Nat.div_le_div_right hq
      have e1 : m * m / 2147483648 / 4294967296 = 0 := by omega
      have e2 : n * n / 2147483648 / 4294967296 = 1 := by omega
      have l1 := lt
      rw [e1] at l1 ⊢
      rw [e2]
      omega
theorem dD_next : ∀ (k : Nat) {m : Nat}, 2147483648 ≤ m → m < 4294967296 → dD (k + 1) m = 2 * dD k m ∨ dD (k + 1) m = 2 * dD k m + 1
  | 0, m, h0, h1 => by
    obtain ⟨a, b, c⟩ := next_range h0 h1
    simp only [dD]
    omega
  | k + 1, m, h0, h1 => by
    obtain ⟨a, b, c⟩ := next_range h0 h1
    have ih := dD_next k a b
    rw [show dD (k + 1 + 1) m = (m * m / 2147483648 / 4294967296) * 2 ^ (k + 1) + dD (k + 1) (m * m / 2147483648 / 2 ^ (m * m / 2147483648 / 4294967296)) from rfl,
      show dD (k + 1) m = (m * m / 2147483648 / 4294967296) * 2 ^ k + dD k (m * m / 2147483648 / 2 ^ (m * m / 2147483648 / 4294967296)) from rfl, Nat.pow_succ]
    generalize m * m / 2147483648 / 4294967296 = d at *
    have e : d * (2 ^ k * 2) = 2 * (d * 2 ^ k) := by rw [← Nat.mul_assoc, Nat.mul_comm]
    rcases ih with ih | ih <;> rw [ih, e] <;> omega
theorem dD_one : ∀ k, dD k 2147483648 = 0
  | 0 => rfl
  | k + 1 => by
    simp only [dD]
    have e : 2147483648 * 2147483648 / 2147483648 / 4294967296 = 0 := by decide
    rw [e]
    simpa using dD_one k
/-- The mantissa of a number of b + 1 bits. -/
def mant (b x : Nat) : Nat := x * 2 ^ (63 - b) / 4294967296
theorem mant_range {b x : Nat} (hb : b ≤ 63) (h0 : 2 ^ b ≤ x) (h1 : x < 2 ^ (b + 1)) : 2147483648 ≤ mant b x ∧ mant b x < 4294967296 := by
  unfold mant
  have e : 2 ^ b * 2 ^ (63 - b) = 9223372036854775808 := by rw [← Nat.pow_add, show b + (63 - b) = 63 by omega]
  have p : 0 < 2 ^ (63 - b) := Nat.two_pow_pos _
  have a1 : 2 ^ b * 2 ^ (63 - b) ≤ x * 2 ^ (63 - b) := Nat.mul_le_mul_right _ h0
  have a2 : x * 2 ^ (63 - b) < 2 ^ (b + 1) * 2 ^ (63 - b) := Nat.mul_lt_mul_of_pos_right h1 p
  rw [Nat.pow_succ, Nat.mul_right_comm, e] at a2
  rw [e] at a1
  omega
theorem mant_mono {b x y : Nat} (h : x ≤ y) : mant b x ≤ mant b y := Nat.div_le_div_right (Nat.mul_le_mul_right _ h)
theorem mant_twice {b x : Nat} (hb : b + 1 ≤ 63) : mant (b + 1) (2 * x) = mant b x := by
  unfold mant
  rw [show 63 - b = (63 - (b + 1)) + 1 by omega, Nat.pow_succ, Nat.mul_comm 2 x, Nat.mul_assoc, Nat.mul_comm (2 ^ _) 2]
theorem mant_pow {b : Nat} (hb : b ≤ 63) : mant b (2 ^ b) = 2147483648 := by
  unfold mant
  rw [← Nat.pow_add, show b + (63 - b) = 63 by omega]
/-- Of a square: the first step of the number's own digits. -/
theorem mant_square {b y : Nat} (hb : b ≤ 31) (h0 : 2 ^ b ≤ y) (h1 : y < 2 ^ (b + 1)) :
    let q := mant b y * mant b y / 2147483648
    2 ^ (2 * b + q / 4294967296) ≤ y * y ∧ y * y < 2 ^ (2 * b + q / 4294967296 + 1) ∧ mant (2 * b + q / 4294967296) (y * y) = q / 2 ^ (q / 4294967296) ∧ q / 4294967296 < 2 := by
  intro q
  have em : mant b y = y * 2 ^ (31 - b) := by
    unfold mant
    rw [show 63 - b = (31 - b) + 32 by omega, Nat.pow_add, ← Nat.mul_assoc]
    exact Nat.mul_div_cancel _ (by decide)
  have eq1 : q = y * y * 2 ^ (63 - 2 * b) / 4294967296 := by
    show mant b y * mant b y / 2147483648 = _
    rw [em]
    have e : y * 2 ^ (31 - b) * (y * 2 ^ (31 - b)) = y * y * 2 ^ (62 - 2 * b) := by
      rw [Nat.mul_mul_mul_comm, ← Nat.pow_add, show 31 - b + (31 - b) = 62 - 2 * b by omega]
    rw [e, show 63 - 2 * b = (62 - 2 * b) + 1 by omega, Nat.pow_succ, ← Nat.mul_assoc]
    generalize y * y * 2 ^ (62 - 2 * b) = z
    omega
  obtain ⟨r0, r1⟩ := mant_range (b := b) (by omega) h0 h1
  obtain ⟨_, _, hd⟩ := next_range r0 r1
  have y0 : 2 ^ (2 * b) ≤ y * y := by
    have := Nat.mul_le_mul h0 h0
    rwa [← Nat.pow_add, ← Nat.two_mul] at this
  have y1 : y * y < 2 ^ (2 * b + 2) := by
    have := Nat.mul_lt_mul'' h1 h1
    rwa [← Nat.pow_add, show b + 1 + (b + 1) = 2 * b + 2 by omega] at this
  have hcut : q / 4294967296 = 1 ↔ 2 ^ (2 * b + 1) ≤ y * y := by
    have p : 0 < 2 ^ (63 - 2 * b) := Nat.two_pow_pos _
    have e : 2 ^ (2 * b + 1) * 2 ^ (63 - 2 * b) = 18446744073709551616 := by rw [← Nat.pow_add, show 2 * b + 1 + (63 - 2 * b) = 64 by omega]
    constructor
    · intro h
      have : 18446744073709551616 ≤ y * y * 2 ^ (63 - 2 * b) := by omega
      rw [← e] at this
      exact Nat.le_of_mul_le_mul_right this p
    · intro h
      have := Nat.mul_le_mul_right (2 ^ (63 - 2 * b)) h
      rw [e] at this
      have hd' : q / 4294967296 < 2 := hd
      omega
  have hd' : q / 4294967296 < 2 := hd
  have h01 : q / 4294967296 = 0 ∨ q / 4294967296 = 1 := by omega
  rcases h01 with h | h
  · have hn : ¬ 2 ^ (2 * b + 1) ≤ y * y := fun hh => by rw [hcut.mpr hh] at h; cases h
    rw [h]
    simp only [Nat.add_zero]
    refine ⟨y0, by omega, ?_, by omega⟩
    unfold mant
    rw [eq1]; simp
  · have hh := hcut.mp h
    rw [h]
    refine ⟨hh, y1, ?_, by omega⟩
    unfold mant
    rw [eq1, show 63 - 2 * b = (63 - (2 * b + 1)) + 1 by omega, Nat.pow_succ, ← Nat.mul_assoc]
    generalize y * y * 2 ^ (63 - (2 * b + 1)) = z
    omega
theorem bla_zero : ∀ f, Lib.bitLenAux f 0 = 0
  | 0 => rfl
  | f + 1 => by simp [Lib.bitLenAux]
theorem bla_spec : ∀ (f x : Nat), x < 2 ^ f → x < 2 ^ Lib.bitLenAux f x ∧ (x ≠ 0 → 1 ≤ Lib.bitLenAux f x ∧ 2 ^ (Lib.bitLenAux f x - 1) ≤ x) ∧ Lib.bitLenAux f x ≤ f
  | 0, x, h => by
    have : x = 0 := by simpa using h
    subst this
    simp [Lib.bitLenAux]
  | f + 1, x, h => by
    by_cases h0 : x = 0
    · subst h0; simp [bla_zero]
    · have e1 : Lib.bitLenAux (f + 1) x = 1 + Lib.bitLenAux f (x / 2) := by
        show (if x = 0 then 0 else 1 + Lib.bitLenAux f (x / 2)) = _
        rw [if_neg h0]
      rw [e1]
      rw [Nat.pow_succ] at h
      obtain ⟨i1, i2, i3⟩ := bla_spec f (x / 2) (by omega)
      have hz : x / 2 = 0 → Lib.bitLenAux f (x / 2) = 0 := fun h1 => by rw [h1]; exact bla_zero f
      generalize Lib.bitLenAux f (x / 2) = b at *
      refine ⟨?_, fun _ => ⟨by omega, ?_⟩, by omega⟩
      · rw [Nat.add_comm, Nat.pow_succ]; omega
      · rw [Nat.add_sub_cancel_left]
        by_cases h1 : x / 2 = 0
        · have : b = 0 := hz h1
          subst this
          simp; omega
        · obtain ⟨j1, j2⟩ := i2 h1
          have e : 2 ^ b = 2 ^ (b - 1) * 2 := by rw [← Nat.pow_succ]; congr 1; omega
          omega
theorem bl_spec {x : Nat} (h : x < 2 ^ 64) (h0 : x ≠ 0) : 1 ≤ Lib.bitLen x ∧ Lib.bitLen x ≤ 64 ∧ 2 ^ (Lib.bitLen x - 1) ≤ x ∧ x < 2 ^ (Lib.bitLen x - 1 + 1) := by
  obtain ⟨a, b, c⟩ := bla_spec 64 x h
  obtain ⟨d, e⟩ := b h0
  unfold Lib.bitLen
  refine ⟨d, c, e, ?_⟩
  rw [show Lib.bitLenAux 64 x - 1 + 1 = Lib.bitLenAux 64 x by omega]
  exact a
theorem bl_zero : Lib.bitLen 0 = 0 := bla_zero 64
theorem bl_unique {x b c : Nat} (h0 : 2 ^ b ≤ x) (h1 : x < 2 ^ (b + 1)) (k0 : 2 ^ c ≤ x) (k1 : x < 2 ^ (c + 1)) : b = c := by
  have a1 := (Nat.pow_lt_pow_iff_right (a := 2) (by decide)).1 (Nat.lt_of_le_of_lt h0 k1)
  have a2 := (Nat.pow_lt_pow_iff_right (a := 2) (by decide)).1 (Nat.lt_of_le_of_lt k0 h1)
  omega
theorem bits_some {x : Nat} (h : x < 2 ^ 64) : logs_Bits.f (x : Int) = some ((Lib.bitLen x : Nat) : Int) := by
  unfold logs_Bits.f bits_Len64.f
  rw [if_pos (by omega), if_pos (by omega), Int.toNat_natCast, bsome]
/-- A logarithm in 256ths. -/
def logN (x : Nat) : Nat := if x = 0 then 0 else 256 * (Lib.bitLen x - 1) + dD 8 (mant (Lib.bitLen x - 1) x)
theorem or_digit (n d : Nat) (hn : n < 2 ^ 40) (hd : d < 2) : Go.bits .or .i64 (wrap64 ((n : Int) * 2)) (wrap64 (d : Int)) = ((2 * n + d : Nat) : Int) := by
  have e1 : wrap64 ((n : Int) * 2) = ((2 * n : Nat) : Int) := by unfold wrap64; omega
  have e2 : wrap64 (d : Int) = (d : Int) := by unfold wrap64; omega
  have hj := (bits_nat .i64 62 (by decide) (by intro n h0 h1; rw [IntKind.wrap_i64]; omega) (2 * n) d (by omega) (by omega)).2
  rw [e1, e2, hj]
  congr 1
  have := Nat.two_pow_add_eq_or_of_lt (i := 1) (b := d) (by omega) n
  rw [Nat.pow_one] at this
  exact this.symm
theorem shr_digit (q d : Nat) (hd : d < 2) : shr .u64 (q : Int) (d : Int) = ((q / 2 ^ d : Nat) : Int) := by
  unfold shr
  have h : d = 0 ∨ d = 1 := by omega
  rcases h with rfl | rfl
  · simp
  · rfl
theorem l0_spec : ∀ (j k m n i : Nat), i + j = 8 → j < k → 2147483648 ≤ m → m < 4294967296 → n < 2 ^ (32 + i) → logs_Log.l0 k (m : Int) (n : Int) (i : Int) = some ((n * 2 ^ j + dD j m : Nat) : Int)
  | 0, k, m, n, i, hi, hk, _, _, _ => by
    obtain ⟨k, rfl⟩ : ∃ k', k = k' + 1 := ⟨k - 1, by omega⟩
    simp only [logs_Log.l0]
    rw [if_neg (by omega)]
    simp [dD]
  | j + 1, k, m, n, i, hi, hk, h0, h1, hn => by
    obtain ⟨k, rfl⟩ : ∃ k', k = k' + 1 := ⟨k - 1, by omega⟩
    obtain ⟨a, b, c⟩ := next_range h0 h1
    have hsq : IntKind.u64.wrap ((m : Int) * (m : Int)) = ((m * m : Nat) : Int) := by
      have := Nat.mul_le_mul (show m ≤ 4294967295 by omega) (show m ≤ 4294967295 by omega)
      rw [← Int.natCast_mul, IntKind.wrap_u64]
      omega
    have e2 : ((m * m : Nat) : Int) / 2147483648 = ((m * m / 2147483648 : Nat) : Int) := by omega
    have e3 : ((m * m / 2147483648 : Nat) : Int) / 4294967296 = ((m * m / 2147483648 / 4294967296 : Nat) : Int) := by omega
    have hi8 : i ≤ 8 := by omega
    have hn2 : ∀ d, d < 2 → 2 * n + d < 2 ^ (32 + (i + 1)) := by
      intro d hd
      rw [show 32 + (i + 1) = (32 + i) + 1 from rfl, Nat.pow_succ]
      generalize 2 ^ (32 + i) = P at hn
      omega
    have hn40 : n < 2 ^ 40 := Nat.lt_of_lt_of_le hn (Nat.pow_le_pow_right (by decide) (Nat.add_le_add_left hi8 32))
    clear hn
    have c8 : (i : Int) < 8 := by clear hn40 hn2; omega
    have cd : (0 : Int) ≤ ((m * m / 2147483648 / 4294967296 : Nat) : Int) := Int.natCast_nonneg _
    have e4 : wrap64 ((i : Int) + 1) = ((i + 1 : Nat) : Int) := by clear hn40 hn2; unfold wrap64; omega
    simp only [logs_Log.l0]
    rw [if_pos c8, hsq, e2, e3, if_pos cd, or_digit n _ hn40 c, shr_digit _ _ c, e4]
    have hij : i + 1 + j = 8 := by clear hn40 hn2; omega
    have hjk : j < k := by clear hn40 hn2; omega
    rw [l0_spec j k _ _ (i + 1) hij hjk a b (hn2 _ c)]
    congr 2
    rw [show dD (j + 1) m = (m * m / 2147483648 / 4294967296) * 2 ^ j + dD j (m * m / 2147483648 / 2 ^ (m * m / 2147483648 / 4294967296)) from rfl, Nat.pow_succ]
    generalize m * m / 2147483648 / 4294967296 = d
    generalize dD j _ = e
    rw [Nat.add_mul, ← Nat.add_assoc, Nat.mul_comm 2 n, Nat.mul_assoc, Nat.mul_comm 2 (2 ^ j)]
theorem log_some {x k : Nat} (h : x < 2 ^ 64) (hk : 9 ≤ k) : logs_Log.f k (x : Int) = some ((logN x : Nat) : Int) := by
  by_cases h0 : x = 0
  · subst h0; rfl
  · obtain ⟨a, b, c, d⟩ := bl_spec h h0
    unfold logs_Log.f
    rw [if_neg (by omega), bits_some h, bsome]
    obtain ⟨l, hl⟩ : ∃ l, Lib.bitLen x - 1 = l := ⟨_, rfl⟩
    have e1 : wrap64 (((Lib.bitLen x : Nat) : Int) - 1) = (l : Int) := by unfold wrap64; omega
    have e2 : wrap64 (63 - (l : Int)) = ((63 - l : Nat) : Int) := by unfold wrap64; omega
    have e3 : shl .u64 (x : Int) ((63 - l : Nat) : Int) = ((x * 2 ^ (63 - l) : Nat) : Int) := by
      unfold shl
      have hmin : min ((63 - l : Nat) : Int).toNat IntKind.u64.bits = 63 - l := by
        rw [Int.toNat_natCast]
        exact Nat.min_eq_left (by simp [IntKind.bits]; omega)
      have hlt : x * 2 ^ (63 - l) < 18446744073709551616 := by
        rw [hl] at d
        have := Nat.mul_lt_mul_of_pos_right d (Nat.two_pow_pos (63 - l))
        rw [← Nat.pow_add, show l + 1 + (63 - l) = 64 by omega] at this
        exact this
      rw [hmin, show (2 : Int) ^ (63 - l) = ((2 ^ (63 - l) : Nat) : Int) by simp, ← Int.natCast_mul, IntKind.wrap_u64]
      omega
    rw [e1, e2, if_pos (by omega), e3]
    have e4 : ((x * 2 ^ (63 - l) : Nat) : Int) / 4294967296 = ((mant l x : Nat) : Int) := by unfold mant; omega
    rw [e4]
    rw [hl] at c d
    obtain ⟨m0, m1⟩ := mant_range (b := l) (by omega) c d
    rw [show (0 : Int) = ((0 : Nat) : Int) from rfl, l0_spec 8 k _ _ 0 rfl (by omega) m0 m1 (by omega)]
    unfold logN
    rw [if_neg h0, hl, Nat.mul_comm]
theorem logN_mono {x y : Nat} (h : x ≤ y) (hy : y < 2 ^ 64) : logN x ≤ logN y := by
  by_cases h0 : x = 0
  · subst h0; simp [logN]
  · obtain ⟨a, b, c, d⟩ := bl_spec (x := x) (by omega) h0
    obtain ⟨a2, b2, c2, d2⟩ := bl_spec hy (by omega)
    have hp63 : Lib.bitLen x - 1 ≤ 63 := by omega
    have hq63 : Lib.bitLen y - 1 ≤ 63 := by omega
    unfold logN
    rw [if_neg h0, if_neg (by omega)]
    generalize Lib.bitLen x - 1 = p at *
    generalize Lib.bitLen y - 1 = q at *
    obtain ⟨m0, m1⟩ := mant_range (b := p) hp63 c d
    obtain ⟨n0, n1⟩ := mant_range (b := q) hq63 c2 d2
    have hpq : p < q + 1 := (Nat.pow_lt_pow_iff_right (a := 2) (by decide)).1 (Nat.lt_of_le_of_lt (Nat.le_trans c h) d2)
    have l1 := dD_lt 8 m0 m1
    by_cases e : p = q
    · subst e
      have := dD_mono 8 m0 (mant_mono (b := p) h) n1
      omega
    · omega

/-! ### Logarithms of a row -/
def logV (x : Int) : Int := ((logN ((if x < 0 then 0 else x).toNat + 1) : Nat) : Int)
def logsL (l : List Int) : List Int := l.map logV
theorem logsL_length (l : List Int) : (logsL l).length = l.length := by simp [logsL]
theorem logsL_getD (l : List Int) (i : Nat) (h : i < l.length) : (logsL l).getD i 0 = logV (l.getD i 0) := by
  simp [logsL, List.getD_eq_getElem?_getD, List.getElem?_map, List.getElem?_eq_getElem h]
theorem logV_arg {x : Int} (h0 : -9223372036854775808 ≤ x) (h1 : x ≤ 9223372036854775807) : IntKind.u64.wrap (IntKind.u64.wrap (mx x 0) + 1) = (((if x < 0 then 0 else x).toNat + 1 : Nat) : Int) ∧ (if x < 0 then 0 else x).toNat + 1 < 2 ^ 64 := by
  have e : mx x 0 = if x < 0 then 0 else x := by unfold mx; (first | rfl | (split <;> split <;> omega))
  rw [e, IntKind.wrap_u64, IntKind.wrap_u64]
  split <;> omega
theorem dlogs_l0 (l : List Int) (hw : In64 l) (hl : l.length ≤ 1000) : ∀ e k i (out : List Int), i + e = l.length → e + 12 ≤ k → out.length = l.length → (∀ j, j < i → out.getD j 0 = logV (l.getD j 0)) →
    dct_Logs.l0 k out l (l.length : Int) (i : Int) = some (logsL l) := by
  intro e
  induction e with
  | zero =>
    intro k i out hi hk ho hd
    obtain ⟨k, rfl⟩ : ∃ j, k = j + 1 := ⟨k - 1, by omega⟩
    obtain rfl : i = l.length := by omega
    rw [dct_Logs.l0, if_neg (by omega)]
    congr 1
    exact row_ext (by rw [ho, logsL_length]) (fun j hj => by rw [ho] at hj; rw [hd j hj, logsL_getD l j hj])
  | succ e ih =>
    intro k i out hi hk ho hd
    obtain ⟨k, rfl⟩ : ∃ j, k = j + 1 := ⟨k - 1, by omega⟩
    have hlt : i < l.length := by omega
    have hk9 : 9 ≤ k := by omega
    have c1 : (i : Int) < (l.length : Int) := by omega
    have c2 : (0 : Int) ≤ (i : Int) := by omega
    have c3 : (i : Int) < (out.length : Int) := by rw [ho]; exact c1
    have hw1 : wrap64 ((i : Int) + 1) = ((i + 1 : Nat) : Int) := by unfold wrap64; omega
    have hx := hw.getD i
    have hx0 : -9223372036854775808 ≤ l.getD i 0 := by rw [← hx]; exact W_lo _
    have hx1 : l.getD i 0 ≤ 9223372036854775807 := by rw [← hx]; exact W_hi _
    have hgo := ih k (i + 1) (out.set i (logV (l.getD i 0))) (by omega) (by omega) (by rw [List.length_set, ho]) (fun j hj => by
      by_cases h : j = i
      · subst h; rw [List.getD_eq_getElem?_getD, List.getElem?_set_self (by omega)]; rfl
      · have := hd j (by omega)
        rw [List.getD_eq_getElem?_getD] at this ⊢
        rw [List.getElem?_set_ne (fun h' => h h'.symm)]; exact this)
    obtain ⟨a1, a2⟩ := logV_arg hx0 hx1
    have hr : rd l (i : Int) = l.getD i 0 := by unfold rd; rw [Int.toNat_natCast]
    rw [dct_Logs.l0, if_pos c1, if_pos c2, if_pos c1, hr, a1, log_some a2 hk9, bsome, if_pos c3, Int.toNat_natCast, hw1]
    exact hgo
theorem dlogs_f (l : List Int) (hw : In64 l) (hl : l.length ≤ 1000) : dct_Logs.f 1100 l = some (logsL l) := by
  unfold dct_Logs.f
  rw [if_pos (by omega), if_pos (by omega), Int.toNat_natCast]
  exact dlogs_l0 l hw hl l.length 1100 0 (List.replicate l.length 0) (by omega) (by omega) (by simp) (fun j hj => by omega)
theorem logV_le {x : Int} (h0 : -9223372036854775808 ≤ x) (h1 : x ≤ 9223372036854775807) : 0 ≤ logV x ∧ logV x < 16384 ∧ (x ≤ 0 → logV x = 0) ∧ (0 < x → logV x ≠ 0) := by
  unfold logV
  have m63 : logN (2 ^ 63) = 16128 := by decide +kernel
  have m2 : logN 2 = 256 := by decide +kernel
  have m1 : logN 1 = 0 := by decide +kernel
  refine ⟨by omega, ?_, fun h => ?_, fun h => ?_⟩
  · have hle : (if x < 0 then 0 else x).toNat + 1 ≤ 2 ^ 63 := by split <;> omega
    have := logN_mono hle (by decide)
    rw [m63] at this
    generalize logN ((if x < 0 then 0 else x).toNat + 1) = q at *
    omega
  · have : (if x < 0 then 0 else x).toNat + 1 = 1 := by split <;> omega
    rw [this, m1]; rfl
  · have h2 : 2 ≤ (if x < 0 then 0 else x).toNat + 1 := by split <;> omega
    have h3 : (if x < 0 then 0 else x).toNat + 1 < 2 ^ 64 := by split <;> omega
    have := logN_mono h2 h3
    rw [m2] at this
    generalize logN ((if x < 0 then 0 else x).toNat + 1) = q at *
    omega
theorem logV_mono {x y : Int} (h : x ≤ y) (h1 : y ≤ 9223372036854775807) : logV x ≤ logV y := by
  unfold logV
  have h2 : (if x < 0 then 0 else x).toNat + 1 ≤ (if y < 0 then 0 else y).toNat + 1 := by split <;> split <;> omega
  have h3 : (if y < 0 then 0 else y).toNat + 1 < 2 ^ 64 := by split <;> omega
  have := logN_mono h2 h3
  omega

theorem prt_low {x n : Int} (hn : 1 ≤ n) (hx : -9223372036854775808 ≤ x) : -9223372036854775808 ≤ x / n := by
  refine (Int.le_ediv_iff_mul_le (by omega)).2 ?_
  omega
theorem prt_high {x n : Int} (hn : 1 ≤ n) (hx : x ≤ 9223372036854775807) : x / n ≤ 9223372036854775807 := by
  refine Int.le_trans (Int.ediv_le_ediv (by omega) hx) ?_
  exact Int.ediv_le_self _ (by decide)
theorem prt_some {x n : Int} (hx : -9223372036854775808 ≤ x ∧ x ≤ 9223372036854775807) (hn : -9223372036854775808 ≤ n ∧ n ≤ 9223372036854775807) (h1 : 1 ≤ n) : round_Parts.f x n = some (x / n, x % n) := by
  have hl := prt_low h1 hx.1
  have hh := prt_high h1 hx.2
  have m0 := Int.emod_nonneg x (show n ≠ 0 by omega)
  have m1 := Int.emod_lt_of_pos x (show 0 < n by omega)
  have e1 := Int.tmod_eq_emod (a := x) (b := n)
  have e2 := Int.tdiv_eq_ediv (a := x) (b := n)
  have s1 : n.sign = 1 := Int.sign_eq_one_of_pos (by omega)
  have s2 : (n.natAbs : Int) = n := by omega
  rw [s1] at e2
  unfold round_Parts.f
  rw [if_neg (by omega), if_neg (by omega)]
  by_cases h : 0 ≤ x ∨ n ∣ x
  · rw [if_pos h] at e1 e2
    rw [if_neg (by omega), e1, e2, Int.natCast_zero]
    rw [show wrap64 (x / n + 0) = x / n by unfold wrap64; omega, Int.sub_zero]
  · rw [if_neg h] at e1 e2
    rw [s2] at e1
    have hx0 : x / n < 0 := by
      rcases Int.lt_or_le (x / n) 0 with h' | h'
      · exact h'
      · have := Int.mul_ediv_add_emod x n
        have := Int.mul_nonneg (show 0 ≤ n by omega) h'
        omega
    rw [if_pos (by omega), e1, e2]
    rw [show wrap64 (x / n + 1) = x / n + 1 by unfold wrap64; omega, show wrap64 (x / n + 1 - 1) = x / n by unfold wrap64; omega, show wrap64 (x % n - n + n) = x % n by unfold wrap64; omega]
theorem prt_none {x n : Int} (h1 : n < 1) : round_Parts.f x n = some (0, 0) := by
  unfold round_Parts.f
  rw [if_pos h1]

theorem refquot_f {x n : Int} (hx : -9223372036854775808 ≤ x ∧ x ≤ 9223372036854775807) (hn : -9223372036854775808 ≤ n ∧ n ≤ 9223372036854775807) (h1 : 1 ≤ n) : earshotref02_Quot.f x n = some (x / n) := by
  have h := prt_some hx hn h1
  unfold round_Parts.f at h
  unfold earshotref02_Quot.f
  rw [if_neg (by omega)] at h
  rw [if_neg (by omega)] at h ⊢
  split at h
  · rename_i hc
    rw [if_pos hc]
    have h := Option.some.inj h
    rw [Prod.mk.injEq] at h
    rw [h.1]
  · rename_i hc
    rw [if_neg hc]
    have h := Option.some.inj h
    rw [Prod.mk.injEq] at h
    rw [h.1]
theorem refrest_f {x n : Int} (hx : -9223372036854775808 ≤ x ∧ x ≤ 9223372036854775807) (hn : -9223372036854775808 ≤ n ∧ n ≤ 9223372036854775807) (h1 : 1 ≤ n) : earshotref02_Rest.f x n = some (x % n) := by
  unfold earshotref02_Rest.f
  rw [refquot_f hx hn h1, Option.bind_some]
  have e := Int.mul_ediv_add_emod x n
  have m0 := Int.emod_nonneg x (show n ≠ 0 by omega)
  have m1 := Int.emod_lt_of_pos x (show 0 < n by omega)
  rw [W_sub_W, Int.mul_comm]
  congr 1
  rw [show x - n * (x / n) = x % n by omega]
  exact W_in (by omega) (by omega)

theorem rdiv_f {x n : Int} (hx : -9223372036854775808 ≤ x ∧ x ≤ 9223372036854775807) (hn : 1 ≤ n ∧ n ≤ 4611686018427387904) : earshotref02_Div.f x n = some (divR x n) := by
  have hn2 : -9223372036854775808 ≤ n ∧ n ≤ 9223372036854775807 := by omega
  have r0 := Int.emod_nonneg x (show n ≠ 0 by omega)
  have r1 := Int.emod_lt_of_pos x (show 0 < n by omega)
  unfold earshotref02_Div.f divR
  rw [if_neg (by omega), if_neg (by omega), refquot_f hx hn2 hn.1, bsome, refrest_f hx hn2 hn.1, bsome]
  have e : wrap64 (n - x % n) = n - x % n := by unfold wrap64; omega
  rw [e]
  by_cases h : x % n ≥ n - x % n
  · rw [if_pos h, if_pos h]
    congr 1
    have q0 : -9223372036854775808 ≤ x / n := (Int.le_ediv_iff_mul_le (by omega)).2 (by omega)
    have q1 : x / n < 9223372036854775807 := by
      have hd := Int.mul_ediv_add_emod x n
      rcases Int.lt_or_le (x / n) 9223372036854775807 with h' | h'
      · exact h'
      · have := Int.mul_le_mul_of_nonneg_right hn.1 (show 0 ≤ x / n by omega)
        omega
    unfold wrap64; omega
  · rw [if_neg h, if_neg h]
theorem rpower : ∀ n : Fin 63, earshotref02_power.f 70 ((n.1 : Nat) : Int) = some ((2 ^ n.1 : Nat) : Int) := by decide +kernel
theorem rhalf_f {x : Int} (hx : -9223372036854775808 ≤ x ∧ x ≤ 9223372036854775807) (n : Nat) (hn : n ≤ 62) : ∀ k, 71 ≤ k → earshotref02_Half.f k x (n : Int) = some (divR x ((2 ^ n : Nat) : Int)) := by
  intro k hk
  obtain ⟨d, rfl⟩ := Nat.exists_eq_add_of_le hk
  clear hk
  induction d with
  | zero =>
    have hp := rpower ⟨n, by omega⟩
    have hle : 2 ^ n ≤ 2 ^ 62 := Nat.pow_le_pow_right (by decide) hn
    have hpos : 0 < 2 ^ n := Nat.two_pow_pos n
    unfold earshotref02_Half.f
    rw [if_neg (by omega), decide_eq_false (by omega), earshotref02_Half.j0, if_neg (by decide), hp, bsome]
    generalize 2 ^ n = p at *
    rw [rdiv_f hx (by omega), bsome]
  | succ d ih => exact earshotref02_Half.mono _ _ _ _ ih

theorem ref_bits_l0 : ∀ (f k x n : Nat), x < 2 ^ f → n + f ≤ 64 → f < k → earshotref03_Bits.l0 k (x : Int) (n : Int) = some ((n + Lib.bitLenAux f x : Nat) : Int)
  | 0, k, x, n, h, _, hk => by
    obtain ⟨k, rfl⟩ : ∃ k', k = k' + 1 := ⟨k - 1, by omega⟩
    have : x = 0 := by simpa using h
    subst this
    simp only [earshotref03_Bits.l0]
    rw [if_neg (by decide)]
    simp [Lib.bitLenAux]
  | f + 1, k, x, n, h, hf, hk => by
    obtain ⟨k, rfl⟩ : ∃ k', k = k' + 1 := ⟨k - 1, by omega⟩
    simp only [earshotref03_Bits.l0]
    by_cases h0 : x = 0
    · subst h0
      rw [if_neg (by decide), bla_zero]
      simp
    · have e1 : Lib.bitLenAux (f + 1) x = 1 + Lib.bitLenAux f (x / 2) := by
        show (if x = 0 then 0 else 1 + Lib.bitLenAux f (x / 2)) = _
        rw [if_neg h0]
      have hx64 : x < 2 ^ 64 := Nat.lt_of_lt_of_le h (Nat.pow_le_pow_right (by decide) (by omega))
      rw [Nat.pow_succ] at h
      have hlt : x / 2 < 2 ^ f := by omega
      clear h
      have e2 : IntKind.u64.wrap (Int.tdiv (x : Int) 2) = ((x / 2 : Nat) : Int) := by
        rw [Int.tdiv_eq_ediv_of_nonneg (by omega), IntKind.wrap_u64]; clear hlt; omega
      have e3 : wrap64 ((n : Int) + 1) = ((n + 1 : Nat) : Int) := by clear hlt; unfold wrap64; omega
      rw [if_pos (by clear hlt; omega), e2, e3, e1]
      rw [ref_bits_l0 f k (x / 2) (n + 1) hlt (by omega) (by omega), Nat.add_assoc]
theorem ref_bits_some {x k : Nat} (h : x < 2 ^ 64) (hk : 65 ≤ k) : earshotref03_Bits.f k (x : Int) = some ((Lib.bitLen x : Nat) : Int) := by
  unfold earshotref03_Bits.f Lib.bitLen
  have := ref_bits_l0 64 k x 0 h (by omega) (by omega)
  rw [Nat.zero_add] at this
  exact this
theorem ref_log_l0 : ∀ (j k m : Nat) (b : Int), 2147483648 ≤ m * 2 ^ j → (j = 0 ∨ m * 2 ^ j < 4294967296) → earshotref03_Log.l0 (k + j + 1) b (m : Int) = earshotref03_Log.l1 (k + 0) b ((m * 2 ^ j : Nat) : Int)
  | 0, k, m, b, h0, _ => by
    rw [Nat.pow_zero, Nat.mul_one] at h0 ⊢
    rw [earshotref03_Log.l0, if_neg (by omega)]; rfl
  | j + 1, k, m, b, h0, h1 => by
    have h1 : m * 2 ^ (j + 1) < 4294967296 := by rcases h1 with h | h; cases h; exact h
    have e : m * 2 ^ (j + 1) = (m * 2) * 2 ^ j := by rw [Nat.pow_succ, Nat.mul_assoc, Nat.mul_comm 2]
    have hp : 0 < 2 ^ j := Nat.two_pow_pos j
    rw [e] at h0 h1 ⊢
    have hm : m * 2 < 4294967296 := Nat.lt_of_le_of_lt (Nat.le_mul_of_pos_right _ hp) h1
    have e2 : IntKind.u64.wrap ((m : Int) * 2) = ((m * 2 : Nat) : Int) := by rw [IntKind.wrap_u64]; clear h0 h1 hp e; omega
    rw [← ref_log_l0 j k (m * 2) b h0 (Or.inr h1)]
    show earshotref03_Log.l0 ((k + j + 1) + 1) b (m : Int) = _
    rw [earshotref03_Log.l0, if_pos (by clear h0 h1 hp e; omega), e2]
theorem ref_log_l1 : ∀ (j k m : Nat) (b : Int), m < 2 ^ 64 → 2147483648 ≤ m / 2 ^ j → m / 2 ^ j < 4294967296 → earshotref03_Log.l1 (k + j + 1) b (m : Int) = earshotref03_Log.l2 (k + 0) b ((m / 2 ^ j : Nat) : Int) 0 0
  | 0, k, m, b, hm, h0, h1 => by
    rw [Nat.pow_zero, Nat.div_one] at h0 h1 ⊢
    rw [earshotref03_Log.l1, if_neg (by omega)]; rfl
  | j + 1, k, m, b, hm, h0, h1 => by
    have e : m / 2 ^ (j + 1) = (m / 2) / 2 ^ j := by rw [Nat.pow_succ, Nat.mul_comm, Nat.div_div_eq_div_mul]
    rw [e] at h0 h1 ⊢
    have hle : m / 2 / 2 ^ j ≤ m / 2 := Nat.div_le_self _ _
    have e2 : IntKind.u64.wrap (Int.tdiv (m : Int) 2) = ((m / 2 : Nat) : Int) := by
      rw [Int.tdiv_eq_ediv_of_nonneg (by omega), IntKind.wrap_u64]; clear h0 h1 e hle; omega
    rw [← ref_log_l1 j k (m / 2) b (by omega) h0 h1]
    show earshotref03_Log.l1 ((k + j + 1) + 1) b (m : Int) = _
    rw [earshotref03_Log.l1, if_pos (by omega), e2]
theorem lt8 {i : Nat} (h : i < 8) : (i : Int) < 8 := by omega
theorem sq_wrap {m : Nat} (h1 : m < 4294967296) : IntKind.u64.wrap ((m : Int) * (m : Int)) = ((m * m : Nat) : Int) := by
  have := Nat.mul_le_mul (show m ≤ 4294967295 by omega) (show m ≤ 4294967295 by omega)
  rw [← Int.natCast_mul, IntKind.wrap_u64]
  omega
theorem half_wrap {m : Nat} (h1 : m < 4294967296) : IntKind.u64.wrap (Int.tdiv ((m * m : Nat) : Int) 2147483648) = ((m * m / 2147483648 : Nat) : Int) := by
  have := Nat.mul_le_mul (show m ≤ 4294967295 by omega) (show m ≤ 4294967295 by omega)
  generalize m * m = z at *
  rw [Int.tdiv_eq_ediv_of_nonneg (by omega), IntKind.wrap_u64]; omega
theorem q_half {q : Nat} (h1 : q < 8589934592) : IntKind.u64.wrap (Int.tdiv ((q : Nat) : Int) 2) = ((q / 2 : Nat) : Int) := by
  rw [Int.tdiv_eq_ediv_of_nonneg (by omega), IntKind.wrap_u64]; omega
theorem ww_add {i : Nat} (h : i < 2 ^ 42) : wrap64 ((i : Int) + 1) = ((i + 1 : Nat) : Int) := by unfold wrap64; omega
theorem ww_mul {n : Nat} (h : n < 2 ^ 40) : wrap64 ((n : Int) * 2) = ((2 * n : Nat) : Int) := by unfold wrap64; omega
theorem ref_log_l2 : ∀ (j k m n i l : Nat), i + j = 8 → l ≤ 63 → 2147483648 ≤ m → m < 4294967296 → n < 2 ^ (32 + i) → earshotref03_Log.l2 (k + j + 1) (l : Int) (m : Int) (n : Int) (i : Int) = some ((256 * l + (n * 2 ^ j + dD j m) : Nat) : Int)
  | 0, k, m, n, i, l, hi, hl, h0, h1, hn => by
    have hn40 : n < 2 ^ 40 := Nat.lt_of_lt_of_le hn (Nat.pow_le_pow_right (by decide) (by omega))
    clear hn
    rw [earshotref03_Log.l2, if_neg (by omega), dD, Nat.pow_zero, Nat.mul_one]
    congr 1
    unfold wrap64
    omega
  | j + 1, k, m, n, i, l, hi, hl, h0, h1, hn => by
    have hn40 : n < 2 ^ 40 := Nat.lt_of_lt_of_le hn (Nat.pow_le_pow_right (by decide) (by omega))
    have hn2 : ∀ d, d < 2 → 2 * n + d < 2 ^ (32 + (i + 1)) := by
      intro d hd
      rw [show 32 + (i + 1) = (32 + i) + 1 from rfl, Nat.pow_succ]
      generalize 2 ^ (32 + i) = P at hn
      omega
    have hd : dD (j + 1) m = (m * m / 2147483648 / 4294967296) * 2 ^ j + dD j (m * m / 2147483648 / 2 ^ (m * m / 2147483648 / 4294967296)) := rfl
    show earshotref03_Log.l2 ((k + j + 1) + 1) (l : Int) (m : Int) (n : Int) (i : Int) = _
    rw [hd, earshotref03_Log.l2, if_pos (lt8 (by omega)), sq_wrap h1, half_wrap h1, ww_add (by omega), ww_mul hn40, ww_add (by clear hn hn2; omega)]
    obtain ⟨s0, s1⟩ := sq_range h0 h1
    obtain ⟨a, b, c⟩ := next_range h0 h1
    clear hn hd
    generalize m * m / 2147483648 = q at *
    have hij : i + 1 + j = 8 := by omega
    by_cases hc : q / 4294967296 = 1
    · rw [hc, Nat.pow_one] at a b
      have ih := ref_log_l2 j k _ _ (i + 1) l hij hl a b (hn2 1 (by decide))
      clear hn2 a b
      rw [if_pos (by omega), q_half s1, ih, hc, Nat.pow_one, Nat.one_mul, Nat.pow_succ]
      congr 2
      generalize dD j _ = e
      rw [Nat.add_mul, Nat.one_mul, Nat.mul_comm 2 n, Nat.mul_assoc n 2, Nat.mul_comm 2 (2 ^ j), Nat.add_assoc]
    · have hc : q / 4294967296 = 0 := by clear hn2 a b; omega
      rw [hc, Nat.pow_zero, Nat.div_one] at a b
      have ih := ref_log_l2 j k _ _ (i + 1) l hij hl a b (hn2 0 (by decide))
      clear hn2 a b
      rw [if_neg (by omega), show ((2 * n : Nat) : Int) = ((2 * n + 0 : Nat) : Int) from rfl, ih, hc, Nat.pow_zero, Nat.div_one, Nat.zero_mul, Nat.pow_succ]
      congr 2
      generalize dD j _ = e
      rw [Nat.add_zero, Nat.mul_comm 2 n, Nat.mul_assoc n 2, Nat.mul_comm 2 (2 ^ j), Nat.zero_add]
theorem ref_log_some {x : Nat} (h : x < 2 ^ 64) : earshotref03_Log.f 110 (x : Int) = some ((logN x : Nat) : Int) := by
  by_cases h0 : x = 0
  · subst h0; rfl
  · obtain ⟨a, b, c, d⟩ := bl_spec h h0
    unfold earshotref03_Log.f logN
    rw [if_neg (by omega), ref_bits_some h (by decide), bsome, if_neg h0]
    obtain ⟨l, hl⟩ : ∃ l, Lib.bitLen x - 1 = l := ⟨_, rfl⟩
    have e1 : wrap64 (((Lib.bitLen x : Nat) : Int) - 1) = (l : Int) := by unfold wrap64; omega
    have hl63 : l ≤ 63 := by omega
    rw [e1]
    rw [hl] at c d ⊢
    obtain ⟨m0, m1⟩ := mant_range (b := l) hl63 c d
    by_cases h31 : l ≤ 31
    · have em : mant l x = x * 2 ^ (31 - l) := by
        unfold mant
        rw [show 63 - l = (31 - l) + 32 by omega, Nat.pow_add, ← Nat.mul_assoc]
        exact Nat.mul_div_cancel _ (by decide)
      have := ref_log_l0 (31 - l) (109 - (31 - l)) x (l : Int) (by rw [← em]; exact m0) (Or.inr (by rw [← em]; exact m1))
      rw [show 109 - (31 - l) + (31 - l) + 1 = 110 by omega, ← em] at this
      rw [this]
      have := ref_log_l1 0 (109 - (31 - l) - 1) (mant l x) (l : Int) (by omega) (by rw [Nat.pow_zero, Nat.div_one]; exact m0) (by rw [Nat.pow_zero, Nat.div_one]; exact m1)
      rw [show 109 - (31 - l) - 1 + 0 + 1 = 109 - (31 - l) + 0 by omega, Nat.pow_zero, Nat.div_one] at this
      rw [this]
      have := ref_log_l2 8 (109 - (31 - l) - 1 - 9) (mant l x) 0 0 l rfl hl63 m0 m1 (by decide)
      rw [show 109 - (31 - l) - 1 - 9 + 8 + 1 = 109 - (31 - l) - 1 + 0 by omega] at this
      rw [show (0 : Int) = ((0 : Nat) : Int) from rfl, this, Nat.zero_mul, Nat.zero_add]
    · have em : mant l x = x / 2 ^ (l - 31) := by
        unfold mant
        have e : (4294967296 : Nat) = 2 ^ (l - 31) * 2 ^ (63 - l) := by rw [← Nat.pow_add, show l - 31 + (63 - l) = 32 by omega]
        rw [e, Nat.mul_div_mul_right _ _ (Nat.two_pow_pos _)]
      have hx : 2147483648 ≤ x := Nat.le_trans (show 2 ^ 31 ≤ 2 ^ l from Nat.pow_le_pow_right (by decide) (by omega)) c
      have := ref_log_l0 0 109 x (l : Int) (by rw [Nat.pow_zero, Nat.mul_one]; exact hx) (Or.inl rfl)
      rw [Nat.pow_zero, Nat.mul_one] at this
      rw [this]
      have := ref_log_l1 (l - 31) (108 - (l - 31)) x (l : Int) h (by rw [← em]; exact m0) (by rw [← em]; exact m1)
      rw [show 108 - (l - 31) + (l - 31) + 1 = 109 + 0 by omega, ← em] at this
      rw [this]
      have := ref_log_l2 8 (108 - (l - 31) - 9) (mant l x) 0 0 l rfl hl63 m0 m1 (by decide)
      rw [show 108 - (l - 31) - 9 + 8 + 1 = 108 - (l - 31) + 0 by omega] at this
      rw [show (0 : Int) = ((0 : Nat) : Int) from rfl, this, Nat.zero_mul, Nat.zero_add]

theorem same_goK (l : List Int) (hl : l.length ≤ 100000000) (d : Nat) : ∀ (k i : Nat), i ≤ l.length → l.length - i = d → d < k → earshotref04_Same.l0 k l l (i : Int) = some true := by
  induction d with
  | zero =>
    intro k i h0 hd hk
    obtain ⟨k, rfl⟩ : ∃ m, k = m + 1 := ⟨k - 1, by omega⟩
    simp only [earshotref04_Same.l0]
    rw [if_neg (by omega)]
  | succ d ih =>
    intro k i h0 hd hk
    obtain ⟨k, rfl⟩ : ∃ m, k = m + 1 := ⟨k - 1, by omega⟩
    simp only [earshotref04_Same.l0]
    have hw : wrap64 ((i : Int) + 1) = ((i + 1 : Nat) : Int) := by unfold wrap64; omega
    rw [if_pos (by omega), if_pos (by omega), if_pos (by omega), if_pos trivial, hw]
    exact ih k (i + 1) (by omega) (by omega) (by omega)
theorem sameK (l : List Int) (hl : l.length ≤ 100000000) {k : Nat} (hk : l.length < k) : earshotref04_Same.f k l l = some true := by
  unfold earshotref04_Same.f
  rw [if_pos rfl]
  exact same_goK l hl l.length k 0 (by omega) (by omega) (by omega)

theorem ref_log_K {x k : Nat} (h : x < 2 ^ 64) (hk : 110 ≤ k) : earshotref03_Log.f k (x : Int) = some ((logN x : Nat) : Int) := by
  obtain ⟨d, rfl⟩ := Nat.exists_eq_add_of_le hk
  clear hk
  induction d with
  | zero => exact ref_log_some h
  | succ d ih => exact earshotref03_Log.mono _ _ _ ih
theorem ref_log_one {k : Nat} (hk : 110 ≤ k) : earshotref03_Log.f k 1 = some 0 := by
  have h := ref_log_K (x := 1) (by decide) hk
  rw [show logN 1 = 0 by decide +kernel] at h
  exact h
theorem rlogs_l0 (l : List Int) (hw : In64 l) (hl : l.length ≤ 1000) : ∀ e k i, i + e = l.length → e + 120 ≤ k →
    earshotref12_Logs.l0 k l ((logsL l).take i) (i : Int) = some (logsL l) := by
  intro e
  induction e with
  | zero =>
    intro k i hi hk
    obtain ⟨k, rfl⟩ : ∃ j, k = j + 1 := ⟨k - 1, by omega⟩
    obtain rfl : i = l.length := by omega
    rw [earshotref12_Logs.l0, if_neg (by omega), List.take_of_length_le (by rw [logsL_length]; exact Nat.le_refl _)]
  | succ e ih =>
    intro k i hi hk
    obtain ⟨k, rfl⟩ : ∃ j, k = j + 1 := ⟨k - 1, by omega⟩
    have hlt : i < l.length := by omega
    have c1 : (i : Int) < (l.length : Int) := by omega
    have c2 : (0 : Int) ≤ (i : Int) := by omega
    have c4 : ((logsL l).take i).length < 17592186044416 := by rw [List.length_take, logsL_length]; omega
    have hw1 : wrap64 ((i : Int) + 1) = ((i + 1 : Nat) : Int) := by unfold wrap64; omega
    have hk110 : 110 ≤ k := by omega
    have hgo := ih k (i + 1) (by omega) (by omega)
    have hr : rd l (i : Int) = l.getD i 0 := by unfold rd; rw [Int.toNat_natCast]
    have hx := hw.getD i
    have hx0 : -9223372036854775808 ≤ l.getD i 0 := by rw [← hx]; exact W_lo _
    have hx1 : l.getD i 0 ≤ 9223372036854775807 := by rw [← hx]; exact W_hi _
    have hs : (logsL l).take i ++ [logV (l.getD i 0)] = (logsL l).take (i + 1) := by
      rw [← logsL_getD l i hlt, List.take_succ_eq_append_getElem (by rw [logsL_length]; exact hlt), List.getD_eq_getElem?_getD, List.getElem?_eq_getElem (by rw [logsL_length]; exact hlt), Option.getD_some]
    rw [earshotref12_Logs.l0, if_pos c1, if_pos c2, hr]
    obtain ⟨a1, a2⟩ := logV_arg hx0 hx1
    by_cases hp : l.getD i 0 > 0
    · have ha : IntKind.u64.wrap (IntKind.u64.wrap (l.getD i 0) + 1) = (((if l.getD i 0 < 0 then 0 else l.getD i 0).toNat + 1 : Nat) : Int) := by
        rw [IntKind.wrap_u64, IntKind.wrap_u64, if_neg (by omega)]; clear a1 a2 hgo; omega
      rw [if_pos hp, ha, ref_log_K a2 hk110, bsome, if_pos c4, hw1]
      unfold logV at hs
      rw [hs]
      exact hgo
    · have hv : logV (l.getD i 0) = 0 := by
        have := (logV_le hx0 hx1).2.2.1 (by omega)
        exact this
      rw [if_neg hp, ref_log_one hk110, bsome, if_pos c4, hw1]
      rw [hv] at hs
      rw [hs]
      exact hgo
theorem rlogs_f (l : List Int) (hw : In64 l) (hl : l.length ≤ 1000) : earshotref12_Logs.f 1200 l = some (logsL l) := by
  unfold earshotref12_Logs.f
  exact rlogs_l0 l hw hl l.length 1200 0 (by omega) (by omega)
theorem rrow_fin4 : ∀ k : Fin 4, earshotref12_Row.f 60 ((k.1 : Nat) : Int) 4 = some (dctRow k.1 4) := by decide +kernel
theorem rrow_fin8 : ∀ k : Fin 8, earshotref12_Row.f 60 ((k.1 : Nat) : Int) 8 = some (dctRow k.1 8) := by decide +kernel
theorem rrow_fin16 : ∀ k : Fin 16, earshotref12_Row.f 60 ((k.1 : Nat) : Int) 16 = some (dctRow k.1 16) := by decide +kernel
theorem rmay_f (n : Int) : earshotref12_May.f n = some (mayB n.toNat) := by
  unfold earshotref12_May.f mayB
  by_cases h4 : n = 4
  · subst h4; rfl
  by_cases h8 : n = 8
  · subst h8; rfl
  by_cases h16 : n = 16
  · subst h16; rfl
  rw [if_neg h4, if_neg h8]
  have e4 : (n.toNat == 4) = false := by simp; omega
  have e8 : (n.toNat == 8) = false := by simp; omega
  have e16 : (n.toNat == 16) = false := by simp; omega
  have e : (n == 16) = false := by simp; omega
  rw [e4, e8, e16, e]; rfl
theorem rrow_0 (a0 a1 : Int) : earshotref12_Row.f 60 a0 a1 = some (rowF a0 a1) := by
  unfold rowF
  by_cases h : rowMay a0 a1 = true
  · rw [if_pos h]
    simp only [rowMay, Bool.and_eq_true, decide_eq_true_eq] at h
    obtain ⟨k, rfl⟩ := Int.eq_ofNat_of_zero_le h.1.2
    obtain ⟨n, rfl⟩ := Int.eq_ofNat_of_zero_le (show 0 ≤ a1 by omega)
    simp only [Int.toNat_natCast] at h ⊢
    rcases mayB_cases h.1.1 with rfl | rfl | rfl
    · exact rrow_fin4 ⟨k, by omega⟩
    · exact rrow_fin8 ⟨k, by omega⟩
    · exact rrow_fin16 ⟨k, by omega⟩
  · rw [if_neg h]
    have hj : earshotref12_Row.j0 60 a0 a1 true = some [] := by rw [earshotref12_Row.j0, if_pos rfl]
    unfold earshotref12_Row.f
    rw [rmay_f, bsome]
    cases hb : mayB a1.toNat
    · rw [if_neg (by decide), hj]
    · rw [if_pos rfl]
      by_cases c1 : a0 < 0
      · rw [if_pos c1, hj]
      · rw [if_neg c1, decide_eq_true (show a0 ≥ a1 from ?_), hj]
        apply Classical.byContradiction; intro c2; apply h
        unfold rowMay; rw [hb]; simp only [Bool.true_and, Bool.and_eq_true, decide_eq_true_eq]; omega
theorem rrow_f (a0 a1 : Int) : ∀ k, 60 ≤ k → earshotref12_Row.f k a0 a1 = some (rowF a0 a1) := by
  intro k hk
  obtain ⟨d, rfl⟩ := Nat.exists_eq_add_of_le hk
  clear hk
  induction d with
  | zero => exact rrow_0 a0 a1
  | succ d ih => exact earshotref12_Row.mono _ _ _ _ ih
theorem rdct_l1 (c : Int) (l out : List Int) (i n : Nat) (hl : l.length = n) (hn : n ≤ 16) (ho : out.length ≤ 16) (hi : i ≤ 16) : ∀ d j k, j + d = n → 100 + d ≤ k →
    ∃ k', k ≤ k' + d + 1 ∧ earshotref12_Dct.l1 k c l out (i : Int) (dctRow i n) (dS (dctRow i n) l j) (j : Int) = earshotref12_Dct.l0 k' c l (out ++ [dctV l i]) ((i + 1 : Nat) : Int) := by
  intro d
  induction d with
  | zero =>
    intro j k hj hk
    obtain ⟨k, rfl⟩ : ∃ m, k = m + 1 := ⟨k - 1, by omega⟩
    obtain rfl : j = n := by omega
    have hw1 : wrap64 ((i : Int) + 1) = ((i + 1 : Nat) : Int) := by unfold wrap64; omega
    have hh := rhalf_f (dS_in (dctRow i j) l j) 14 (by decide) k (by omega)
    have e14 : ((14 : Nat) : Int) = 14 := rfl
    have e2 : ((2 ^ 14 : Nat) : Int) = 16384 := by decide
    rw [e14, e2] at hh
    refine ⟨k, Nat.le_refl _, ?_⟩
    rw [earshotref12_Dct.l1, if_neg (by rw [hl]; omega), hh, bsome, if_pos (by omega), hw1]
    unfold dctV
    rw [hl]
  | succ d ih =>
    intro j k hj hk
    obtain ⟨k, rfl⟩ : ∃ m, k = m + 1 := ⟨k - 1, by omega⟩
    have hw1 : wrap64 ((j : Int) + 1) = ((j + 1 : Nat) : Int) := by unfold wrap64; omega
    have c1 : (j : Int) < (l.length : Int) := by rw [hl]; omega
    have c2 : (0 : Int) ≤ (j : Int) := by omega
    have c3 : (j : Int) < ((dctRow i n).length : Int) := by rw [dctRow_length]; omega
    obtain ⟨k', h1, h2⟩ := ih (j + 1) k (by omega) (by omega)
    refine ⟨k', by omega, ?_⟩
    rw [earshotref12_Dct.l1, if_pos c1, if_pos c2, if_pos c3, hw1]
    have e : wrap64 (dS (dctRow i n) l j + wrap64 (rd l (j : Int) * rd (dctRow i n) (j : Int))) = dS (dctRow i n) l (j + 1) := by
      unfold rd; rw [Int.toNat_natCast, Int.mul_comm]; rfl
    rw [e]
    exact h2
theorem dctL_snoc (l : List Int) (i : Nat) : dctL i l ++ [dctV l i] = dctL (i + 1) l := by unfold dctL; rw [List.range_succ, List.map_append]; rfl
theorem rdct_l0 (c n : Nat) (l : List Int) (hl : l.length = n) (hm : mayB n = true) (hc : c ≤ n) : ∀ e i k, i + e = c → 200 + 40 * e ≤ k → earshotref12_Dct.l0 k (c : Int) l (dctL i l) (i : Int) = some (dctL c l) := by
  have hn : n ≤ 16 := by rcases mayB_cases hm with rfl | rfl | rfl <;> omega
  intro e
  induction e with
  | zero =>
    intro i k hi hk
    obtain ⟨k, rfl⟩ : ∃ m, k = m + 1 := ⟨k - 1, by omega⟩
    obtain rfl : i = c := by omega
    rw [earshotref12_Dct.l0, if_neg (by omega)]
  | succ e ih =>
    intro i k hi hk
    obtain ⟨k, rfl⟩ : ∃ m, k = m + 1 := ⟨k - 1, by omega⟩
    have hr := rrow_f (i : Int) (n : Int) k (by omega)
    rw [rowF_yes hm (by omega)] at hr
    obtain ⟨k', h1, h2⟩ := rdct_l1 (c : Int) l (dctL i l) i n hl hn (by simp [dctL]; omega) (by omega) n 0 k (by omega) (by omega)
    rw [earshotref12_Dct.l0, if_pos (by omega), hl, hr, bsome]
    have e0 : dS (dctRow i n) l 0 = 0 := rfl
    rw [e0, show ((0 : Nat) : Int) = 0 from rfl] at h2
    rw [h2, dctL_snoc]
    exact ih (i + 1) k' (by omega) (by omega)
theorem rdct_f (a0 : Int) (l : List Int) : earshotref12_Dct.f 1000 a0 l = some (dctF a0 l) := by
  unfold earshotref12_Dct.f dctF
  rw [rmay_f, Int.toNat_natCast, bsome]
  by_cases h : dctMay a0 l.length = true
  · rw [if_pos h]
    simp only [dctMay, Bool.and_eq_true, decide_eq_true_eq] at h
    obtain ⟨c, rfl⟩ := Int.eq_ofNat_of_zero_le (show 0 ≤ a0 by omega)
    have hn : l.length ≤ 16 := by rcases mayB_cases h.1.1 with h | h | h <;> omega
    rw [h.1.1, if_pos rfl, if_neg (by omega), decide_eq_false (by omega), earshotref12_Dct.j0, if_neg (by decide), Int.toNat_natCast]
    exact rdct_l0 c l.length l rfl h.1.1 (by omega) c 0 999 (by omega) (by omega)
  · rw [if_neg h]
    have hj : earshotref12_Dct.j0 1000 a0 l true = some [] := by rw [earshotref12_Dct.j0, if_pos rfl]
    cases hb : mayB l.length
    · rw [if_neg (by decide), hj]
    · rw [if_pos rfl]
      by_cases c1 : a0 < 1
      · rw [if_pos c1, hj]
      · rw [if_neg c1, decide_eq_true (show a0 > (l.length : Int) from ?_), hj]
        apply Classical.byContradiction; intro c2; apply h
        unfold dctMay; rw [hb]; simp only [Bool.true_and, Bool.and_eq_true, decide_eq_true_eq]; omega
theorem dctF_length (a0 : Int) (l : List Int) : (dctF a0 l).length ≤ 16 := by
  unfold dctF
  split
  · rename_i h
    simp only [dctMay, Bool.and_eq_true, decide_eq_true_eq] at h
    have hn : l.length ≤ 16 := by rcases mayB_cases h.1.1 with h | h | h <;> omega
    simp [dctL]; omega
  · simp
theorem rowF_length (a0 a1 : Int) : (rowF a0 a1).length ≤ 16 := by
  unfold rowF
  split
  · rename_i h
    simp only [rowMay, Bool.and_eq_true, decide_eq_true_eq] at h
    rw [dctRow_length]
    rcases mayB_cases h.1.1 with h | h | h <;> omega
  · simp
theorem tells_f (l : List Int) (a b : Int) (hl : l.length ≤ 1000) : earshotlaw12_tells.f 1000 l a b = some true := by
  unfold earshotlaw12_tells.f
  have hr : dct_Row.f a b = some (rowF a b) := rfl
  have hd : dct_Dct.f a l = some (dctF a l) := by unfold dct_Dct.f; rw [if_pos (decide_eq_true (by omega))]
  have l1 := rowF_length a b
  have l2 := dctF_length a l
  rw [hr, bsome, rrow_f a b 1000 (by decide), bsome, sameK _ (by omega) (by omega), bsome, hd, bsome, rdct_f, bsome, sameK _ (by omega) (by omega), bsome, if_pos rfl]

theorem awake_d {w0 : World} (W : World) (hB : Below w0.heap.size w0 W) (hG : GlobA W) : Calls Tryd.prog 14 #[] W fun e w' => e = .returned (.bool true) ∧ Aside0 (Below w0.heap.size w0 w') ∧ Aside0 (Below W.heap.size W w') :=
  (earshotlaw12_awake.calls 30 true W hG (by decide +kernel)).mono fun e w' ⟨a, b⟩ => ⟨a, ⟨below_step hB b⟩, ⟨b⟩⟩
theorem logs_d {w0 : World} (A : Option Addr) (n c : Nat) (l : List Int) (W : World) (hB : Below w0.heap.size w0 W) (hl : l.length = n) (hC : (Kd.int .i64).C W A n l) (hc : n ≤ c) (hn : n ≤ 1000) (hw : In64 l) :
    Calls Tryd.prog 17 #[.slice A n c] W (CRes w0 W n (logsL l)) := by
  subst hl
  exact (dct_Logs.calls 1100 A c l _ W hC hc (dlogs_f l hw hn)).mono fun e w' ⟨v, he, hR, hb⟩ => by subst he; exact cres_of hB hR (logsL_length _) hb
theorem rlogs_d {w0 : World} (A : Option Addr) (n c : Nat) (l : List Int) (W : World) (hB : Below w0.heap.size w0 W) (hl : l.length = n) (hC : (Kd.int .i64).C W A n l) (hc : n ≤ c) (hn : n ≤ 1000) (hw : In64 l) :
    Calls Tryd.prog 18 #[.slice A n c] W (CRes w0 W n (logsL l)) := by
  subst hl
  exact (earshotref12_Logs.calls 1200 A c l _ W hC hc (rlogs_f l hw hn)).mono fun e w' ⟨v, he, hR, hb⟩ => by subst he; exact cres_of hB hR (logsL_length _) hb
theorem tells_d {w0 : World} (A : Option Addr) (n c : Nat) (l : List Int) (a b : Int) (W : World) (hB : Below w0.heap.size w0 W) (hG : GlobA W) (hl : l.length = n) (hC : (Kd.int .i64).C W A n l) (hc : n ≤ c) (hn : n ≤ 1000) :
    Calls Tryd.prog 19 #[.slice A n c, .int .i64 a, .int .i64 b] W fun e w' => e = .returned (.bool true) ∧ Aside0 (Below w0.heap.size w0 w') ∧ Aside0 (Below W.heap.size W w') := by
  subst hl
  exact (earshotlaw12_tells.calls 1000 A c l a b true W hG hC hc (tells_f l a b hn)).mono fun e w' ⟨x, y⟩ => ⟨x, ⟨below_step hB y⟩, ⟨y⟩⟩
theorem sized_d {w0 : World} (A : Option Addr) (m c n : Nat) (l v : List Int) (s : Int) (W : World) (hB : Below w0.heap.size w0 W) (hl : l.length = m) (hC : (Kd.int .i64).C W A m l) (hc : m ≤ c) (hm : m ≤ 4000000000000000000) (hn : sizeOf_ s = n) (hv : sizedL n l = v) :
    Calls Tryd.prog 15 #[.slice A m c, .int .i64 s] W (CRes w0 W n v) := by
  subst hl
  subst hn
  subst hv
  refine (earshotlaw12_sized.calls A c l s (sizedL (sizeOf_ s) l) W hC hc (by unfold earshotlaw12_sized.f; rw [if_pos (decide_eq_true hm)])).mono fun e w' ⟨v, he, hR, hb⟩ => ?_
  subst he
  exact cres_of hB hR (sizedL_length _ _) hb
theorem sizeOf_le (s : Int) : sizeOf_ s ≤ 16 := by
  have m0 := Int.emod_nonneg s (show (3 : Int) ≠ 0 by decide)
  have m1 := Int.emod_lt_of_pos s (show (0 : Int) < 3 by decide)
  have hc : s % 3 = 0 ∨ s % 3 = 1 ∨ s % 3 = 2 := by omega
  unfold sizeOf_
  rcases hc with h | h | h <;> rw [h] <;> decide
def earshotlaw12_DctTells.f (l0 : List Int) (a1 a2_0 a2_1 : Int) : Option (Bool) := if decide (l0.length ≤ 4000000000000000000) && l0.all (fun x => decide (-9223372036854775808 ≤ x) && decide (x ≤ 9223372036854775807)) then some true else none
set_option maxHeartbeats 32000000 in
set_option maxRecDepth 100000 in
theorem tells_go1 (A0 : Option Addr) (n c0 : Nat) (l : List Int) (sz q0 q1 : Int) (w : World) (hG : GlobA w) (hl : l.length = 20) (hC : (Kd.int .i64).C w A0 20 l) (hnc : n ≤ c0) (hn : 20 < n) (hv : In64 l) (hm : n ≤ 4000000000000000000) :
    Calls Tryd.prog 3 #[.slice A0 n c0, .int .i64 sz, .agg #[.int .i64 q0, .int .i64 q1]] w fun e w' => e = .returned (.bool true) ∧ Below w.heap.size w w' := by
  have hN16 := sizeOf_le sz
  obtain ⟨N, hN⟩ : ∃ N, sizeOf_ sz = N := ⟨_, rfl⟩
  rw [hN] at hN16
  obtain ⟨v, hvv⟩ : ∃ v, sizedL N l = v := ⟨_, rfl⟩
  have HLV : Aside0 (v.length = N) := ⟨by rw [← hvv, sizedL_length]⟩
  have HCX := Aside0.mk hC
  have HL := Aside0.mk hl
  have HIN := Aside0.mk hv
  have HG0 := Aside0.mk hG
  have HN := Aside0.mk hN
  have HV := Aside0.mk hvv
  have HLG : Aside0 ((logsL l).length = 20) := ⟨by rw [logsL_length, hl]⟩
  have hqc : 20 ≤ c0 := by omega
  clear hC hl hv hG hN hvv
  go_enter Tryd.func3, Tryd.ntmps3
  go_wp2_with (first
    | ((with_reducible refine gate_dst (N := 5) rfl ?_); refine box_event ?hg (N := 5) ?hd (cs := #[.int .i64 q0, .int .i64 q1]) (t := 23) ?hr ?_; (case hd => rfl); (case hg => first | rfl | exact wanted_on rfl rfl rfl (by first | assumption | rfl | (simp [*]; done))); (case hr => first | (go_simp; done) | (go_simp; rfl)); intro gb hgb wb hbox hb; subst hgb; have BK := Aside0.mk hbox; have HB := Aside0.mk hb; have HG := Aside0.mk (HG0.out.below hb); have ST0 : True := trivial; clear hbox hb)
    | (go_at_call 14; clear ST0; (with_reducible refine (awake_d (w0 := w) _ (by repeat (first | exact HB.out | apply below_alloc | apply pw_below_drewN | apply below_drew1)) HG.out).mono ?_); rintro e wk0 ⟨rfl, HBm, Sm⟩; have BKn := Aside0.mk (blk_below BK.out Sm.out); clear BK; have BK := BKn; clear BKn; have q0c := blk_cell BK.out 0; have q1c := blk_cell BK.out 1; have HBn := HBm; clear HB; have HB := HBn; clear HBn HBm; have HGn := Aside0.mk (HG0.out.below HB.out); clear HG; have HG := HGn; clear HGn; clear Sm; have ST1 : True := trivial)
    | (go_at_call 15; clear ST1; (with_reducible refine (sized_d (w0 := w) A0 20 c0 N l v sz _ (by repeat (first | exact HB.out | apply below_alloc | apply pw_below_drewN | apply below_drew1)) HL.out (Kd.C_below HCX.out (by repeat (first | exact HB.out | apply below_alloc | apply pw_below_drewN | apply below_drew1))) hqc (by omega) HN.out HV.out).mono ?_); rintro e wk1 ⟨AV, cV, rfl, lV, CV, HBm, Sm⟩; have BKn := Aside0.mk (blk_below BK.out Sm.out); clear BK q0c q1c; have BK := BKn; clear BKn; have q0c := blk_cell BK.out 0; have q1c := blk_cell BK.out 1; have HBn := HBm; clear HB; have HB := HBn; clear HBn HBm; have HGn := Aside0.mk (HG0.out.below HB.out); clear HG; have HG := HGn; clear HGn; clear Sm; have ST2 : True := trivial)
    | (go_at_call 17; clear ST2; (with_reducible refine (logs_d (w0 := w) A0 20 c0 l _ (by repeat (first | exact HB.out | apply below_alloc | apply pw_below_drewN | apply below_drew1)) HL.out (Kd.C_below HCX.out (by repeat (first | exact HB.out | apply below_alloc | apply pw_below_drewN | apply below_drew1))) hqc (by omega) HIN.out).mono ?_); rintro e wk2 ⟨AG, cG, rfl, lG, CG, HBm, Sm⟩; have BKn := Aside0.mk (blk_below BK.out Sm.out); clear BK q0c q1c; have BK := BKn; clear BKn; have q0c := blk_cell BK.out 0; have q1c := blk_cell BK.out 1; have HBn := HBm; clear HB; have HB := HBn; clear HBn HBm; have Cn := Aside0.mk (Kd.C_below (d := Kd.int .i64) (A := AV) (n := N) (xs := v) (by repeat (first | exact CV.out | refine Kd.C_alloc ?_ _ | refine Kd.C_drewN ?_ _ | refine Kd.C_drew ?_)) Sm.out); clear CV; have CV := Cn; clear Cn; have HGn := Aside0.mk (HG0.out.below HB.out); clear HG; have HG := HGn; clear HGn; clear Sm; have ST3 : True := trivial)
    | (go_at_call 18; clear ST3; (with_reducible refine (rlogs_d (w0 := w) A0 20 c0 l _ (by repeat (first | exact HB.out | apply below_alloc | apply pw_below_drewN | apply below_drew1)) HL.out (Kd.C_below HCX.out (by repeat (first | exact HB.out | apply below_alloc | apply pw_below_drewN | apply below_drew1))) hqc (by omega) HIN.out).mono ?_); rintro e wk3 ⟨AR, cR, rfl, lR, CR, HBm, Sm⟩; have BKn := Aside0.mk (blk_below BK.out Sm.out); clear BK q0c q1c; have BK := BKn; clear BKn; have q0c := blk_cell BK.out 0; have q1c := blk_cell BK.out 1; have HBn := HBm; clear HB; have HB := HBn; clear HBn HBm; have Cn := Aside0.mk (Kd.C_below (d := Kd.int .i64) (A := AV) (n := N) (xs := v) (by repeat (first | exact CV.out | refine Kd.C_alloc ?_ _ | refine Kd.C_drewN ?_ _ | refine Kd.C_drew ?_)) Sm.out); clear CV; have CV := Cn; clear Cn; have Cn := Aside0.mk (Kd.C_below (d := Kd.int .i64) (A := AG) (n := 20) (xs := (logsL l)) (by repeat (first | exact CG.out | refine Kd.C_alloc ?_ _ | refine Kd.C_drewN ?_ _ | refine Kd.C_drew ?_)) Sm.out); clear CG; have CG := Cn; clear Cn; have HGn := Aside0.mk (HG0.out.below HB.out); clear HG; have HG := HGn; clear HGn; clear Sm; have ST4 : True := trivial)
    | (go_at_call 16; clear ST4; (with_reducible refine (same_c (w0 := w) AG 20 cG AR cR _ _ _ (by repeat (first | exact HB.out | apply below_alloc | apply pw_below_drewN | apply below_drew1)) HLG.out rfl (by repeat (first | exact CG.out | refine Kd.C_alloc ?_ _ | refine Kd.C_drewN ?_ _ | refine Kd.C_drew ?_)) (by repeat (first | exact CR.out | refine Kd.C_alloc ?_ _ | refine Kd.C_drewN ?_ _ | refine Kd.C_drew ?_)) lG lR (by omega)).mono ?_); rintro e wk4 ⟨rfl, HBm, Sm⟩; have BKn := Aside0.mk (blk_below BK.out Sm.out); clear BK q0c q1c; have BK := BKn; clear BKn; have q0c := blk_cell BK.out 0; have q1c := blk_cell BK.out 1; have HBn := HBm; clear HB; have HB := HBn; clear HBn HBm; have Cn := Aside0.mk (Kd.C_below (d := Kd.int .i64) (A := AV) (n := N) (xs := v) (by repeat (first | exact CV.out | refine Kd.C_alloc ?_ _ | refine Kd.C_drewN ?_ _ | refine Kd.C_drew ?_)) Sm.out); clear CV; have CV := Cn; clear Cn; have HGn := Aside0.mk (HG0.out.below HB.out); clear HG; have HG := HGn; clear HGn; clear CG; clear CR; clear Sm; have ST5 : True := trivial)
    | (go_at_call 19; clear ST5; (with_reducible refine (tells_d (w0 := w) A0 20 c0 l _ _ _ (by repeat (first | exact HB.out | apply below_alloc | apply pw_below_drewN | apply below_drew1)) (by repeat (first | exact HG.out | apply GlobA.drewN)) HL.out (Kd.C_below HCX.out (by repeat (first | exact HB.out | apply below_alloc | apply pw_below_drewN | apply below_drew1))) hqc (by omega)).mono ?_); rintro e wk5 ⟨rfl, HBm, Sm⟩; have BKn := Aside0.mk (blk_below BK.out Sm.out); clear BK q0c q1c; have BK := BKn; clear BKn; have q0c := blk_cell BK.out 0; have q1c := blk_cell BK.out 1; have HBn := HBm; clear HB; have HB := HBn; clear HBn HBm; have Cn := Aside0.mk (Kd.C_below (d := Kd.int .i64) (A := AV) (n := N) (xs := v) (by repeat (first | exact CV.out | refine Kd.C_alloc ?_ _ | refine Kd.C_drewN ?_ _ | refine Kd.C_drew ?_)) Sm.out); clear CV; have CV := Cn; clear Cn; have HGn := Aside0.mk (HG0.out.below HB.out); clear HG; have HG := HGn; clear HGn; clear Sm; have ST6 : True := trivial)
    | (go_at_call 19; clear ST6; (with_reducible refine (tells_d (w0 := w) AV N cV v _ _ _ (by repeat (first | exact HB.out | apply below_alloc | apply pw_below_drewN | apply below_drew1)) (by repeat (first | exact HG.out | apply GlobA.drewN)) HLV.out (by repeat (first | exact CV.out | refine Kd.C_alloc ?_ _ | refine Kd.C_drewN ?_ _ | refine Kd.C_drew ?_)) lV (by omega)).mono ?_); rintro e wk6 ⟨rfl, HBm, Sm⟩; have BKn := Aside0.mk (blk_below BK.out Sm.out); clear BK q0c q1c; have BK := BKn; clear BKn; have q0c := blk_cell BK.out 0; have q1c := blk_cell BK.out 1; have HBn := HBm; clear HB; have HB := HBn; clear HBn HBm; have Cn := Aside0.mk (Kd.C_below (d := Kd.int .i64) (A := AV) (n := N) (xs := v) (by repeat (first | exact CV.out | refine Kd.C_alloc ?_ _ | refine Kd.C_drewN ?_ _ | refine Kd.C_drew ?_)) Sm.out); clear CV; have CV := Cn; clear Cn; have HGn := Aside0.mk (HG0.out.below HB.out); clear HG; have HG := HGn; clear HGn; clear Sm; have ST7 : True := trivial)
    | (go_at_call 19; clear ST7; (with_reducible refine (tells_d (w0 := w) AV N cV v _ _ _ (by repeat (first | exact HB.out | apply below_alloc | apply pw_below_drewN | apply below_drew1)) (by repeat (first | exact HG.out | apply GlobA.drewN)) HLV.out (by repeat (first | exact CV.out | refine Kd.C_alloc ?_ _ | refine Kd.C_drewN ?_ _ | refine Kd.C_drew ?_)) lV (by omega)).mono ?_); rintro e wk7 ⟨rfl, HBm, Sm⟩; have BKn := Aside0.mk (blk_below BK.out Sm.out); clear BK q0c q1c; have BK := BKn; clear BKn; have q0c := blk_cell BK.out 0; have q1c := blk_cell BK.out 1; have HBn := HBm; clear HB; have HB := HBn; clear HBn HBm; have Cn := Aside0.mk (Kd.C_below (d := Kd.int .i64) (A := AV) (n := N) (xs := v) (by repeat (first | exact CV.out | refine Kd.C_alloc ?_ _ | refine Kd.C_drewN ?_ _ | refine Kd.C_drew ?_)) Sm.out); clear CV; have CV := Cn; clear Cn; have HGn := Aside0.mk (HG0.out.below HB.out); clear HG; have HG := HGn; clear HGn; clear Sm; have ST8 : True := trivial))
  go_ret
  exact ⟨rfl, HB.out⟩
set_option maxHeartbeats 32000000 in
set_option maxRecDepth 100000 in
theorem tells_go2 (A0 : Option Addr) (n c0 : Nat) (l : List Int) (sz q0 q1 : Int) (w : World) (hG : GlobA w) (hl : l.length = n) (hC : (Kd.int .i64).C w A0 n l) (hnc : n ≤ c0) (hn : n ≤ 20) (hv : In64 l) (hm : n ≤ 4000000000000000000) :
    Calls Tryd.prog 3 #[.slice A0 n c0, .int .i64 sz, .agg #[.int .i64 q0, .int .i64 q1]] w fun e w' => e = .returned (.bool true) ∧ Below w.heap.size w w' := by
  have hN16 := sizeOf_le sz
  obtain ⟨N, hN⟩ : ∃ N, sizeOf_ sz = N := ⟨_, rfl⟩
  rw [hN] at hN16
  obtain ⟨v, hvv⟩ : ∃ v, sizedL N l = v := ⟨_, rfl⟩
  have HLV : Aside0 (v.length = N) := ⟨by rw [← hvv, sizedL_length]⟩
  have HCX := Aside0.mk hC
  have HL := Aside0.mk hl
  have HIN := Aside0.mk hv
  have HG0 := Aside0.mk hG
  have HN := Aside0.mk hN
  have HV := Aside0.mk hvv
  have HLG : Aside0 ((logsL l).length = n) := ⟨by rw [logsL_length, hl]⟩
  have hqc : n ≤ c0 := by omega
  clear hC hl hv hG hN hvv
  go_enter Tryd.func3, Tryd.ntmps3
  go_wp2_with (first
    | ((with_reducible refine gate_dst (N := 5) rfl ?_); refine box_event ?hg (N := 5) ?hd (cs := #[.int .i64 q0, .int .i64 q1]) (t := 23) ?hr ?_; (case hd => rfl); (case hg => first | rfl | exact wanted_on rfl rfl rfl (by first | assumption | rfl | (simp [*]; done))); (case hr => first | (go_simp; done) | (go_simp; rfl)); intro gb hgb wb hbox hb; subst hgb; have BK := Aside0.mk hbox; have HB := Aside0.mk hb; have HG := Aside0.mk (HG0.out.below hb); have ST0 : True := trivial; clear hbox hb)
    | (go_at_call 14; clear ST0; (with_reducible refine (awake_d (w0 := w) _ (by repeat (first | exact HB.out | apply below_alloc | apply pw_below_drewN | apply below_drew1)) HG.out).mono ?_); rintro e wk0 ⟨rfl, HBm, Sm⟩; have BKn := Aside0.mk (blk_below BK.out Sm.out); clear BK; have BK := BKn; clear BKn; have q0c := blk_cell BK.out 0; have q1c := blk_cell BK.out 1; have HBn := HBm; clear HB; have HB := HBn; clear HBn HBm; have HGn := Aside0.mk (HG0.out.below HB.out); clear HG; have HG := HGn; clear HGn; clear Sm; have ST1 : True := trivial)
    | (go_at_call 15; clear ST1; (with_reducible refine (sized_d (w0 := w) A0 n c0 N l v sz _ (by repeat (first | exact HB.out | apply below_alloc | apply pw_below_drewN | apply below_drew1)) HL.out (Kd.C_below HCX.out (by repeat (first | exact HB.out | apply below_alloc | apply pw_below_drewN | apply below_drew1))) hqc (by omega) HN.out HV.out).mono ?_); rintro e wk1 ⟨AV, cV, rfl, lV, CV, HBm, Sm⟩; have BKn := Aside0.mk (blk_below BK.out Sm.out); clear BK q0c q1c; have BK := BKn; clear BKn; have q0c := blk_cell BK.out 0; have q1c := blk_cell BK.out 1; have HBn := HBm; clear HB; have HB := HBn; clear HBn HBm; have HGn := Aside0.mk (HG0.out.below HB.out); clear HG; have HG := HGn; clear HGn; clear Sm; have ST2 : True := trivial)
    | (go_at_call 17; clear ST2; (with_reducible refine (logs_d (w0 := w) A0 n c0 l _ (by repeat (first | exact HB.out | apply below_alloc | apply pw_below_drewN | apply below_drew1)) HL.out (Kd.C_below HCX.out (by repeat (first | exact HB.out | apply below_alloc | apply pw_below_drewN | apply below_drew1))) hqc (by omega) HIN.out).mono ?_); rintro e wk2 ⟨AG, cG, rfl, lG, CG, HBm, Sm⟩; have BKn := Aside0.mk (blk_below BK.out Sm.out); clear BK q0c q1c; have BK := BKn; clear BKn; have q0c := blk_cell BK.out 0; have q1c := blk_cell BK.out 1; have HBn := HBm; clear HB; have HB := HBn; clear HBn HBm; have Cn := Aside0.mk (Kd.C_below (d := Kd.int .i64) (A := AV) (n := N) (xs := v) (by repeat (first | exact CV.out | refine Kd.C_alloc ?_ _ | refine Kd.C_drewN ?_ _ | refine Kd.C_drew ?_)) Sm.out); clear CV; have CV := Cn; clear Cn; have HGn := Aside0.mk (HG0.out.below HB.out); clear HG; have HG := HGn; clear HGn; clear Sm; have ST3 : True := trivial)
    | (go_at_call 18; clear ST3; (with_reducible refine (rlogs_d (w0 := w) A0 n c0 l _ (by repeat (first | exact HB.out | apply below_alloc | apply pw_below_drewN | apply below_drew1)) HL.out (Kd.C_below HCX.out (by repeat (first | exact HB.out | apply below_alloc | apply pw_below_drewN | apply below_drew1))) hqc (by omega) HIN.out).mono ?_); rintro e wk3 ⟨AR, cR, rfl, lR, CR, HBm, Sm⟩; have BKn := Aside0.mk (blk_below BK.out Sm.out); clear BK q0c q1c; have BK := BKn; clear BKn; have q0c := blk_cell BK.out 0; have q1c := blk_cell BK.out 1; have HBn := HBm; clear HB; have HB := HBn; clear HBn HBm; have Cn := Aside0.mk (Kd.C_below (d := Kd.int .i64) (A := AV) (n := N) (xs := v) (by repeat (first | exact CV.out | refine Kd.C_alloc ?_ _ | refine Kd.C_drewN ?_ _ | refine Kd.C_drew ?_)) Sm.out); clear CV; have CV := Cn; clear Cn; have Cn := Aside0.mk (Kd.C_below (d := Kd.int .i64) (A := AG) (n := n) (xs := (logsL l)) (by repeat (first | exact CG.out | refine Kd.C_alloc ?_ _ | refine Kd.C_drewN ?_ _ | refine Kd.C_drew ?_)) Sm.out); clear CG; have CG := Cn; clear Cn; have HGn := Aside0.mk (HG0.out.below HB.out); clear HG; have HG := HGn; clear HGn; clear Sm; have ST4 : True := trivial)
    | (go_at_call 16; clear ST4; (with_reducible refine (same_c (w0 := w) AG n cG AR cR _ _ _ (by repeat (first | exact HB.out | apply below_alloc | apply pw_below_drewN | apply below_drew1)) HLG.out rfl (by repeat (first | exact CG.out | refine Kd.C_alloc ?_ _ | refine Kd.C_drewN ?_ _ | refine Kd.C_drew ?_)) (by repeat (first | exact CR.out | refine Kd.C_alloc ?_ _ | refine Kd.C_drewN ?_ _ | refine Kd.C_drew ?_)) lG lR (by omega)).mono ?_); rintro e wk4 ⟨rfl, HBm, Sm⟩; have BKn := Aside0.mk (blk_below BK.out Sm.out); clear BK q0c q1c; have BK := BKn; clear BKn; have q0c := blk_cell BK.out 0; have q1c := blk_cell BK.out 1; have HBn := HBm; clear HB; have HB := HBn; clear HBn HBm; have Cn := Aside0.mk (Kd.C_below (d := Kd.int .i64) (A := AV) (n := N) (xs := v) (by repeat (first | exact CV.out | refine Kd.C_alloc ?_ _ | refine Kd.C_drewN ?_ _ | refine Kd.C_drew ?_)) Sm.out); clear CV; have CV := Cn; clear Cn; have HGn := Aside0.mk (HG0.out.below HB.out); clear HG; have HG := HGn; clear HGn; clear CG; clear CR; clear Sm; have ST5 : True := trivial)
    | (go_at_call 19; clear ST5; (with_reducible refine (tells_d (w0 := w) A0 n c0 l _ _ _ (by repeat (first | exact HB.out | apply below_alloc | apply pw_below_drewN | apply below_drew1)) (by repeat (first | exact HG.out | apply GlobA.drewN)) HL.out (Kd.C_below HCX.out (by repeat (first | exact HB.out | apply below_alloc | apply pw_below_drewN | apply below_drew1))) hqc (by omega)).mono ?_); rintro e wk5 ⟨rfl, HBm, Sm⟩; have BKn := Aside0.mk (blk_below BK.out Sm.out); clear BK q0c q1c; have BK := BKn; clear BKn; have q0c := blk_cell BK.out 0; have q1c := blk_cell BK.out 1; have HBn := HBm; clear HB; have HB := HBn; clear HBn HBm; have Cn := Aside0.mk (Kd.C_below (d := Kd.int .i64) (A := AV) (n := N) (xs := v) (by repeat (first | exact CV.out | refine Kd.C_alloc ?_ _ | refine Kd.C_drewN ?_ _ | refine Kd.C_drew ?_)) Sm.out); clear CV; have CV := Cn; clear Cn; have HGn := Aside0.mk (HG0.out.below HB.out); clear HG; have HG := HGn; clear HGn; clear Sm; have ST6 : True := trivial)
    | (go_at_call 19; clear ST6; (with_reducible refine (tells_d (w0 := w) AV N cV v _ _ _ (by repeat (first | exact HB.out | apply below_alloc | apply pw_below_drewN | apply below_drew1)) (by repeat (first | exact HG.out | apply GlobA.drewN)) HLV.out (by repeat (first | exact CV.out | refine Kd.C_alloc ?_ _ | refine Kd.C_drewN ?_ _ | refine Kd.C_drew ?_)) lV (by omega)).mono ?_); rintro e wk6 ⟨rfl, HBm, Sm⟩; have BKn := Aside0.mk (blk_below BK.out Sm.out); clear BK q0c q1c; have BK := BKn; clear BKn; have q0c := blk_cell BK.out 0; have q1c := blk_cell BK.out 1; have HBn := HBm; clear HB; have HB := HBn; clear HBn HBm; have Cn := Aside0.mk (Kd.C_below (d := Kd.int .i64) (A := AV) (n := N) (xs := v) (by repeat (first | exact CV.out | refine Kd.C_alloc ?_ _ | refine Kd.C_drewN ?_ _ | refine Kd.C_drew ?_)) Sm.out); clear CV; have CV := Cn; clear Cn; have HGn := Aside0.mk (HG0.out.below HB.out); clear HG; have HG := HGn; clear HGn; clear Sm; have ST7 : True := trivial)
    | (go_at_call 19; clear ST7; (with_reducible refine (tells_d (w0 := w) AV N cV v _ _ _ (by repeat (first | exact HB.out | apply below_alloc | apply pw_below_drewN | apply below_drew1)) (by repeat (first | exact HG.out | apply GlobA.drewN)) HLV.out (by repeat (first | exact CV.out | refine Kd.C_alloc ?_ _ | refine Kd.C_drewN ?_ _ | refine Kd.C_drew ?_)) lV (by omega)).mono ?_); rintro e wk7 ⟨rfl, HBm, Sm⟩; have BKn := Aside0.mk (blk_below BK.out Sm.out); clear BK q0c q1c; have BK := BKn; clear BKn; have q0c := blk_cell BK.out 0; have q1c := blk_cell BK.out 1; have HBn := HBm; clear HB; have HB := HBn; clear HBn HBm; have Cn := Aside0.mk (Kd.C_below (d := Kd.int .i64) (A := AV) (n := N) (xs := v) (by repeat (first | exact CV.out | refine Kd.C_alloc ?_ _ | refine Kd.C_drewN ?_ _ | refine Kd.C_drew ?_)) Sm.out); clear CV; have CV := Cn; clear Cn; have HGn := Aside0.mk (HG0.out.below HB.out); clear HG; have HG := HGn; clear HGn; clear Sm; have ST8 : True := trivial))
  go_ret
  exact ⟨rfl, HB.out⟩
theorem earshotlaw12_DctTells.calls (A0 : Option Addr) (c0 : Nat) (l0 : List Int) (a1 a2_0 a2_1 : Int) (r : Bool) (w : World) (hG : GlobA w) (hr0 : Kd.C (Kd.int .i64) w A0 l0.length l0) (hc0 : l0.length ≤ c0) (h : earshotlaw12_DctTells.f l0 a1 a2_0 a2_1 = some r) :
    Calls Tryd.prog 3 #[.slice A0 l0.length c0, .int .i64 a1, .agg #[.int .i64 a2_0, .int .i64 a2_1]] w fun e w' => e = .returned (.bool r) ∧ Below w.heap.size w w' := by
  unfold earshotlaw12_DctTells.f at h
  split at h
  case isFalse => cases h
  rename_i hz
  obtain rfl := Option.some.inj h
  simp only [Bool.and_eq_true, decide_eq_true_eq, List.all_eq_true] at hz
  by_cases hl : 20 < l0.length
  · have hT := Kd.C_take hr0 (m := 20) (by omega)
    have e : (l0.take 20).length = 20 := by rw [List.length_take]; omega
    rw [e] at hT
    exact tells_go1 A0 l0.length c0 _ a1 a2_0 a2_1 w hG e hT hc0 hl (fun x hx => hz.2 x (List.mem_of_mem_take hx)) hz.1
  · exact tells_go2 A0 l0.length c0 l0 a1 a2_0 a2_1 w hG rfl hr0 hc0 (by omega) (fun x hx => hz.2 x hx) hz.1

/-- THE ONE PURE STATEMENT of earshotlaw12_DctTells: yours. -/
def earshotlaw12_DctTells.Pure : Prop := ∀ (l0 : List Int) (a1 : Int) (a2_0 : Int) (a2_1 : Int), l0.length ≤ maxLen → l0.length * 8 ≤ 140737488351232 → (∀ x ∈ l0, (Lit.int .i64 x).wf = true) → (Lit.int .i64 a1).wf = true → (Lit.int .i64 a2_0).wf = true → (Lit.int .i64 a2_1).wf = true → earshotlaw12_DctTells.f l0 a1 a2_0 a2_1 = some true
theorem earshotlaw12_DctTells.walk (P : earshotlaw12_DctTells.Pure) (a0 : Option Addr) (len0 cap0 : Nat) (z0 : List Int) (a1 : Int) (a2_0 : Int) (a2_1 : Int) (w : World) (w0 : (a0 = none ∧ len0 = 0 ∧ cap0 = 0 ∧ z0 = []) ∨ ∃ x, a0 = some x ∧ len0 ≤ cap0 ∧ cap0 ≤ maxLen ∧ z0.length = cap0 ∧ (∀ i, i < z0.length → w.cell? (x.add i) = some (.int .i64 (z0.getD i 0))) ∧ ∀ n ∈ z0, (Lit.int .i64 n).wf = true) (y0 : len0 * 8 ≤ 140737488351232) (w1 : (Lit.int .i64 a1).wf = true) (w2_0 : (Lit.int .i64 a2_0).wf = true) (w2_1 : (Lit.int .i64 a2_1).wf = true) (hG : GlobA w) :
    Calls Tryd.prog 3 #[.slice a0 len0 cap0, .int .i64 a1, .agg #[.int .i64 a2_0, .int .i64 a2_1]] w fun e w' => e = .returned (.bool true) ∧ Below w.heap.size w w' := by
  obtain ⟨l0, rfl, hr0, hm0, hw0, hc0⟩ := ReadsInt.ofRowC w0
  have h := P l0 a1 a2_0 a2_1 hm0 y0 hw0 w1 w2_0 w2_1
  refine (earshotlaw12_DctTells.calls _ _ l0 a1 a2_0 a2_1 true w hG (Kd.C_of_reads (d := (0 : Int)) (h1 := fun _ => rfl) hr0) hc0 h).mono ?_
  rintro e w' ⟨rfl, hd⟩
  exact ⟨rfl, hd⟩

end Go.Proofs.YtmhacdnnnebpdaaDoor.PDctTells
