-- Written by a program of this work (wip/tools) for this claim; Lean checks it.
import Derived.Test.YtphmfecabbellaaDoorPFftBlockx0
import Derived.Test.YtphmfecabbellaaDoorPFftBlockx1
import Derived.Test.YtphmfecabbellaaDoorPFftBlockx2
import Derived.Test.YtphmfecabbellaaDoorPFftBlockx3
import Derived.Test.YtphmfecabbellaaDoorPFftBlockx4
import Derived.Test.YtphmfecabbellaaDoorPFftBlockx5
namespace Go.Proofs.YtphmfecabbellaaDoor.PFftBlock
open Go.RowKit Go.Proofs.YtphmfecabbellaaDoorW.PrintWords Go.Proofs.YtphmfecabbellaaDoorW.PrintLast Go.Proofs.YtphmfecabbellaaDoorW.PrintMore
attribute [local go_sem] max2_int min2_int max_two min_two max_three min_three max_four min_four   -- for this text's walks alone
set_option linter.unusedVariables false
set_option linter.unusedSimpArgs false

/-! ### earshotlaw10_FftBlock: function 11 -/
-- PURE intro l0 a k _ h8 hw ha hk; unfold earshotlaw10_FftBlock.f; rw [if_pos]; simp only [Bool.and_eq_true, decide_eq_true_eq, List.all_eq_true]; exact ⟨by omega, fun x hx => wf_i64 (hw x hx)⟩
/-- A call's result is a row that reads as xs; the world is as it was, but for what is new. -/
def CRes (w0 W : World) (h : Nat) (xs : List Int) (e : Ending) (w' : World) : Prop :=
  ∃ A c, e = .returned (.slice A h c) ∧ h ≤ c ∧ Aside0 ((Kd.int .i64).C w' A h xs) ∧ Aside0 (Below w0.heap.size w0 w') ∧ Aside0 (Below W.heap.size W w')
theorem cres_of {w0 W w' : World} {h : Nat} {xs : List Int} {v : Value} {t b : Nat} {ok : Nat → Prop} (hB : Below w0.heap.size w0 W) (hR : (Kd.int .i64).R t w' b ok v xs) (hl : xs.length = h) (hb : Below W.heap.size W w') : CRes w0 W h xs (.returned v) w' := by
  subst hl
  obtain ⟨A, c, rfl, h1, h2⟩ := Kd.R_reads hR
  exact ⟨A, c, rfl, h1, ⟨h2⟩, ⟨below_step hB hb⟩, ⟨hb⟩⟩
theorem same_go (l : List Int) (hl : l.length ≤ 100000000) (d : Nat) : ∀ (k i : Nat), i ≤ l.length → l.length - i = d → d < k → earshotref04_Same.l0 k l l (i : Int) = some true := by
  induction d with
  | zero =>
    intro k i h0 hd hk
    obtain ⟨k, rfl⟩ : ∃ m, k = m + 1 := ⟨k - 1, by omega⟩
    simp only [earshotref04_Same.l0]
    rw [if_neg (by omega)]
  | succ d ih =>
    intro k i h0 hd hk
    obtain ⟨k, rfl⟩ : ∃ m, k = m + 1 := ⟨k - 1, by omega⟩
    simp only [earshotref04_Same.l0]
    have hw : wrap64 ((i : Int) + 1) = ((i + 1 : Nat) : Int) := by unfold wrap64; omega
    rw [if_pos (by omega), if_pos (by omega), if_pos (by omega), if_pos trivial, hw]
    exact ih k (i + 1) (by omega) (by omega) (by omega)
theorem same_f (l : List Int) (hl : l.length ≤ 100000000) : earshotref04_Same.f (l.length + 1) l l = some true := by
  unfold earshotref04_Same.f
  rw [if_pos rfl]
  exact same_go l hl l.length _ 0 (by omega) (by omega) (by omega)
/-- Two rows that read the same. -/
theorem same_c {w0 : World} (A1 : Option Addr) (h c1 : Nat) (A2 : Option Addr) (c2 : Nat) (l1 l2 : List Int) (W : World) (hB : Below w0.heap.size w0 W) (hl : l1.length = h) (he : l1 = l2) (hC1 : (Kd.int .i64).C W A1 h l1) (hC2 : (Kd.int .i64).C W A2 h l2) (h1 : h ≤ c1) (h2 : h ≤ c2) (hh : h ≤ 1000000) :
    Calls Tryd.prog 19 #[.slice A1 h c1, .slice A2 h c2] W fun e w' => e = .returned (.bool true) ∧ Aside0 (Below w0.heap.size w0 w') ∧ Aside0 (Below W.heap.size W w') := by
  subst he
  subst hl
  exact (earshotref04_Same.calls _ A1 c1 l1 A2 c2 l1 true W hC1 h1 hC2 h2 (same_f l1 (by omega))).mono fun e w' ⟨a, ⟨n, b⟩⟩ => by
    subst b
    exact ⟨a, ⟨pw_below_drewN hB n⟩, ⟨pw_below_drewN (Below.refl _ _) n⟩⟩
theorem zeros_c (X : World) (g n : Nat) (hg : g = X.heap.size) (hn : n ≤ 1000000) : (Kd.int .i64).C (X.alloc (.cells (madeCells #[.int .i64 0] n) 3)) (some ⟨g, 0, none⟩) n (List.replicate n 0) := by
  subst hg
  have h := own_made X X.heap.size 3 .i64 n (Nat.le_refl _) (by omega)
  have hR := Kd.R_of_own (enc := Value.int .i64) (h1 := fun _ => rfl) (ok := fun _ => True) (xs := List.replicate n 0) (by rw [List.length_replicate]; exact h) (fun _ _ => trivial)
  obtain ⟨A, c, he, _, h2⟩ := Kd.R_reads hR
  rw [List.length_replicate] at he h2
  injection he with e1 e2 e3
  rw [e1]
  exact h2
/-- A callee that draws only, in a region that is walked once, in a world that has drawn before. -/
theorem quiet_add {P : Program} {f : FuncId} {args : Array Value} {W : World} {K x : Nat} {v : Value} (h : Calls P f args (W.drewN (K + x)) fun e w' => e = .returned v ∧ Drawn0 (W.drewN (K + x)) w') :
    Calls P f args (W.drewN (K + x)) fun e w'' => e = .returned v ∧ ∃ n, w'' = W.drewN (K + n) :=
  h.mono fun _ _ ⟨he, ⟨m, hm⟩⟩ => ⟨he, x + m, by rw [hm, World.drewN_drewN, Nat.add_assoc]⟩
/-- .. likewise, in a world that is named by one count. -/
theorem quiet_d {P : Program} {f : FuncId} {args : Array Value} {W : World} {x : Nat} {v : Value} (h : Calls P f args (W.drewN x) fun e w' => e = .returned v ∧ Drawn0 (W.drewN x) w') :
    Calls P f args (W.drewN x) fun e w'' => e = .returned v ∧ ∃ n, w'' = W.drewN n :=
  h.mono fun _ _ ⟨he, ⟨m, hm⟩⟩ => ⟨he, x + m, by rw [hm, World.drewN_drewN]⟩

theorem sizeOf_may (a : Int) : fftMay (sizeOf_ a) = true := by
  have m0 := Int.emod_nonneg a (show (6 : Int) ≠ 0 by decide)
  have m1 := Int.emod_lt_of_pos a (show (0 : Int) < 6 by decide)
  have h : a % 6 = 0 ∨ a % 6 = 1 ∨ a % 6 = 2 ∨ a % 6 = 3 ∨ a % 6 = 4 ∨ a % 6 = 5 := by omega
  unfold sizeOf_
  rcases h with h | h | h | h | h | h <;> rw [h] <;> decide
theorem sizedL_in {n : Nat} {l : List Int} (h : In64 l) : In64 (sizedL n l) := by
  intro x hx
  simp only [sizedL, List.mem_map] at hx
  obtain ⟨i, _, rfl⟩ := hx
  rw [← h.getD]
  exact ⟨W_lo _, W_hi _⟩
theorem sized_c (A0 : Option Addr) (m c0 N : Nat) (l0 v : List Int) (a : Int) (W : World) (hl : l0.length = m) (hC : (Kd.int .i64).C W A0 m l0) (hmc : m ≤ c0) (hm : m ≤ 4000000000000000000) (hN : sizeOf_ a = N) (hv : sizedL N l0 = v) :
    Calls Tryd.prog 25 #[.slice A0 m c0, .int .i64 a] W fun e w' => ∃ A c, e = .returned (.slice A N c) ∧ N ≤ c ∧ Aside0 ((Kd.int .i64).C w' A N v) ∧ Aside0 (Below W.heap.size W w') := by
  subst hl
  refine (earshotlaw10_sized.calls A0 c0 l0 a _ W hC hmc (by unfold earshotlaw10_sized.f; rw [if_pos (by simpa using hm)])).mono ?_
  rintro e w' ⟨v0, rfl, hR, hB⟩
  obtain ⟨A, c, rfl, h1, h2⟩ := Kd.R_reads hR
  rw [hN, hv] at h1 h2 ⊢
  have hvl : v.length = N := by rw [← hv, sizedL_length]
  rw [hvl] at h1 h2 ⊢
  exact ⟨A, c, rfl, h1, ⟨h2⟩, ⟨hB⟩⟩
theorem i64_mask (i : Nat) (hi : i ≤ 62) (n m : Int) (hm : m = ((2 ^ i - 1 : Nat) : Int)) : Go.bits .and .i64 n m = n % ((2 ^ i : Nat) : Int) := by
  have hp : 0 < 2 ^ i := Nat.two_pow_pos i
  have hle : 2 ^ i ≤ 4611686018427387904 := Nat.pow_le_pow_right (n := 2) (by decide) hi
  have h1 : (BitVec.ofInt 64 m).toNat = 2 ^ i - 1 := by
    subst hm
    rw [BitVec.ofInt_natCast, BitVec.toNat_ofNat]
    exact Nat.mod_eq_of_lt (by omega)
  have key : (BitVec.ofInt 64 n &&& BitVec.ofInt 64 m).toNat = (n % ((2 ^ 64 : Nat) : Int)).toNat % 2 ^ i := by
    rw [BitVec.toNat_and, BitVec.toNat_ofInt, h1, Nat.and_two_pow_sub_one_eq_mod]
  show IntKind.i64.wrap ((BitVec.ofInt 64 n &&& BitVec.ofInt 64 m).toNat : Nat) = n % _
  rw [key, IntKind.wrap_i64]
  have r0 : 0 ≤ n % ((2 ^ 64 : Nat) : Int) := Int.emod_nonneg _ (by decide)
  have e : (((n % ((2 ^ 64 : Nat) : Int)).toNat % 2 ^ i : Nat) : Int) = n % ((2 ^ i : Nat) : Int) := by
    rw [Int.natCast_emod, Int.toNat_of_nonneg r0]
    refine Int.emod_emod_of_dvd _ ?_
    exact Int.natCast_dvd_natCast.2 (Nat.pow_dvd_pow 2 (by omega))
  rw [e]
  generalize hz : n % ((2 ^ i : Nat) : Int) = z
  have m0 : 0 ≤ z := hz ▸ Int.emod_nonneg _ (by omega)
  have m1 : z < ((2 ^ i : Nat) : Int) := hz ▸ Int.emod_lt_of_pos _ (by omega)
  have hle' : ((2 ^ i : Nat) : Int) ≤ 4611686018427387904 := Int.ofNat_le.2 hle
  have m2 : z < 4611686018427387904 := Int.lt_of_lt_of_le m1 hle'
  clear m1 hle' hle hz e key h1
  omega

theorem mask_may (N : Nat) (hm : fftMay N = true) (a : Int) : ∃ t : Nat, t < N ∧ (t : Int) = a % (N : Int) ∧ Go.bits .and .i64 a ((N : Int) - 1) = (t : Int) := by
  have hN : 2 ≤ N := by rcases fftMay_cases hm with rfl | rfl | rfl | rfl | rfl | rfl <;> omega
  have m0 := Int.emod_nonneg a (show (N : Int) ≠ 0 by omega)
  have m1 := Int.emod_lt_of_pos a (show (0 : Int) < (N : Int) by omega)
  obtain ⟨t, ht⟩ := Int.eq_ofNat_of_zero_le m0
  refine ⟨t, by omega, ht.symm, ?_⟩
  rw [← ht]
  rcases fftMay_cases hm with rfl | rfl | rfl | rfl | rfl | rfl
  · exact i64_mask 1 (by decide) a 1 rfl
  · exact i64_mask 2 (by decide) a 3 rfl
  · exact i64_mask 3 (by decide) a 7 rfl
  · exact i64_mask 4 (by decide) a 15 rfl
  · exact i64_mask 5 (by decide) a 31 rfl
  · exact i64_mask 6 (by decide) a 63 rfl
theorem turn_x (A : Option Addr) (h c : Nat) (l : List Int) (k : Int) (W : World) (hl : l.length = h) (hC : (Kd.int .i64).C W A h l) (hh : h ≤ 1000000) (k0 : -9223372036854775808 ≤ k) (k1 : k ≤ 9223372036854775807) :
    Calls Tryd.prog 15 #[.slice A h c, .int .i64 k] W fun e w' => ∃ B d, e = .returned (.slice B h d) ∧ h ≤ d ∧ Aside0 ((Kd.int .i64).C w' B h (turnL l k)) ∧ Aside0 (Below W.heap.size W w') := by
  refine (turn_go A h c l k W hl hC hh k0 k1).mono ?_
  rintro e w' ⟨v, rfl, hR, hb⟩
  have hL : (turnL l k).length = h := by rw [turnL_length, hl]
  obtain ⟨B, d, rfl, h1, h2⟩ := Kd.R_reads hR
  rw [hL] at h1 h2 ⊢
  exact ⟨B, d, rfl, h1, ⟨h2⟩, ⟨hb⟩⟩
theorem add2_x (g : Nat) (A1 A2 : Option Addr) (h c1 c2 : Nat) (l1 l2 : List Int) (W : World) (hg : W.heap[g]? = some (.cells #[.slice A1 h c1, .slice A2 h c2] 22 (0, 0))) (hl1 : l1.length = h) (hl2 : l2.length = h) (hC1 : (Kd.int .i64).C W A1 h l1) (hC2 : (Kd.int .i64).C W A2 h l2) (h1 : h ≤ c1) (h2 : h ≤ c2) (hh : h ≤ 1000000) (hin : In64 l1) :
    Calls Tryd.prog 20 #[.slice (some ⟨g, 0, none⟩) 2 2] W fun e w' => ∃ B d, e = .returned (.slice B h d) ∧ h ≤ d ∧ Aside0 ((Kd.int .i64).C w' B h (addL l1 l2)) ∧ Aside0 (Below W.heap.size W w') := by
  refine (add2_r g A1 A2 h c1 c2 l1 l2 W hg hl1 hl2 hC1 hC2 h1 h2 hh hin).mono ?_
  rintro e w' ⟨v, rfl, hR, hb⟩
  have hL : (addL l1 l2).length = h := by rw [addL_length (by rw [hl1, hl2]), hl1]
  obtain ⟨B, d, rfl, h1, h2⟩ := Kd.R_reads hR
  rw [hL] at h1 h2 ⊢
  exact ⟨B, d, rfl, h1, ⟨h2⟩, ⟨hb⟩⟩

/-! ### The parts of spins -/
theorem S_turn (F : Int → Int) (h : Nat) (hF : ∀ p, wrap64 (F (p + h)) = wrap64 (F p)) : ∀ k : Nat, wrap64 (S h (fun j => F ((j : Int) + (k : Int)))) = wrap64 (S h (fun j => F (j : Int)))
  | 0 => by simp
  | k + 1 => by
    rw [← S_turn F h hF k]
    have e1 := S_front h (fun j => F ((j : Int) + (k : Int)))
    have e2 : S (h + 1) (fun j => F ((j : Int) + (k : Int))) = S h (fun j => F ((j : Int) + (k : Int))) + F ((h : Int) + k) := rfl
    have e3 : S h (fun i => F (((i + 1 : Nat) : Int) + (k : Int))) = S h (fun j => F ((j : Int) + ((k + 1 : Nat) : Int))) := S_congr (fun i _ => by congr 1; omega)
    have e4 := hF (k : Int)
    rw [show (k : Int) + h = (h : Int) + k by omega] at e4
    rw [← e3]
    have e5 : S h (fun i => F (((i + 1 : Nat) : Int) + (k : Int))) = S h (fun j => F ((j : Int) + (k : Int))) + F ((h : Int) + k) - F (k : Int) := by
      have : F ((0 : Nat) + (k : Int)) = F (k : Int) := by simp
      omega
    rw [e5, ← W_W_sub, ← W_add_W, e4, W_add_W, W_W_sub]
    congr 1; omega
theorem sp_sum_S (l : List Int) (T : Int → Int) (s : Nat) : ∀ n, sp_sum l T s n = wrap64 (S n (fun j => l.getD j 0 * T ((j : Int) * (s : Int))))
  | 0 => (W_in (a := 0) (by decide) (by decide)).symm
  | n + 1 => by rw [sp_sum, sp_sum_S l T s n, W_W_add, W_add_W]; rfl
theorem T_per {T : Int → Int} (hT : ∀ x, T (x + 32) = -T x) (x : Int) (k : Nat) : T (x + 64 * (k : Int)) = T x := by
  induction k with
  | zero => simp
  | succ k ih => rw [show x + 64 * ((k + 1 : Nat) : Int) = x + 64 * (k : Int) + 32 + 32 by omega, hT, hT, ih]; omega
theorem T_mod {T : Int → Int} (hT : ∀ x, T (x + 32) = -T x) {x y : Int} (h : x % 64 = y % 64) : T x = T y := by
  have key : ∀ z : Int, T z = T (z % 64) := fun z => by
    rcases Int.le_total 0 (z / 64) with h0 | h0
    · obtain ⟨k, hk⟩ := Int.eq_ofNat_of_zero_le h0
      have := T_per hT (z % 64) k
      rw [← this]; congr 1; omega
    · obtain ⟨k, hk⟩ := Int.eq_ofNat_of_zero_le (show 0 ≤ -(z / 64) by omega)
      have := T_per hT z k
      rw [← this]; congr 1; omega
  rw [key x, key y, h]
theorem may_s {h : Nat} (hm : sp_may h = true) : 0 < h ∧ (h : Int) * ((32 / h : Nat) : Int) = 32 ∧ h ≤ 32 := by
  rcases sp_may_cases hm with rfl | rfl | rfl | rfl | rfl | rfl <;> decide
theorem part_turn (v : List Int) (hv : In64 v) (T : Int → Int) (hT : ∀ x, T (x + 32) = -T x) (hm : sp_may v.length = true) (k : Int) :
    sp_part (turnL v k) T = wrap64 (S v.length (fun j => v.getD j 0 * T (((j : Int) + k) * ((32 / v.length : Nat) : Int)))) := by
  obtain ⟨h0, hs, _⟩ := may_s hm
  unfold sp_part
  rw [turnL_length, if_pos hm, sp_sum_S]
  generalize hss : ((32 / v.length : Nat) : Int) = s at hs
  have e0 : S v.length (fun j => (turnL v k).getD j 0 * T ((j : Int) * s)) = S v.length (fun j => ext v ((j : Int) - k) * T ((j : Int) * s)) := S_congr (fun i hi => by rw [turnL_getD _ _ _ hi])
  have hF : ∀ p : Int, wrap64 (ext v (p + (v.length : Int) - k) * T ((p + (v.length : Int)) * s)) = wrap64 (ext v (p - k) * T (p * s)) := fun p => by
    rw [show p + (v.length : Int) - k = p - k + v.length by omega, ext_half v hv, Int.add_mul, hs, hT, W_W_mul, Int.neg_mul_neg]
  have hk0 := Int.emod_nonneg k (show 2 * (v.length : Int) ≠ 0 by omega)
  obtain ⟨K, hK⟩ := Int.eq_ofNat_of_zero_le hk0
  have hsh := S_turn (fun p => ext v (p - k) * T (p * s)) v.length hF K
  rw [e0, ← hsh]
  congr 1
  refine S_congr (fun i hi => ?_)
  have ek : k = 2 * (v.length : Int) * (k / (2 * (v.length : Int))) + (K : Int) := by rw [← hK]; exact (Int.mul_ediv_add_emod k _).symm
  obtain ⟨z, hz⟩ : ∃ z, k / (2 * (v.length : Int)) = z := ⟨_, rfl⟩
  rw [hz] at ek
  have e1 : ext v ((i : Int) + (K : Int) - k) = v.getD i 0 := by
    rw [← ext_low v i hi]
    refine ext_mod ?_
    rw [show (i : Int) + (K : Int) - k = (i : Int) + 2 * (v.length : Int) * (-z) by rw [Int.mul_neg]; omega, Int.add_mul_emod_self_left]
  have e2 : T (((i : Int) + (K : Int)) * s) = T (((i : Int) + k) * s) := by
    refine T_mod hT ?_
    have e4 : 2 * (v.length : Int) * z * s = 64 * z := by
      rw [Int.mul_right_comm, Int.mul_assoc 2, hs]; omega
    have e3 : ((i : Int) + k) * s = ((i : Int) + (K : Int)) * s + 64 * z := by
      rw [ek, ← e4, ← Int.add_mul]
      congr 1
      omega
    rw [e3, Int.add_mul_emod_self_left]
  rw [e1, e2]
theorem part_S (v : List Int) (T : Int → Int) (hm : sp_may v.length = true) : sp_part v T = wrap64 (S v.length (fun j => v.getD j 0 * T ((j : Int) * ((32 / v.length : Nat) : Int)))) := by
  unfold sp_part
  rw [if_pos hm, sp_sum_S]
theorem cos_fin : ∀ r : Fin 64, cosT ((r.1 : Nat) : Int) = cosT ((r.1 : Nat) : Int) ∧ cosT (((r.1 : Nat) : Int) + 32) = -cosT ((r.1 : Nat) : Int) ∧ cosT (((r.1 : Nat) : Int) + 16) = -sinT ((r.1 : Nat) : Int) ∧ sinT (((r.1 : Nat) : Int) + 16) = cosT ((r.1 : Nat) : Int) ∧ sinT (((r.1 : Nat) : Int) + 32) = -sinT ((r.1 : Nat) : Int) ∧ cosT (-((r.1 : Nat) : Int)) = cosT ((r.1 : Nat) : Int) ∧ sinT (-((r.1 : Nat) : Int)) = -sinT ((r.1 : Nat) : Int) := by decide +kernel
theorem cosT_mod {x y : Int} (h : x % 64 = y % 64) : cosT x = cosT y := by unfold cosT; rw [h]
theorem sinT_mod {x y : Int} (h : x % 64 = y % 64) : sinT x = sinT y := by unfold sinT; rw [h]
theorem T_all (x : Int) : cosT (x + 32) = -cosT x ∧ cosT (x + 16) = -sinT x ∧ sinT (x + 16) = cosT x ∧ sinT (x + 32) = -sinT x ∧ cosT (-x) = cosT x ∧ sinT (-x) = -sinT x := by
  have m0 := Int.emod_nonneg x (show (64 : Int) ≠ 0 by decide)
  have m1 := Int.emod_lt_of_pos x (show (0 : Int) < 64 by decide)
  obtain ⟨n, hn⟩ := Int.eq_ofNat_of_zero_le m0
  have h := cos_fin ⟨n, by omega⟩
  simp only at h
  rw [← hn] at h
  obtain ⟨_, h1, h2, h3, h4, h5, h6⟩ := h
  rw [cosT_mod (x := x + 32) (y := x % 64 + 32) (by omega), cosT_mod (x := x + 16) (y := x % 64 + 16) (by omega), sinT_mod (x := x + 16) (y := x % 64 + 16) (by omega), sinT_mod (x := x + 32) (y := x % 64 + 32) (by omega), cosT_mod (x := -x) (y := -(x % 64)) (by omega), sinT_mod (x := -x) (y := -(x % 64)) (by omega), cosT_mod (x := x) (y := x % 64) (by omega), sinT_mod (x := x) (y := x % 64) (by omega)]
  exact ⟨h1, h2, h3, h4, h5, h6⟩
theorem cos_half (x : Int) : cosT (x + 32) = -cosT x := (T_all x).1
theorem sin_half (x : Int) : sinT (x + 32) = -sinT x := (T_all x).2.2.2.1
theorem neg_S (n : Nat) (g f : Nat → Int) (h : ∀ i, i < n → g i = -f i) : S n g = -S n f := by rw [← S_neg]; exact S_congr h
theorem part_half (v : List Int) (hv : In64 v) (T : Int → Int) (hT : ∀ x, T (x + 32) = -T x) (hm : sp_may v.length = true) : sp_part (turnL v v.length) T = wrap64 (-(sp_part v T)) := by
  rw [part_turn v hv T hT hm, part_S v T hm, W_neg_W]
  congr 1
  refine neg_S _ _ _ (fun i _ => ?_)
  rw [Int.add_mul, (may_s hm).2.1, hT, Int.mul_neg]
theorem part_add (a b : List Int) (T : Int → Int) (h : a.length = b.length) : sp_part (addL a b) T = wrap64 (sp_part a T + sp_part b T) := by
  by_cases hm : sp_may a.length = true
  · rw [part_S _ T (by rw [addL_length h]; exact hm), part_S a T hm, part_S b T (by rw [← h]; exact hm), addL_length h, ← h, W_W_add, W_add_W, ← S_add, ← W_S]
    rw [← W_S _ (fun i => a.getD i 0 * T (↑i * ↑(32 / a.length)) + b.getD i 0 * T (↑i * ↑(32 / a.length)))]
    congr 1
    refine S_congr (fun i hi => ?_)
    rw [addL_getD h i hi, W_W_mul, Int.add_mul]
  · unfold sp_part
    rw [addL_length h, ← h, if_neg hm, if_neg hm, if_neg hm]
    exact (W_in (a := 0) (by decide) (by decide)).symm
theorem part_less (a b : List Int) (T : Int → Int) (h : a.length = b.length) : sp_part (lessL a b) T = wrap64 (sp_part a T - sp_part b T) := by
  by_cases hm : sp_may a.length = true
  · rw [part_S _ T (by rw [lessL_length h]; exact hm), part_S a T hm, part_S b T (by rw [← h]; exact hm), lessL_length h, ← h, W_W_sub, W_sub_W, ← S_sub, ← W_S]
    rw [← W_S _ (fun i => a.getD i 0 * T (↑i * ↑(32 / a.length)) - b.getD i 0 * T (↑i * ↑(32 / a.length)))]
    congr 1
    refine S_congr (fun i hi => ?_)
    rw [lessL_getD h i hi, W_W_mul, Int.sub_mul]
  · unfold sp_part
    rw [lessL_length h, ← h, if_neg hm, if_neg hm, if_neg hm]
    exact (W_in (a := 0) (by decide) (by decide)).symm

/-! ### The parts of spins, and the block -/
theorem part_zero (H : Nat) (T : Int → Int) : sp_part (List.replicate H (0 : Int)) T = 0 := by
  by_cases hm : sp_may H = true
  · rw [part_S _ T (by simpa using hm)]
    have : S (List.replicate H (0 : Int)).length (fun j => (List.replicate H (0 : Int)).getD j 0 * T ((j : Int) * ((32 / (List.replicate H (0 : Int)).length : Nat) : Int))) = 0 := by
      refine S_zero (fun i _ => ?_)
      show (List.replicate H (0 : Int)).getD i 0 * _ = 0
      have : (List.replicate H (0 : Int)).getD i 0 = 0 := by
        rw [List.getD_eq_getElem?_getD, List.getElem?_replicate]; split <;> rfl
      rw [this, Int.zero_mul]
    rw [this]; exact W_in (a := 0) (by decide) (by decide)
  · unfold sp_part
    rw [if_neg (by simpa using hm)]
theorem part_unit (H : Nat) (hm : sp_may H = true) (x : Int) (h0 : -9223372036854775808 ≤ x) (h1 : x ≤ 9223372036854775807) (T : Int → Int) (hT : ∀ x, T (x + 32) = -T x) (k : Int) :
    sp_part (turnL ((List.replicate H (0 : Int)).set 0 x) k) T = wrap64 (x * T (k * ((32 / H : Nat) : Int))) := by
  obtain ⟨hH, _, _⟩ := may_s hm
  have hl : ((List.replicate H (0 : Int)).set 0 x).length = H := by simp
  have hin : In64 ((List.replicate H (0 : Int)).set 0 x) := fun y hy => by
    rcases List.mem_or_eq_of_mem_set hy with h | h
    · rw [List.eq_of_mem_replicate h]; exact ⟨by decide, by decide⟩
    · rw [h]; exact ⟨h0, h1⟩
  rw [part_turn _ hin T hT (by rw [hl]; exact hm), hl]
  have g0 : ((List.replicate H (0 : Int)).set 0 x).getD 0 0 = x := by rw [List.getD_eq_getElem?_getD, List.getElem?_set_self (by simpa using hH)]; rfl
  rw [S_one (k := 0) hH (fun i _ hi => by
    show ((List.replicate H (0 : Int)).set 0 x).getD i 0 * _ = 0
    have : ((List.replicate H (0 : Int)).set 0 x).getD i 0 = 0 := by
      rw [List.getD_eq_getElem?_getD, List.getElem?_set_ne (fun h => hi h.symm), List.getElem?_replicate]
      split <;> rfl
    rw [this, Int.zero_mul])]
  show wrap64 (((List.replicate H (0 : Int)).set 0 x).getD 0 0 * T ((((0 : Nat) : Int) + k) * ((32 / H : Nat) : Int))) = _
  rw [g0, show ((0 : Nat) : Int) + k = k by omega]
theorem part_ps (H : Nat) (hm : sp_may H = true) (x : Nat → Int) (hx : ∀ i, -9223372036854775808 ≤ x i ∧ x i ≤ 9223372036854775807) (p : Nat → Int) (T : Int → Int) (hT : ∀ x, T (x + 32) = -T x) : ∀ n, sp_part (psRow H x p n) T = wrap64 (S n (fun i => x i * T (p i * ((32 / H : Nat) : Int))))
  | 0 => by rw [← ps_zero, part_zero]; exact (W_in (a := 0) (by decide) (by decide)).symm
  | n + 1 => by
    have hH := (may_s hm).1
    rw [← ps_step hH x p n (W_in (hx n).1 (hx n).2), part_add _ _ _ (by rw [psRow_length, turnL_length]; simp), part_ps H hm x hx p T hT n, part_unit H hm _ (hx n).1 (hx n).2 T hT, W_W_add, W_add_W]
    rfl
theorem may_half {N H : Nat} (hm : fftMay N = true) (hH : N / 2 = H) : sp_may H = true ∧ ((N : Nat) : Int) * ((32 / H : Nat) : Int) = 64 := by
  subst hH
  rcases fftMay_cases hm with rfl | rfl | rfl | rfl | rfl | rfl <;> decide
theorem getD_in {v : List Int} (hv : In64 v) (i : Nat) : -9223372036854775808 ≤ v.getD i 0 ∧ v.getD i 0 ≤ 9223372036854775807 := by
  have := hv.getD i
  rw [← this]
  exact ⟨W_lo _, W_hi _⟩
/-- A part of the spin at k. -/
theorem part_at (v : List Int) (hv : In64 v) (N s : Nat) (hl : v.length = N) (hm : fftMay N = true) (hs : 32 / (N / 2) = s) (T : Int → Int) (hT : ∀ x, T (x + 32) = -T x) (k : Int) :
    sp_part (spinAt v k) T = wrap64 (S N (fun i => v.getD i 0 * T (k * (i : Int) * (s : Int)))) := by
  obtain ⟨h1, h2⟩ := may_half hm rfl
  rw [hs] at h2
  unfold spinAt
  rw [hl, part_ps (N / 2) h1 (fun i => v.getD i 0) (fun i => getD_in hv i) _ T hT, hs]
  congr 1
  refine S_congr (fun i _ => ?_)
  congr 1
  refine T_mod hT ?_
  show (k % (N : Int) * (i : Int) * (s : Int)) % 64 = _
  obtain ⟨z, hz⟩ : ∃ z, k / (N : Int) = z := ⟨_, rfl⟩
  obtain ⟨r, hr⟩ : ∃ r, k % (N : Int) = r := ⟨_, rfl⟩
  have hk : k = (N : Int) * z + r := by rw [← hz, ← hr]; exact (Int.mul_ediv_add_emod k _).symm
  rw [hr, hk]
  have e : ((N : Int) * z + r) * (i : Int) * (s : Int) = r * (i : Int) * (s : Int) + 64 * (z * (i : Int)) := by
    rw [← h2, Int.add_mul, Int.add_mul, Int.add_comm]
    congr 1
    rw [Int.mul_right_comm (N : Int) z, Int.mul_right_comm ((N : Int) * (i : Int)) z, Int.mul_right_comm (N : Int) (i : Int) (s : Int), Int.mul_assoc ((N : Int) * (s : Int)), Int.mul_comm (i : Int) z]
  rw [e, Int.add_mul_emod_self_left]
theorem conj_re (v : List Int) (hv : In64 v) (N : Nat) (hl : v.length = N) (hm : fftMay N = true) (k : Int) : sp_part (spinAt v ((N : Int) - k)) cosT = sp_part (spinAt v k) cosT := by
  obtain ⟨_, h2⟩ := may_half hm rfl
  rw [part_at v hv N _ hl hm rfl cosT cos_half, part_at v hv N _ hl hm rfl cosT cos_half]
  generalize ((32 / (N / 2) : Nat) : Int) = s at *
  congr 1
  refine S_congr (fun i _ => ?_)
  show v.getD i 0 * _ = v.getD i 0 * _
  congr 1
  rw [← (T_all (k * (i : Int) * s)).2.2.2.2.1]
  refine cosT_mod ?_
  have e : ((N : Int) - k) * (i : Int) * s = -(k * (i : Int) * s) + 64 * (i : Int) := by
    rw [← h2, Int.sub_mul, Int.sub_mul, Int.mul_right_comm (N : Int)]; omega
  rw [e, Int.add_mul_emod_self_left]
theorem conj_im (v : List Int) (hv : In64 v) (N : Nat) (hl : v.length = N) (hm : fftMay N = true) (k : Int) : sp_part (spinAt v ((N : Int) - k)) sinT = wrap64 (-(sp_part (spinAt v k) sinT)) := by
  obtain ⟨_, h2⟩ := may_half hm rfl
  rw [part_at v hv N _ hl hm rfl sinT sin_half, part_at v hv N _ hl hm rfl sinT sin_half, W_neg_W]
  generalize ((32 / (N / 2) : Nat) : Int) = s at *
  congr 1
  rw [← S_neg]
  refine S_congr (fun i _ => ?_)
  show v.getD i 0 * _ = -(v.getD i 0 * _)
  rw [← Int.mul_neg]
  congr 1
  rw [← (T_all (k * (i : Int) * s)).2.2.2.2.2]
  refine sinT_mod ?_
  have e : ((N : Int) - k) * (i : Int) * s = -(k * (i : Int) * s) + 64 * (i : Int) := by
    rw [← h2, Int.sub_mul, Int.sub_mul, Int.mul_right_comm (N : Int)]; omega
  rw [e, Int.add_mul_emod_self_left]
theorem trig_small (x : Int) : (-16384 ≤ cosT x ∧ cosT x ≤ 16384) ∧ -16384 ≤ sinT x ∧ sinT x ≤ 16384 := by
  have key : ∀ r : Fin 64, (-16384 ≤ cosT ((r.1 : Nat) : Int) ∧ cosT ((r.1 : Nat) : Int) ≤ 16384) ∧ -16384 ≤ sinT ((r.1 : Nat) : Int) ∧ sinT ((r.1 : Nat) : Int) ≤ 16384 := by decide +kernel
  have m0 := Int.emod_nonneg x (show (64 : Int) ≠ 0 by decide)
  have m1 := Int.emod_lt_of_pos x (show (0 : Int) < 64 by decide)
  obtain ⟨n, hn⟩ := Int.eq_ofNat_of_zero_le m0
  have h := key ⟨n, by omega⟩
  simp only at h
  rw [← hn, cosT_mod (x := x % 64) (y := x) (by omega), sinT_mod (x := x % 64) (y := x) (by omega)] at h
  exact h
theorem S_small (n : Nat) (f : Nat → Int) (B : Int) (h : ∀ i, -B ≤ f i ∧ f i ≤ B) : -((n : Int) * B) ≤ S n f ∧ S n f ≤ (n : Int) * B := by
  induction n with
  | zero => exact ⟨by show -(((0 : Nat) : Int) * B) ≤ 0; simp, by show (0 : Int) ≤ ((0 : Nat) : Int) * B; simp⟩
  | succ n ih =>
    have hn := h n
    have e : ((n + 1 : Nat) : Int) * B = (n : Int) * B + B := by rw [Int.natCast_add, Int.add_mul]; simp
    show _ ≤ S n f + f n ∧ S n f + f n ≤ _
    rw [e]
    omega
theorem mul_small {a b : Int} (ha : -32768 ≤ a ∧ a ≤ 32768) (hb : -16384 ≤ b ∧ b ≤ 16384) : -536870912 ≤ a * b ∧ a * b ≤ 536870912 := by
  have h : (a * b).natAbs ≤ 32768 * 16384 := by rw [Int.natAbs_mul]; exact Nat.mul_le_mul (by omega) (by omega)
  omega
theorem part_small (v : List Int) (hv : In64 v) (hb : ∀ i, -32768 ≤ v.getD i 0 ∧ v.getD i 0 ≤ 32768) (N : Nat) (hl : v.length = N) (hm : fftMay N = true) (T : Int → Int) (hT : ∀ x, T (x + 32) = -T x) (hT2 : ∀ x, -16384 ≤ T x ∧ T x ≤ 16384) (k : Int) :
    -34359738368 ≤ sp_part (spinAt v k) T ∧ sp_part (spinAt v k) T ≤ 34359738368 := by
  rw [part_at v hv N _ hl hm rfl T hT]
  have h := S_small N (fun i => v.getD i 0 * T (k * (i : Int) * ((32 / (N / 2) : Nat) : Int))) 536870912 (fun i => mul_small (hb i) (hT2 _))
  have hN : N ≤ 64 := by rcases fftMay_cases hm with rfl | rfl | rfl | rfl | rfl | rfl <;> omega
  generalize S N (fun i => v.getD i 0 * T (k * (i : Int) * ((32 / (N / 2) : Nat) : Int))) = x at *
  rw [W_in (by omega) (by omega)]
  omega
theorem im_zero (v : List Int) (hv : In64 v) (N : Nat) (hl : v.length = N) (hm : fftMay N = true) : sp_part (spinAt v 0) sinT = 0 ∧ sp_part (spinAt v ((N / 2 : Nat) : Int)) sinT = 0 := by
  have z0 : sinT 0 = 0 := by decide +kernel
  have z1 : ∀ i : Nat, sinT (32 * (i : Int)) = 0 := fun i => by
    rcases Nat.mod_two_eq_zero_or_one i with h | h
    · rw [sinT_mod (x := 32 * (i : Int)) (y := 0) (by omega)]; exact z0
    · rw [sinT_mod (x := 32 * (i : Int)) (y := 32) (by omega)]; decide +kernel
  constructor
  · rw [part_at v hv N _ hl hm rfl sinT sin_half, S_zero (n := N) (fun i _ => by show v.getD i 0 * sinT (0 * (i : Int) * _) = 0; rw [Int.zero_mul, Int.zero_mul, z0, Int.mul_zero])]
    exact W_in (a := 0) (by decide) (by decide)
  · obtain ⟨h1, _⟩ := may_half hm rfl
    have h3 := (may_s h1).2.1
    rw [part_at v hv N _ hl hm rfl sinT sin_half, S_zero (n := N) (fun i _ => by
      show v.getD i 0 * sinT (((N / 2 : Nat) : Int) * (i : Int) * ((32 / (N / 2) : Nat) : Int)) = 0
      rw [Int.mul_right_comm, h3, z1, Int.mul_zero])]
    exact W_in (a := 0) (by decide) (by decide)
theorem halfL_getD' (l : List Int) (s i : Nat) (hi : i < l.length) : (halfL l s).getD i 0 = divR (l.getD i 0) ((2 ^ s : Nat) : Int) := by
  simp [halfL, List.getD_eq_getElem?_getD, List.getElem?_map, List.getElem?_eq_getElem hi]
/-! Divided by a power of two, and rounded. -/
theorem divR_pow {x : Int} {s : Nat} (hx : -34359738368 ≤ x ∧ x ≤ 34359738368) (h15 : Lib.bitLen x.natAbs ≤ 15 + s) : -32768 ≤ divR x ((2 ^ s : Nat) : Int) ∧ divR x ((2 ^ s : Nat) : Int) ≤ 32768 := by
  have h1 := bl_le (x := x.natAbs) (by omega) h15
  have hp : 0 < 2 ^ s := Nat.two_pow_pos s
  rw [Nat.pow_add] at h1
  generalize 2 ^ s = n at *
  rw [show (2 : Nat) ^ 15 = 32768 by decide] at h1
  have a1 : x / (n : Int) < 32768 := Int.ediv_lt_of_lt_mul (by omega) (by omega)
  have a2 : -32768 ≤ x / (n : Int) := Int.le_ediv_of_mul_le (by omega) (by omega)
  unfold divR
  rw [if_neg (by omega)]
  split <;> omega
theorem divR_big {x : Int} {s : Nat} (hx : -34359738368 ≤ x ∧ x ≤ 34359738368) (h15 : Lib.bitLen x.natAbs = 15 + s) : divR x ((2 ^ s : Nat) : Int) ≤ -16384 ∨ 16384 ≤ divR x ((2 ^ s : Nat) : Int) := by
  have h0 : x.natAbs ≠ 0 := fun h => by rw [h, bl_zero] at h15; omega
  have h1 := (bl_spec (x := x.natAbs) (by omega) h0).2.2.1
  have hp : 0 < 2 ^ s := Nat.two_pow_pos s
  rw [h15, show 15 + s - 1 = 14 + s by omega, Nat.pow_add] at h1
  generalize 2 ^ s = n at *
  rw [show (2 : Nat) ^ 14 = 16384 by decide] at h1
  unfold divR
  rw [if_neg (by omega)]
  rcases Int.le_total 0 x with hs | hs
  · have a2 : 16384 ≤ x / (n : Int) := Int.le_ediv_of_mul_le (by omega) (by omega)
    split <;> omega
  · have a1 : x / (n : Int) < -16383 := Int.ediv_lt_of_lt_mul (by omega) (by omega)
    have e := Int.mul_ediv_add_emod x (n : Int)
    have m0 := Int.emod_nonneg x (show (n : Int) ≠ 0 by omega)
    by_cases hq : x / (n : Int) = -16384
    · rw [hq] at e ⊢
      have : x % (n : Int) = 0 := by omega
      rw [this, if_neg (by omega)]
      exact .inl (by decide)
    · split <;> omega
/-! The block as a whole -/
def In16 (v : List Int) : Prop := ∀ i, -32768 ≤ v.getD i 0 ∧ v.getD i 0 ≤ 32768
def reB (v : List Int) (N : Nat) : List Int := partsRe (spinsF v) (N / 2 + 1)
def imB (v : List Int) (N : Nat) : List Int := partsIm (spinsF v) (N / 2 + 1)
theorem reB_at (v : List Int) (hv : In64 v) (N : Nat) (hl : v.length = N) (hm : fftMay N = true) (k : Nat) (hk : k < N / 2 + 1) : (reB v N).getD k 0 = sp_part (spinAt v (k : Int)) cosT := by
  have hN : 2 ≤ N := by rcases fftMay_cases hm with rfl | rfl | rfl | rfl | rfl | rfl <;> omega
  unfold reB partsRe
  rw [getD_map_range (N / 2 + 1) (fun k => sp_part ((spinsF v).getD k []) cosT) k hk, spinAt_row v hv (by rw [hl]; exact hm) k (by omega)]
theorem imB_at (v : List Int) (hv : In64 v) (N : Nat) (hl : v.length = N) (hm : fftMay N = true) (k : Nat) (hk : k < N / 2 + 1) : (imB v N).getD k 0 = wrap64 (-(sp_part (spinAt v (k : Int)) sinT)) := by
  have hN : 2 ≤ N := by rcases fftMay_cases hm with rfl | rfl | rfl | rfl | rfl | rfl <;> omega
  unfold imB partsIm
  rw [getD_map_range (N / 2 + 1) (fun k => wrap64 (-(sp_part ((spinsF v).getD k []) sinT))) k hk, spinAt_row v hv (by rw [hl]; exact hm) k (by omega)]
theorem block_all (v : List Int) (hv : In64 v) (hb : In16 v) (N H s : Nat) (hl : v.length = N) (hm : fftMay N = true) (hH : N / 2 = H) (hs : shiftOf (partsRe (spinsF v) (H + 1)) (partsIm (spinsF v) (H + 1)) = s) (re im : List Int)
    (hre : halfL (partsRe (spinsF v) (H + 1)) s = re) (him : halfL (partsIm (spinsF v) (H + 1)) s = im) :
    s ≤ 30 ∧ re.length = H + 1 ∧ im.length = H + 1 ∧ (∀ k, k < H + 1 → (-32768 ≤ re.getD k 0 ∧ re.getD k 0 ≤ 32768) ∧ -32768 ≤ im.getD k 0 ∧ im.getD k 0 ≤ 32768) ∧
      (s ≠ 0 → ∃ k, k < H + 1 ∧ (re.getD k 0 ≤ -16384 ∨ 16384 ≤ re.getD k 0 ∨ im.getD k 0 ≤ -16384 ∨ 16384 ≤ im.getD k 0)) ∧ im.getD 0 0 = 0 ∧ im.getD H 0 = 0 := by
  subst hH
  have r0 : ∀ k, k < N / 2 + 1 → -34359738368 ≤ (reB v N).getD k 0 ∧ (reB v N).getD k 0 ≤ 34359738368 := fun k hk => by
    rw [reB_at v hv N hl hm k hk]
    exact part_small v hv hb N hl hm cosT cos_half (fun x => (trig_small x).1) _
  have i0 : ∀ k, k < N / 2 + 1 → -34359738368 ≤ (imB v N).getD k 0 ∧ (imB v N).getD k 0 ≤ 34359738368 := fun k hk => by
    rw [imB_at v hv N hl hm k hk]
    have := part_small v hv hb N hl hm sinT sin_half (fun x => (trig_small x).2) (k : Int)
    rw [W_in (by omega) (by omega)]
    omega
  obtain ⟨z0, z1⟩ := im_zero v hv N hl hm
  have w0 : (imB v N).getD 0 0 = 0 := by rw [imB_at v hv N hl hm 0 (by omega), show ((0 : Nat) : Int) = 0 from rfl, z0]; exact W_in (a := -0) (by decide) (by decide)
  have w1 : (imB v N).getD (N / 2) 0 = 0 := by rw [imB_at v hv N hl hm _ (by omega), z1]; exact W_in (a := -0) (by decide) (by decide)
  have lr : (reB v N).length = N / 2 + 1 := partsRe_length _ _
  have li : (imB v N).length = N / 2 + 1 := partsIm_length _ _
  have gr : Rng (reB v N) := partsRe_rng _ _
  have gi : Rng (imB v N) := partsIm_rng _ _
  have e1 : partsRe (spinsF v) (N / 2 + 1) = reB v N := rfl
  have e2 : partsIm (spinsF v) (N / 2 + 1) = imB v N := rfl
  rw [e1, e2] at hs
  rw [e1] at hre
  rw [e2] at him
  clear e1 e2
  generalize reB v N = R at *
  generalize imB v N = I at *
  have hS : s = normN (R ++ I) - 15 := hs.symm
  have mem_at : ∀ (l : List Int) (x : Int), l.length = N / 2 + 1 → x ∈ l → ∃ k, k < N / 2 + 1 ∧ l.getD k 0 = x := fun l x h hx => by
    obtain ⟨k, hk, rfl⟩ := List.getElem_of_mem hx
    exact ⟨k, by omega, by rw [List.getD_eq_getElem?_getD, List.getElem?_eq_getElem hk]; rfl⟩
  have at_mem : ∀ (l : List Int) (k : Nat), l.length = N / 2 + 1 → k < N / 2 + 1 → l.getD k 0 ∈ l := fun l k h hk => by
    rw [List.getD_eq_getElem?_getD, List.getElem?_eq_getElem (by omega)]; exact List.getElem_mem _
  have hn36 : normN (R ++ I) ≤ 36 := by
    rcases normN_met (gr.append gi) with h | ⟨x, hx, h⟩
    · omega
    · rw [← h]
      have : -34359738368 ≤ x ∧ x ≤ 34359738368 := by
        rcases List.mem_append.1 hx with h | h
        · obtain ⟨k, hk, rfl⟩ := mem_at R x lr h; exact r0 k hk
        · obtain ⟨k, hk, rfl⟩ := mem_at I x li h; exact i0 k hk
      exact bl_of_lt (by omega) (by have : (2 : Nat) ^ 36 = 68719476736 := (by decide); omega)
  have gR : ∀ k, k < N / 2 + 1 → re.getD k 0 = divR (R.getD k 0) ((2 ^ s : Nat) : Int) := fun k hk => by rw [← hre]; exact halfL_getD' R s k (by omega)
  have gI : ∀ k, k < N / 2 + 1 → im.getD k 0 = divR (I.getD k 0) ((2 ^ s : Nat) : Int) := fun k hk => by rw [← him]; exact halfL_getD' I s k (by omega)
  have d0 : divR 0 ((2 ^ s : Nat) : Int) = 0 := by
    have hp : 0 < 2 ^ s := Nat.two_pow_pos s
    unfold divR
    rw [if_neg (by omega), if_neg (by rw [Int.zero_emod]; omega), Int.zero_ediv]
  refine ⟨by omega, by rw [← hre]; unfold halfL; rw [List.length_map, lr], by rw [← him]; unfold halfL; rw [List.length_map, li], fun k hk => ⟨?_, ?_⟩, fun h0 => ?_, by rw [gI 0 (by omega), w0, d0], by rw [gI _ (by omega), w1, d0]⟩
  · rw [gR k hk]
    exact divR_pow (r0 k hk) (by have := normN_mem (gr.append gi) (List.mem_append_left I (at_mem R k lr hk)); omega)
  · rw [gI k hk]
    exact divR_pow (i0 k hk) (by have := normN_mem (gr.append gi) (List.mem_append_right R (at_mem I k li hk)); omega)
  · rcases normN_met (gr.append gi) with h | ⟨x, hx, h⟩
    · omega
    · rcases List.mem_append.1 hx with h1 | h1
      · obtain ⟨k, hk, rfl⟩ := mem_at R x lr h1
        refine ⟨k, hk, ?_⟩
        rw [gR k hk]
        rcases divR_big (s := s) (r0 k hk) (by omega) with h | h
        · exact .inl h
        · exact .inr (.inl h)
      · obtain ⟨k, hk, rfl⟩ := mem_at I x li h1
        refine ⟨k, hk, ?_⟩
        rw [gI k hk]
        rcases divR_big (s := s) (i0 k hk) (by omega) with h | h
        · exact .inr (.inr (.inl h))
        · exact .inr (.inr (.inr h))
/-- A number's low 16 bits, signed. -/
def s16 (x : Int) : Int := (x + 32768) % 65536 - 32768
def lowL (N : Nat) (u : List Int) : List Int := (List.range N).map fun i => s16 (u.getD i 0)
theorem lowL_length (N : Nat) (u : List Int) : (lowL N u).length = N := by simp [lowL]
theorem lowL_at (N : Nat) (u : List Int) (i : Nat) (hi : i < N) : (lowL N u).getD i 0 = s16 (u.getD i 0) := getD_map_range N (fun i => s16 (u.getD i 0)) i hi
theorem s16_in (x : Int) : -32768 ≤ s16 x ∧ s16 x ≤ 32767 := by unfold s16; omega
theorem lowL_in (N : Nat) (u : List Int) : In64 (lowL N u) := by
  intro x hx
  simp only [lowL, List.mem_map] at hx
  obtain ⟨i, _, rfl⟩ := hx
  have := s16_in (u.getD i 0)
  exact ⟨by omega, by omega⟩
theorem lowL_16 (N : Nat) (u : List Int) : In16 (lowL N u) := by
  intro i
  by_cases h : i < N
  · rw [lowL_at N u i h]
    have := s16_in (u.getD i 0)
    omega
  · rw [List.getD_eq_getElem?_getD, List.getElem?_eq_none (by rw [lowL_length]; omega)]
    exact ⟨by decide, by decide⟩
theorem wrap_s16 (x : Int) : IntKind.i16.wrap x = s16 x := by
  unfold s16
  simp [IntKind.wrap, IntKind.bits, IntKind.signed]
  split <;> omega
theorem s16_64 (x : Int) : IntKind.i64.wrap (s16 x) = s16 x := by
  have := s16_in x
  rw [IntKind.wrap_i64]
  omega

def earshotlaw10_FftBlock.f (l0 : List Int) (a1 a2 : Int) : Option (Bool) := if decide (l0.length ≤ 4000000000000000000) && l0.all (fun x => decide (-9223372036854775808 ≤ x) && decide (x ≤ 9223372036854775807)) then some true else none
theorem sized_o (A0 : Option Addr) (m c0 N : Nat) (l0 v : List Int) (a : Int) (W : World) (b : Nat) (hb : b ≤ W.heap.size) (hl : l0.length = m) (hC : (Kd.int .i64).C W A0 m l0) (hmc : m ≤ c0) (hm : m ≤ 4000000000000000000) (hN : sizeOf_ a = N) (hv : sizedL N l0 = v) (h0 : 0 < N) :
    Calls Tryd.prog 25 #[.slice A0 m c0, .int .i64 a] W fun e w' => ∃ g c, e = .returned (.slice (some ⟨g, 0, none⟩) N c) ∧ N ≤ c ∧ g < w'.heap.size ∧ Aside0 (w'.ownsRow b 3 1 (.slice (some ⟨g, 0, none⟩) N c) N (nums .i64 v)) ∧ Aside0 (Below W.heap.size W w') := by
  subst hl
  refine (earshotlaw10_sized.calls A0 c0 l0 a _ W hC hmc (by unfold earshotlaw10_sized.f; rw [if_pos (by simpa using hm)])).mono ?_
  rintro e w' ⟨v0, rfl, hR, hB⟩
  rw [hN, hv] at hR
  have hvl : v.length = N := by rw [← hv, sizedL_length]
  obtain ⟨g, c, rfl, h1, h2, _⟩ := Kd.R_form hR (by omega)
  have h3 := (Kd.R_reads' hR).2.1
  rw [hvl] at h3 ⊢
  have ho := own_of_R' (Kd.R_lower hR hb) hvl
  rw [hvl] at ho
  exact ⟨g, c, rfl, h3, by have := own_cell ho 0 h0; exact World.block_lt_of_cell? w' _ this, ⟨ho⟩, ⟨hB⟩⟩
theorem bins_x (N H1 s : Nat) (c : Nat) (A : Option Addr) (l re im : List Int) (w : World) (hG : GlobA w) (hl : l.length = N) (hC : (Kd.int .i64).C w A N l) (hin : In64 l) (hm : fftMay N = true) (hHN : N / 2 + 1 = H1) (hnc : N ≤ c)
    (hs : shiftOf (partsRe (spinsF l) H1) (partsIm (spinsF l) H1) = s) (hre : halfL (partsRe (spinsF l) H1) s = re) (him : halfL (partsIm (spinsF l) H1) s = im) :
    Calls Tryd.prog 29 #[.slice A N c] w fun e w' => ∃ A1 c1 A2 c2, e = .returned (.tuple #[.slice A1 H1 c1, .slice A2 H1 c2, .int .i64 (s : Int)]) ∧ H1 ≤ c1 ∧ H1 ≤ c2 ∧ Aside0 ((Kd.int .i64).C w' A1 H1 re) ∧ Aside0 ((Kd.int .i64).C w' A2 H1 im) ∧ Aside0 (Below w.heap.size w w') := by
  refine (bins_yes (N / 2) N c A l w hG hl hC hin hm rfl hnc).mono ?_
  rintro e w' ⟨v0, v1, rfl, h0, h1, hB⟩
  rw [hHN, hs, hre] at h0
  rw [hHN, hs, him] at h1
  have lr : re.length = H1 := by rw [← hre, halfL_length, partsRe_length]
  have li : im.length = H1 := by rw [← him, halfL_length, partsIm_length]
  obtain ⟨A1, c1, rfl, k1, k2⟩ := Kd.R_reads h0
  obtain ⟨A2, c2, rfl, k3, k4⟩ := Kd.R_reads h1
  rw [lr] at k1 k2 ⊢
  rw [li] at k3 k4 ⊢
  exact ⟨A1, c1, A2, c2, by rw [hHN, hs], k1, k3, ⟨k2⟩, ⟨k4⟩, ⟨hB⟩⟩
def mx (M x y : Int) : Int := if M < (if (if x < -x then -x else x) < (if y < -y then -y else y) then (if y < -y then -y else y) else (if x < -x then -x else x)) then (if (if x < -x then -x else x) < (if y < -y then -y else y) then (if y < -y then -y else y) else (if x < -x then -x else x)) else M
theorem mx_spec {M x y : Int} (h0 : 0 ≤ M) (h1 : M ≤ 32768) (hx : -32768 ≤ x ∧ x ≤ 32768) (hy : -32768 ≤ y ∧ y ≤ 32768) : 0 ≤ mx M x y ∧ mx M x y ≤ 32768 ∧ M ≤ mx M x y ∧ x ≤ mx M x y ∧ -x ≤ mx M x y ∧ y ≤ mx M x y ∧ -y ≤ mx M x y := by
  unfold mx
  by_cases a : x < -x <;> by_cases b : y < -y <;> simp only [a, b, if_true, if_false] <;> split <;> split <;> omega
theorem norm_15 {M : Int} (h0 : 0 ≤ M) (h1 : M ≤ 32768) : normN [M - 1] ≤ 15 := by
  rw [normN_one]
  exact bl_of_lt (by omega) (by have : (2 : Nat) ^ 15 = 32768 := (by decide); omega)
set_option maxHeartbeats 64000000 in
set_option maxRecDepth 100000 in
theorem block_go (A0 : Option Addr) (m c0 N H H1 s : Nat) (l0 u v re im : List Int) (a k : Int) (w : World) (hG : GlobA w) (hl : l0.length = m) (hC : (Kd.int .i64).C w A0 m l0) (hmc : m ≤ c0) (hm : m ≤ 4000000000000000000) (hin : In64 l0) (hN : sizeOf_ a = N) (hH : N / 2 = H) (hH1 : H + 1 = H1) (hu : sizedL N l0 = u) (hv : lowL N u = v)
    (hs : shiftOf (partsRe (spinsF v) H1) (partsIm (spinsF v) H1) = s) (hre : halfL (partsRe (spinsF v) H1) s = re) (him : halfL (partsIm (spinsF v) H1) s = im) :
    Calls Tryd.prog 11 #[.slice A0 m c0, .int .i64 a, .int .i64 k] w fun e w' => e = .returned (.bool true) ∧ Below w.heap.size w w' := by
  have hmay := sizeOf_may a
  rw [hN] at hmay
  have hvl : v.length = N := by rw [← hv, lowL_length]
  have hvin : In64 v := by rw [← hv]; exact lowL_in _ _
  have hv16 : In16 v := by rw [← hv]; exact lowL_16 _ _
  have hul : u.length = N := by rw [← hu, sizedL_length]
  have hN64 : 2 ≤ N ∧ N ≤ 64 ∧ H ≤ 32 ∧ 1 ≤ H ∧ H ≤ N := by rcases fftMay_cases hmay with rfl | rfl | rfl | rfl | rfl | rfl <;> omega
  obtain ⟨hN2, hN64, hH32, hHp, hHN⟩ := hN64
  have hH33 : H1 ≤ 33 := by omega
  have hHN1 : N / 2 + 1 = H1 := by omega
  obtain ⟨hs30, hlr, hli, hsm, hbig, hz0, hzH⟩ := block_all v hvin hv16 N H s hvl hmay hH (by rw [hH1]; exact hs) re im (by rw [hH1]; exact hre) (by rw [hH1]; exact him)
  rw [hH1] at hlr hli hsm hbig
  obtain ⟨t, ht, htm, hmask⟩ := mask_may N hmay k
  have HSZ : Aside0 (∀ W : World, w.heap.size ≤ W.heap.size → (Kd.int .i64).C W A0 m l0 → Calls Tryd.prog 25 #[.slice A0 m c0, .int .i64 a] W fun e w' => ∃ g c, e = .returned (.slice (some ⟨g, 0, none⟩) N c) ∧ N ≤ c ∧ g < w'.heap.size ∧ Aside0 (w'.ownsRow w.heap.size 3 1 (.slice (some ⟨g, 0, none⟩) N c) N (nums .i64 u)) ∧ Aside0 (Below W.heap.size W w')) := ⟨fun W hb h => sized_o A0 m c0 N l0 u a W w.heap.size hb hl h hmc hm hN hu (by omega)⟩
  have HBI : Aside0 (∀ (W : World) (A : Option Addr) (c : Nat), GlobA W → (Kd.int .i64).C W A N v → N ≤ c → Calls Tryd.prog 29 #[.slice A N c] W fun e w' => ∃ A1 c1 A2 c2, e = .returned (.tuple #[.slice A1 H1 c1, .slice A2 H1 c2, .int .i64 (s : Int)]) ∧ H1 ≤ c1 ∧ H1 ≤ c2 ∧ Aside0 ((Kd.int .i64).C w' A1 H1 re) ∧ Aside0 ((Kd.int .i64).C w' A2 H1 im) ∧ Aside0 (Below W.heap.size W w')) := ⟨fun W A c hg h hc => bins_x N H1 s c A v re im W hg hvl h hvin hmay hHN1 hc hs hre him⟩
  have HSS : Aside0 (∀ (j : Int) (W : World) (A : Option Addr) (c : Nat), -9223372036854775808 ≤ j ∧ j ≤ 9223372036854775807 → (Kd.int .i64).C W A N v → Calls Tryd.prog 28 #[.int .i64 j, .slice A N c] W fun e w' => ∃ B d, e = .returned (.slice B H d) ∧ H ≤ d ∧ Aside0 ((Kd.int .i64).C w' B H (spinAt v j)) ∧ Aside0 (Below W.heap.size W w')) := ⟨fun j W A c hj h => sum_go j N H c A v W hvl h hvin hmay hH hj.1 hj.2⟩
  obtain ⟨ra, hra⟩ : ∃ x, sp_part (spinAt v (t : Int)) cosT = x := ⟨_, rfl⟩
  obtain ⟨sa, hsa⟩ : ∃ x, sp_part (spinAt v (t : Int)) sinT = x := ⟨_, rfl⟩
  have hsb := part_small v hvin hv16 N hvl hmay sinT sin_half (fun x => (trig_small x).2) (t : Int)
  have hrb := conj_re v hvin N hvl hmay (t : Int)
  have hib := conj_im v hvin N hvl hmay (t : Int)
  rw [hra] at hrb
  rw [hsa] at hsb hib
  have e1 : wrap64 (-sa) = -sa := W_in (by omega) (by omega)
  have e2 : wrap64 (-(-sa)) = sa := by rw [Int.neg_neg]; exact W_in (by omega) (by omega)
  rw [e1] at hib
  have HLA : Aside0 (∀ j : Int, (spinAt v j).length = H) := ⟨fun j => by rw [spinAt_length, hvl, hH]⟩
  have HRA := Aside0.mk hra
  have HRB := Aside0.mk hrb
  have HIA : Aside0 (wrap64 (-(sp_part (spinAt v (t : Int)) sinT)) = -sa) := ⟨by rw [hsa, e1]⟩
  have HIB : Aside0 (wrap64 (-(sp_part (spinAt v ((N : Int) - (t : Int))) sinT)) = sa) := ⟨by rw [hib, e2]⟩
  have HVU : Aside0 (∀ i, i < N → v.getD i 0 = s16 (u.getD i 0)) := ⟨fun i hi => by rw [← hv]; exact lowL_at N u i hi⟩
  have HSM := Aside0.mk hsm
  have HBG := Aside0.mk hbig
  have HZ0 := Aside0.mk hz0
  have HZH := Aside0.mk hzH
  have HLR := Aside0.mk hlr
  have HLI := Aside0.mk hli
  have HVL := Aside0.mk hvl
  have HUL := Aside0.mk hul
  obtain ⟨N1, hN1⟩ : ∃ N1 : Nat, (N : Int) - 1 = (N1 : Int) := ⟨N - 1, by omega⟩
  have hN1w : IntKind.i64.wrap ((N : Int) - 1) = (N1 : Int) := by rw [IntKind.wrap_i64]; omega
  rw [hN1] at hmask
  have q1 : Int.tdiv (N : Int) 2 = (H : Int) := by rw [Int.tdiv_eq_ediv_of_nonneg (by omega)]; omega
  have q2 : (N : Int) / 2 = (H : Int) := by omega
  have q3 : (H : Int) + 1 = (H1 : Int) := by omega
  have HC := Aside0.mk hC
  have HG0 := Aside0.mk hG
  clear hG hl hC hin hN hH hu hv hs hre him hmay hvl hvin hv16 hul hm htm hsm hbig hz0 hzH hra hsa hrb hib e1 e2 hlr hli hHN1 hH1
  have ST0 : True := trivial
  go_enter Tryd.func11, Tryd.ntmps11
  go_wp2_with (first
    | (go_at_call 24; clear ST0; (with_reducible refine (awake_go _ HG0.out).mono ?_); rintro e_ w1 ⟨rfl, B1⟩; have HB1 := Aside0.mk B1; clear B1; have ST1 : True := trivial)
    | (go_at_call 25; clear ST1; (with_reducible refine (HSZ.out w1 HB1.out.size (Kd.C_below HC.out HB1.out)).mono ?_); rintro e_ w2 ⟨gv, cv, rfl, hcv, hgv, HO, B2⟩; have HB2 := Aside0.mk (below_step HB1.out B2.out); clear B2 HB1; have ST2 : True := trivial))
  have HOW := HO
  go_loopw [10] (fun x wr => ∃ (i : Nat) (xs : List Int), i ≤ N ∧ x = .int .i64 (i : Int) ∧ Aside0 (xs.length = N) ∧ Aside0 (∀ j, j < N → xs.getD j 0 = if j < i then v.getD j 0 else u.getD j 0) ∧ Aside0 (wr.ownsRow w.heap.size 3 1 (.slice (some ⟨gv, 0, none⟩) N cv) N (nums .i64 xs)) ∧ Aside0 (Below w.heap.size w wr)) (fun x _ => N - (intOf x).toNat)
  case atStart => exact ⟨0, u, by omega, rfl, HUL, ⟨fun j hj => by rw [if_neg (by omega)]⟩, HOW, HB2⟩
  case round =>
    clear HOW HO HB2
    obtain ⟨i, xs, hi, rfl, HX, HJ, HO, HB⟩ := hrel
    by_cases hlt : i < N
    · obtain ⟨y, hy⟩ : ∃ y, u.getD i 0 = y := ⟨_, rfl⟩
      obtain ⟨z, hz⟩ : ∃ z, s16 y = z := ⟨_, rfl⟩
      have hyk := HJ.out i hlt
      rw [if_neg (by omega), hy] at hyk
      have hvz := HVU.out i hlt
      rw [hy, hz] at hvz
      have HVZ := Aside0.mk hvz
      have w16 : IntKind.i16.wrap y = z := by rw [wrap_s16, hz]
      have w64 : IntKind.i64.wrap z = z := by rw [← hz]; exact s16_64 y
      have c2 := own_cell HO.out i hlt
      rw [hyk] at c2
      have f2 := (own_free HO.out i hlt).2
      have j0 : (0 : Int) ≤ (i : Int) := by omega
      have j1 : (i : Int) < (N : Int) := by omega
      clear hy hz hyk hvz
      go_wp2
      go_roundw
      case rel =>
        have s2 := own_store HO.out (i : Int) z
        rw [Int.toNat_natCast] at s2
        refine ⟨i + 1, xs.set i z, by omega, by go_num, ⟨by rw [List.length_set, HX.out]⟩, ⟨fun j hj => ?_⟩, ⟨s2.1⟩, ⟨?_⟩⟩
        · by_cases e : j = i
          · subst e
            rw [if_pos (by omega), HVZ.out, List.getD_eq_getElem?_getD, List.getElem?_set_self (by rw [HX.out]; omega)]; rfl
          · have := HJ.out j hj
            rw [List.getD_eq_getElem?_getD] at this ⊢
            rw [List.getElem?_set_ne (fun h' => e h'.symm), this]
            by_cases h2 : j < i
            · rw [if_pos h2, if_pos (by omega)]
            · rw [if_neg h2, if_neg (by omega)]
        · exact Below.setCell HB.out (own_base HO.out gv rfl) _
      case measure => simp [intOf]; omega
    · obtain rfl : N = i := by omega
      have hxv : xs = v := row_ext (by rw [HX.out, HVL.out]) (fun j hj => by rw [HX.out] at hj; rw [HJ.out j hj, if_pos hj])
      have hR0 := Kd.R_of_own (enc := Value.int .i64) (h1 := fun _ => rfl) (ok := fun _ => True) (xs := xs) (by rw [HX.out]; exact HO.out) (fun _ _ => trivial)
      have hC0 := R_C hR0
      rw [hxv] at hC0
      have CV := Aside0.mk hC0
      clear hR0 hC0 HO HX HJ hxv hlt hi
      have w1 : IntKind.i64.wrap ((H : Int) + 1) = (H1 : Int) := by rw [q3, IntKind.wrap_i64]; omega
      have d1 : ((H1 : Int) == (H1 : Int)) = true := by simp
      have d3 : decide ((s : Int) < 0) = false := decide_eq_false (by omega)
      have d4 : decide ((30 : Int) < (s : Int)) = false := decide_eq_false (by omega)
      have ST5 : True := trivial
      go_wp2_with (first
        | (go_at_call 29; clear ST5; (with_reducible refine (HBI.out _ (some ⟨gv, 0, none⟩) cv (HG0.out.below HB.out) CV.out hcv).mono ?_); rintro e_ w4 ⟨AR, cR, AI, cI, rfl, hcR, hcI, CR, CI, B4⟩; have HB4 := Aside0.mk (below_step HB.out B4.out); have CV4 := Aside0.mk (Kd.C_below CV.out B4.out); clear B4 HB CV; have ST6 : True := trivial))
      clear ST6
      go_loopw [14, 15] (fun x14 x wr => ∃ (i : Nat) (M : Int), i ≤ H1 ∧ x = .int .i64 (i : Int) ∧ x14 = .int .i64 M ∧ 0 ≤ M ∧ M ≤ 32768 ∧ Aside0 (∀ j, j < i → re.getD j 0 ≤ M ∧ -(re.getD j 0) ≤ M ∧ im.getD j 0 ≤ M ∧ -(im.getD j 0) ≤ M) ∧ Aside0 ((Kd.int .i64).C wr AR H1 re) ∧ Aside0 ((Kd.int .i64).C wr AI H1 im) ∧ Aside0 ((Kd.int .i64).C wr (some ⟨gv, 0, none⟩) N v) ∧ Aside0 (Below w.heap.size w wr)) (fun _ x _ => H1 - (intOf x).toNat)
      case atStart => exact ⟨0, 0, by omega, rfl, rfl, by omega, by omega, ⟨fun j hj => by omega⟩, CR, CI, CV4, HB4⟩
      case round =>
        clear CR CI CV4 HB4
        obtain ⟨i, M, hi, rfl, rfl, hM0, hM1, HJ, CR, CI, CV, HB⟩ := hrel
        by_cases hlt : i < H1
        · obtain ⟨adR, rfl, hcr⟩ := sp_ad CR.out (by omega)
          obtain ⟨adI, rfl, hci⟩ := sp_ad CI.out (by omega)
          have k0 := hcr i hlt
          have k1 := hci i hlt
          obtain ⟨hb0, hb1⟩ := HSM.out i hlt
          obtain ⟨x, hx⟩ : ∃ x, re.getD i 0 = x := ⟨_, rfl⟩
          obtain ⟨y, hy⟩ : ∃ y, im.getD i 0 = y := ⟨_, rfl⟩
          rw [hx] at k0 hb0
          rw [hy] at k1 hb1
          have HXX := Aside0.mk hx
          have HYY := Aside0.mk hy
          have j0 : (0 : Int) ≤ (i : Int) := by omega
          have j1 : (i : Int) < (H1 : Int) := by omega
          have n0 : IntKind.i64.wrap (0 - x) = -x := by rw [IntKind.wrap_i64]; omega
          have n1 : IntKind.i64.wrap (0 - y) = -y := by rw [IntKind.wrap_i64]; omega
          have n2 : IntKind.i64.wrap (-x) = -x := by rw [IntKind.wrap_i64]; omega
          have n3 : IntKind.i64.wrap (-y) = -y := by rw [IntKind.wrap_i64]; omega
          clear hcr hci hx hy
          obtain ⟨s0, s1, s2, s3, s4, s5, s6⟩ := mx_spec hM0 hM1 hb0 hb1
          have HM0 := Aside0.mk s0
          have HM1 := Aside0.mk s1
          have HM2 := Aside0.mk (And.intro s2 (And.intro s3 (And.intro s4 (And.intro s5 s6))))
          clear s0 s1 s2 s3 s4 s5 s6
          go_wp2
          go_quiet (fail)
          go_wp2
          go_roundw
          case rel =>
            refine ⟨i + 1, mx M x y, by omega, by go_num, rfl, HM0.out, HM1.out, ⟨fun j hj => ?_⟩, ⟨Kd.C_drewN CR.out _⟩, ⟨Kd.C_drewN CI.out _⟩, ⟨Kd.C_drewN CV.out _⟩, ⟨pw_below_drewN HB.out _⟩⟩
            obtain ⟨s2, s3, s4, s5, s6⟩ := HM2.out
            by_cases e : j = i
            · subst e
              rw [HXX.out, HYY.out]
              exact ⟨s3, s4, s5, s6⟩
            · have := HJ.out j (by omega)
              omega
          case measure => simp [intOf]; omega
        · obtain rfl : H1 = i := by omega
          have hM16 : s = 0 ∨ s ≠ 0 ∧ 16384 ≤ M := by
            by_cases h : s = 0
            · exact .inl h
            · refine .inr ⟨h, ?_⟩
              obtain ⟨k, hk, h⟩ := HBG.out h
              have := HJ.out k hk
              omega
          have HN15 := Aside0.mk (norm_15 hM0 hM1)
          obtain ⟨nm, hnm⟩ : ∃ nm, normN [M - 1] = nm := ⟨_, rfl⟩
          have HNM := Aside0.mk hnm
          have hn15 : nm ≤ 15 := by rw [← hnm]; exact HN15.out
          have HRM : Aside0 (Rng [M - 1]) := ⟨fun z hz => by rw [List.mem_singleton] at hz; subst hz; omega⟩
          have wM : IntKind.i64.wrap (M - 1) = M - 1 := by rw [IntKind.wrap_i64]; omega
          have wt : IntKind.i64.wrap ((N : Int) - (t : Int)) = (N : Int) - (t : Int) := by rw [IntKind.wrap_i64]; omega
          have wsa : IntKind.i64.wrap (0 - sa) = -sa := by rw [IntKind.wrap_i64]; omega
          have wsb : IntKind.i64.wrap (-sa) = -sa := by rw [IntKind.wrap_i64]; omega
          have HT0 : Aside0 (-9223372036854775808 ≤ (t : Int) ∧ (t : Int) ≤ 9223372036854775807) := ⟨by omega⟩
          have HT1 : Aside0 (-9223372036854775808 ≤ (N : Int) - (t : Int) ∧ (N : Int) - (t : Int) ≤ 9223372036854775807) := ⟨by omega⟩
          have g1 : decide (M ≤ 32768) = true := decide_eq_true hM1
          have g2 : decide ((nm : Int) ≤ 15) = true := decide_eq_true (by omega)
          have hsb0 := Aside0.mk hsb
          clear HJ CR hlt hi hnm hsb
          rcases hM16 with hs0 | ⟨hs0, hM16⟩
          · subst hs0
            have ST10 : True := trivial
            go_wp2_with (first
              | (go_at_call 28; clear ST10; refine (HSS.out (t : Int) _ (some ⟨gv, 0, none⟩) cv HT0.out (by repeat (first | exact CV.out | refine Kd.C_alloc ?_ _ | refine Kd.C_drewN ?_ _ | refine Kd.C_drew ?_))).mono ?_; rintro e_ w7 ⟨Pa, da, rfl, ha, Ca7, B7⟩; have hb := below_then (show Below wr.heap.size wr _ by repeat (first | exact Below.refl _ _ | apply below_alloc | apply pw_below_drewN | apply below_drew1)) (by simp) B7.out; have CV7 := Aside0.mk (Kd.C_below CV.out hb); have CI7 := Aside0.mk (Kd.C_below CI.out hb); have HB7 := Aside0.mk (below_step HB.out hb); clear hb B7 HB CV CI; have ST11 : True := trivial)
              | (go_at_call 28; clear ST11; refine (HSS.out ((N : Int) - (t : Int)) _ (some ⟨gv, 0, none⟩) cv HT1.out (by repeat (first | exact CV7.out | refine Kd.C_alloc ?_ _ | refine Kd.C_drewN ?_ _ | refine Kd.C_drew ?_))).mono ?_; rintro e_ w8 ⟨Pb, db, rfl, hb1, Cb8, B8⟩; have hb := below_then (show Below w7.heap.size w7 _ by repeat (first | exact Below.refl _ _ | apply below_alloc | apply pw_below_drewN | apply below_drew1)) (by simp) B8.out; have Ca8 := Aside0.mk (Kd.C_below Ca7.out hb); have CI8 := Aside0.mk (Kd.C_below CI7.out hb); have HB8 := Aside0.mk (below_step HB7.out hb); clear hb B8 HB7 CI7 Ca7 CV7; have HG8 := Aside0.mk (HG0.out.below HB8.out); obtain ⟨adI, rfl, hci⟩ := sp_ad CI8.out (by omega); have k1 := hci 0 (by omega); rw [HZ0.out, show adI.add 0 = adI by simp [Addr.add]] at k1; have k2 := hci H (by omega); rw [HZH.out] at k2; clear hci; have ST12 : True := trivial)
              | (go_at_call 30; clear ST12; refine (norm_c _ 1 1 [M - 1] nm _ rfl (by repeat (first | exact lit_c _ [M - 1] (by simp) | refine Kd.C_drewN ?_ _ | refine Kd.C_drew ?_)) (by omega) (by omega) HRM.out HNM.out).mono ?_; rintro e_ wn ⟨rfl, ⟨nd, rfl⟩⟩; have k3 := pw_cell_below (below_alloc (Below.refl w8.heap.size w8) (.cells #[.int .i64 (M - 1)] 3)) k1; have k4 := pw_cell_below (below_alloc (Below.refl w8.heap.size w8) (.cells #[.int .i64 (M - 1)] 3)) k2; have ST13 : True := trivial)
              | (go_at_call 16; clear ST13; (with_reducible refine (real_x Pa H da (spinAt v (t : Int)) ra _ (HG8.out.below (show Below w8.heap.size w8 _ by repeat (first | exact Below.refl _ _ | apply below_alloc | apply pw_below_drewN | apply below_drew1))) (HLA.out _) (by repeat (first | exact Ca8.out | refine Kd.C_alloc ?_ _ | refine Kd.C_drewN ?_ _ | refine Kd.C_drew ?_)) (by omega) HRA.out).mono ?_); rintro e_ wn0 ⟨rfl, ⟨nd0, rfl⟩⟩; have ST14 : True := trivial)
              | (go_at_call 16; clear ST14; (with_reducible refine (real_x Pb H db (spinAt v ((N : Int) - (t : Int))) ra _ (HG8.out.below (show Below w8.heap.size w8 _ by repeat (first | exact Below.refl _ _ | apply below_alloc | apply pw_below_drewN | apply below_drew1))) (HLA.out _) (by repeat (first | exact Cb8.out | refine Kd.C_alloc ?_ _ | refine Kd.C_drewN ?_ _ | refine Kd.C_drew ?_)) (by omega) HRB.out).mono ?_); rintro e_ wn1 ⟨rfl, ⟨nd1, rfl⟩⟩; have ST15 : True := trivial)
              | (go_at_call 17; clear ST15; (with_reducible refine (imag_x Pa H da (spinAt v (t : Int)) (-sa) _ (HG8.out.below (show Below w8.heap.size w8 _ by repeat (first | exact Below.refl _ _ | apply below_alloc | apply pw_below_drewN | apply below_drew1))) (HLA.out _) (by repeat (first | exact Ca8.out | refine Kd.C_alloc ?_ _ | refine Kd.C_drewN ?_ _ | refine Kd.C_drew ?_)) (by omega) HIA.out).mono ?_); rintro e_ wn2 ⟨rfl, ⟨nd2, rfl⟩⟩; have ST16 : True := trivial)
              | (go_at_call 17; clear ST16; (with_reducible refine (imag_x Pb H db (spinAt v ((N : Int) - (t : Int))) sa _ (HG8.out.below (show Below w8.heap.size w8 _ by repeat (first | exact Below.refl _ _ | apply below_alloc | apply pw_below_drewN | apply below_drew1))) (HLA.out _) (by repeat (first | exact Cb8.out | refine Kd.C_alloc ?_ _ | refine Kd.C_drewN ?_ _ | refine Kd.C_drew ?_)) (by omega) HIB.out).mono ?_); rintro e_ wn3 ⟨rfl, ⟨nd3, rfl⟩⟩; have ST17 : True := trivial))
            go_ret
            exact ⟨rfl, by repeat (first | exact HB8.out | apply pw_below_drewN | apply below_drew1 | apply below_alloc)⟩
          · have g3 : ((s : Int) == 0) = false := beq_eq_false_iff_ne.2 (by omega)
            have g4 : decide (16384 ≤ M) = true := decide_eq_true hM16
            have ST10 : True := trivial
            go_wp2_with (first
              | (go_at_call 28; clear ST10; refine (HSS.out (t : Int) _ (some ⟨gv, 0, none⟩) cv HT0.out (by repeat (first | exact CV.out | refine Kd.C_alloc ?_ _ | refine Kd.C_drewN ?_ _ | refine Kd.C_drew ?_))).mono ?_; rintro e_ w7 ⟨Pa, da, rfl, ha, Ca7, B7⟩; have hb := below_then (show Below wr.heap.size wr _ by repeat (first | exact Below.refl _ _ | apply below_alloc | apply pw_below_drewN | apply below_drew1)) (by simp) B7.out; have CV7 := Aside0.mk (Kd.C_below CV.out hb); have CI7 := Aside0.mk (Kd.C_below CI.out hb); have HB7 := Aside0.mk (below_step HB.out hb); clear hb B7 HB CV CI; have ST11 : True := trivial)
              | (go_at_call 28; clear ST11; refine (HSS.out ((N : Int) - (t : Int)) _ (some ⟨gv, 0, none⟩) cv HT1.out (by repeat (first | exact CV7.out | refine Kd.C_alloc ?_ _ | refine Kd.C_drewN ?_ _ | refine Kd.C_drew ?_))).mono ?_; rintro e_ w8 ⟨Pb, db, rfl, hb1, Cb8, B8⟩; have hb := below_then (show Below w7.heap.size w7 _ by repeat (first | exact Below.refl _ _ | apply below_alloc | apply pw_below_drewN | apply below_drew1)) (by simp) B8.out; have Ca8 := Aside0.mk (Kd.C_below Ca7.out hb); have CI8 := Aside0.mk (Kd.C_below CI7.out hb); have HB8 := Aside0.mk (below_step HB7.out hb); clear hb B8 HB7 CI7 Ca7 CV7; have HG8 := Aside0.mk (HG0.out.below HB8.out); obtain ⟨adI, rfl, hci⟩ := sp_ad CI8.out (by omega); have k1 := hci 0 (by omega); rw [HZ0.out, show adI.add 0 = adI by simp [Addr.add]] at k1; have k2 := hci H (by omega); rw [HZH.out] at k2; clear hci; have ST12 : True := trivial)
              | (go_at_call 30; clear ST12; refine (norm_c _ 1 1 [M - 1] nm _ rfl (by repeat (first | exact lit_c _ [M - 1] (by simp) | refine Kd.C_drewN ?_ _ | refine Kd.C_drew ?_)) (by omega) (by omega) HRM.out HNM.out).mono ?_; rintro e_ wn ⟨rfl, ⟨nd, rfl⟩⟩; have k3 := pw_cell_below (below_alloc (Below.refl w8.heap.size w8) (.cells #[.int .i64 (M - 1)] 3)) k1; have k4 := pw_cell_below (below_alloc (Below.refl w8.heap.size w8) (.cells #[.int .i64 (M - 1)] 3)) k2; have ST13 : True := trivial)
              | (go_at_call 16; clear ST13; (with_reducible refine (real_x Pa H da (spinAt v (t : Int)) ra _ (HG8.out.below (show Below w8.heap.size w8 _ by repeat (first | exact Below.refl _ _ | apply below_alloc | apply pw_below_drewN | apply below_drew1))) (HLA.out _) (by repeat (first | exact Ca8.out | refine Kd.C_alloc ?_ _ | refine Kd.C_drewN ?_ _ | refine Kd.C_drew ?_)) (by omega) HRA.out).mono ?_); rintro e_ wn0 ⟨rfl, ⟨nd0, rfl⟩⟩; have ST14 : True := trivial)
              | (go_at_call 16; clear ST14; (with_reducible refine (real_x Pb H db (spinAt v ((N : Int) - (t : Int))) ra _ (HG8.out.below (show Below w8.heap.size w8 _ by repeat (first | exact Below.refl _ _ | apply below_alloc | apply pw_below_drewN | apply below_drew1))) (HLA.out _) (by repeat (first | exact Cb8.out | refine Kd.C_alloc ?_ _ | refine Kd.C_drewN ?_ _ | refine Kd.C_drew ?_)) (by omega) HRB.out).mono ?_); rintro e_ wn1 ⟨rfl, ⟨nd1, rfl⟩⟩; have ST15 : True := trivial)
              | (go_at_call 17; clear ST15; (with_reducible refine (imag_x Pa H da (spinAt v (t : Int)) (-sa) _ (HG8.out.below (show Below w8.heap.size w8 _ by repeat (first | exact Below.refl _ _ | apply below_alloc | apply pw_below_drewN | apply below_drew1))) (HLA.out _) (by repeat (first | exact Ca8.out | refine Kd.C_alloc ?_ _ | refine Kd.C_drewN ?_ _ | refine Kd.C_drew ?_)) (by omega) HIA.out).mono ?_); rintro e_ wn2 ⟨rfl, ⟨nd2, rfl⟩⟩; have ST16 : True := trivial)
              | (go_at_call 17; clear ST16; (with_reducible refine (imag_x Pb H db (spinAt v ((N : Int) - (t : Int))) sa _ (HG8.out.below (show Below w8.heap.size w8 _ by repeat (first | exact Below.refl _ _ | apply below_alloc | apply pw_below_drewN | apply below_drew1))) (HLA.out _) (by repeat (first | exact Cb8.out | refine Kd.C_alloc ?_ _ | refine Kd.C_drewN ?_ _ | refine Kd.C_drew ?_)) (by omega) HIB.out).mono ?_); rintro e_ wn3 ⟨rfl, ⟨nd3, rfl⟩⟩; have ST17 : True := trivial))
            go_ret
            exact ⟨rfl, by repeat (first | exact HB8.out | apply pw_below_drewN | apply below_drew1 | apply below_alloc)⟩
theorem earshotlaw10_FftBlock.calls (A0 : Option Addr) (c0 : Nat) (l0 : List Int) (a1 a2 : Int) (r : Bool) (w : World) (hG : GlobA w) (hr0 : Kd.C (Kd.int .i64) w A0 l0.length l0) (hc0 : l0.length ≤ c0) (h : earshotlaw10_FftBlock.f l0 a1 a2 = some r) :
    Calls Tryd.prog 11 #[.slice A0 l0.length c0, .int .i64 a1, .int .i64 a2] w fun e w' => e = .returned (.bool r) ∧ Below w.heap.size w w' := by
  unfold earshotlaw10_FftBlock.f at h
  split at h
  case isFalse => cases h
  rename_i hz
  obtain rfl := Option.some.inj h
  simp only [Bool.and_eq_true, decide_eq_true_eq, List.all_eq_true] at hz
  exact block_go A0 _ c0 _ _ _ _ l0 _ _ _ _ a1 a2 w hG rfl hr0 hc0 hz.1 (fun x hx => hz.2 x hx) rfl rfl rfl rfl rfl rfl rfl rfl

/-- THE ONE PURE STATEMENT of earshotlaw10_FftBlock: yours. -/
def earshotlaw10_FftBlock.Pure : Prop := ∀ (l0 : List Int) (a1 : Int) (a2 : Int), l0.length ≤ maxLen → l0.length * 8 ≤ 140737488351232 → (∀ x ∈ l0, (Lit.int .i64 x).wf = true) → (Lit.int .i64 a1).wf = true → (Lit.int .i64 a2).wf = true → earshotlaw10_FftBlock.f l0 a1 a2 = some true
theorem earshotlaw10_FftBlock.walk (P : earshotlaw10_FftBlock.Pure) (a0 : Option Addr) (len0 cap0 : Nat) (z0 : List Int) (a1 : Int) (a2 : Int) (w : World) (w0 : (a0 = none ∧ len0 = 0 ∧ cap0 = 0 ∧ z0 = []) ∨ ∃ x, a0 = some x ∧ len0 ≤ cap0 ∧ cap0 ≤ maxLen ∧ z0.length = cap0 ∧ (∀ i, i < z0.length → w.cell? (x.add i) = some (.int .i64 (z0.getD i 0))) ∧ ∀ n ∈ z0, (Lit.int .i64 n).wf = true) (y0 : len0 * 8 ≤ 140737488351232) (w1 : (Lit.int .i64 a1).wf = true) (w2 : (Lit.int .i64 a2).wf = true) (hG : GlobA w) :
    Calls Tryd.prog 11 #[.slice a0 len0 cap0, .int .i64 a1, .int .i64 a2] w fun e w' => e = .returned (.bool true) ∧ Below w.heap.size w w' := by
  obtain ⟨l0, rfl, hr0, hm0, hw0, hc0⟩ := ReadsInt.ofRowC w0
  have h := P l0 a1 a2 hm0 y0 hw0 w1 w2
  refine (earshotlaw10_FftBlock.calls _ _ l0 a1 a2 true w hG (Kd.C_of_reads (d := (0 : Int)) (h1 := fun _ => rfl) hr0) hc0 h).mono ?_
  rintro e w' ⟨rfl, hd⟩
  exact ⟨rfl, hd⟩

end Go.Proofs.YtphmfecabbellaaDoor.PFftBlock
