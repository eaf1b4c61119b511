-- Written by a program of this work (wip/tools) for this claim; Lean checks it.
import Derived.Test.YtphmfecabbellaaDoorPFftSumsx0
import Derived.Test.YtphmfecabbellaaDoorPFftSumsx1
import Derived.Test.YtphmfecabbellaaDoorPFftSumsx2
import Derived.Test.YtphmfecabbellaaDoorPFftSumsx4
import Derived.Test.YtphmfecabbellaaDoorPFftSumsx5
namespace Go.Proofs.YtphmfecabbellaaDoor.PFftSums
open Go.RowKit Go.Proofs.YtphmfecabbellaaDoorW.PrintWords Go.Proofs.YtphmfecabbellaaDoorW.PrintLast Go.Proofs.YtphmfecabbellaaDoorW.PrintMore
attribute [local go_sem] max2_int min2_int max_two min_two max_three min_three max_four min_four   -- for this text's walks alone
set_option linter.unusedVariables false
set_option linter.unusedSimpArgs false

/-! ### earshotlaw10_FftSums: function 10 -/
-- PURE intro l0 l1 s k _ h8 hw _ h81 hw1 hs hk; unfold earshotlaw10_FftSums.f; rw [if_pos]; simp only [Bool.and_eq_true, decide_eq_true_eq, List.all_eq_true]; exact ⟨⟨⟨by omega, fun x hx => wf_i64 (hw x hx)⟩, by omega⟩, fun x hx => wf_i64 (hw1 x hx)⟩
/-- A call's result is a row that reads as xs; the world is as it was, but for what is new. -/
def CRes (w0 W : World) (h : Nat) (xs : List Int) (e : Ending) (w' : World) : Prop :=
  ∃ A c, e = .returned (.slice A h c) ∧ h ≤ c ∧ Aside0 ((Kd.int .i64).C w' A h xs) ∧ Aside0 (Below w0.heap.size w0 w') ∧ Aside0 (Below W.heap.size W w')
theorem cres_of {w0 W w' : World} {h : Nat} {xs : List Int} {v : Value} {t b : Nat} {ok : Nat → Prop} (hB : Below w0.heap.size w0 W) (hR : (Kd.int .i64).R t w' b ok v xs) (hl : xs.length = h) (hb : Below W.heap.size W w') : CRes w0 W h xs (.returned v) w' := by
  subst hl
  obtain ⟨A, c, rfl, h1, h2⟩ := Kd.R_reads hR
  exact ⟨A, c, rfl, h1, ⟨h2⟩, ⟨below_step hB hb⟩, ⟨hb⟩⟩
theorem same_go (l : List Int) (hl : l.length ≤ 100000000) (d : Nat) : ∀ (k i : Nat), i ≤ l.length → l.length - i = d → d < k → earshotref04_Same.l0 k l l (i : Int) = some true := by
  induction d with
  | zero =>
    intro k i h0 hd hk
    obtain ⟨k, rfl⟩ : ∃ m, k = m + 1 := ⟨k - 1, by omega⟩
    simp only [earshotref04_Same.l0]
    rw [if_neg (by omega)]
  | succ d ih =>
    intro k i h0 hd hk
    obtain ⟨k, rfl⟩ : ∃ m, k = m + 1 := ⟨k - 1, by omega⟩
    simp only [earshotref04_Same.l0]
    have hw : wrap64 ((i : Int) + 1) = ((i + 1 : Nat) : Int) := by unfold wrap64; omega
    rw [if_pos (by omega), if_pos (by omega), if_pos (by omega), if_pos trivial, hw]
    exact ih k (i + 1) (by omega) (by omega) (by omega)
theorem same_f (l : List Int) (hl : l.length ≤ 100000000) : earshotref04_Same.f (l.length + 1) l l = some true := by
  unfold earshotref04_Same.f
  rw [if_pos rfl]
  exact same_go l hl l.length _ 0 (by omega) (by omega) (by omega)
/-- Two rows that read the same. -/
theorem same_c {w0 : World} (A1 : Option Addr) (h c1 : Nat) (A2 : Option Addr) (c2 : Nat) (l1 l2 : List Int) (W : World) (hB : Below w0.heap.size w0 W) (hl : l1.length = h) (he : l1 = l2) (hC1 : (Kd.int .i64).C W A1 h l1) (hC2 : (Kd.int .i64).C W A2 h l2) (h1 : h ≤ c1) (h2 : h ≤ c2) (hh : h ≤ 1000000) :
    Calls Tryd.prog 19 #[.slice A1 h c1, .slice A2 h c2] W fun e w' => e = .returned (.bool true) ∧ Aside0 (Below w0.heap.size w0 w') ∧ Aside0 (Below W.heap.size W w') := by
  subst he
  subst hl
  exact (earshotref04_Same.calls _ A1 c1 l1 A2 c2 l1 true W hC1 h1 hC2 h2 (same_f l1 (by omega))).mono fun e w' ⟨a, ⟨n, b⟩⟩ => by
    subst b
    exact ⟨a, ⟨pw_below_drewN hB n⟩, ⟨pw_below_drewN (Below.refl _ _) n⟩⟩
theorem zeros_c (X : World) (g n : Nat) (hg : g = X.heap.size) (hn : n ≤ 1000000) : (Kd.int .i64).C (X.alloc (.cells (madeCells #[.int .i64 0] n) 3)) (some ⟨g, 0, none⟩) n (List.replicate n 0) := by
  subst hg
  have h := own_made X X.heap.size 3 .i64 n (Nat.le_refl _) (by omega)
  have hR := Kd.R_of_own (enc := Value.int .i64) (h1 := fun _ => rfl) (ok := fun _ => True) (xs := List.replicate n 0) (by rw [List.length_replicate]; exact h) (fun _ _ => trivial)
  obtain ⟨A, c, he, _, h2⟩ := Kd.R_reads hR
  rw [List.length_replicate] at he h2
  injection he with e1 e2 e3
  rw [e1]
  exact h2
/-- A callee that draws only, in a region that is walked once, in a world that has drawn before. -/
theorem quiet_add {P : Program} {f : FuncId} {args : Array Value} {W : World} {K x : Nat} {v : Value} (h : Calls P f args (W.drewN (K + x)) fun e w' => e = .returned v ∧ Drawn0 (W.drewN (K + x)) w') :
    Calls P f args (W.drewN (K + x)) fun e w'' => e = .returned v ∧ ∃ n, w'' = W.drewN (K + n) :=
  h.mono fun _ _ ⟨he, ⟨m, hm⟩⟩ => ⟨he, x + m, by rw [hm, World.drewN_drewN, Nat.add_assoc]⟩
/-- .. likewise, in a world that is named by one count. -/
theorem quiet_d {P : Program} {f : FuncId} {args : Array Value} {W : World} {x : Nat} {v : Value} (h : Calls P f args (W.drewN x) fun e w' => e = .returned v ∧ Drawn0 (W.drewN x) w') :
    Calls P f args (W.drewN x) fun e w'' => e = .returned v ∧ ∃ n, w'' = W.drewN n :=
  h.mono fun _ _ ⟨he, ⟨m, hm⟩⟩ => ⟨he, x + m, by rw [hm, World.drewN_drewN]⟩

theorem sizeOf_may (a : Int) : fftMay (sizeOf_ a) = true := by
  have m0 := Int.emod_nonneg a (show (6 : Int) ≠ 0 by decide)
  have m1 := Int.emod_lt_of_pos a (show (0 : Int) < 6 by decide)
  have h : a % 6 = 0 ∨ a % 6 = 1 ∨ a % 6 = 2 ∨ a % 6 = 3 ∨ a % 6 = 4 ∨ a % 6 = 5 := by omega
  unfold sizeOf_
  rcases h with h | h | h | h | h | h <;> rw [h] <;> decide
theorem sizedL_in {n : Nat} {l : List Int} (h : In64 l) : In64 (sizedL n l) := by
  intro x hx
  simp only [sizedL, List.mem_map] at hx
  obtain ⟨i, _, rfl⟩ := hx
  rw [← h.getD]
  exact ⟨W_lo _, W_hi _⟩
theorem sized_c (A0 : Option Addr) (m c0 N : Nat) (l0 v : List Int) (a : Int) (W : World) (hl : l0.length = m) (hC : (Kd.int .i64).C W A0 m l0) (hmc : m ≤ c0) (hm : m ≤ 4000000000000000000) (hN : sizeOf_ a = N) (hv : sizedL N l0 = v) :
    Calls Tryd.prog 25 #[.slice A0 m c0, .int .i64 a] W fun e w' => ∃ A c, e = .returned (.slice A N c) ∧ N ≤ c ∧ Aside0 ((Kd.int .i64).C w' A N v) ∧ Aside0 (Below W.heap.size W w') := by
  subst hl
  refine (earshotlaw10_sized.calls A0 c0 l0 a _ W hC hmc (by unfold earshotlaw10_sized.f; rw [if_pos (by simpa using hm)])).mono ?_
  rintro e w' ⟨v0, rfl, hR, hB⟩
  obtain ⟨A, c, rfl, h1, h2⟩ := Kd.R_reads hR
  rw [hN, hv] at h1 h2 ⊢
  have hvl : v.length = N := by rw [← hv, sizedL_length]
  rw [hvl] at h1 h2 ⊢
  exact ⟨A, c, rfl, h1, ⟨h2⟩, ⟨hB⟩⟩
theorem i64_mask (i : Nat) (hi : i ≤ 62) (n m : Int) (hm : m = ((2 ^ i - 1 : Nat) : Int)) : Go.bits .and .i64 n m = n % ((2 ^ i : Nat) : Int) := by
  have hp : 0 < 2 ^ i := Nat.two_pow_pos i
  have hle : 2 ^ i ≤ 4611686018427387904 := Nat.pow_le_pow_right (n := 2) (by decide) hi
  have h1 : (BitVec.ofInt 64 m).toNat = 2 ^ i - 1 := by
    subst hm
    rw [BitVec.ofInt_natCast, BitVec.toNat_ofNat]
    exact Nat.mod_eq_of_lt (by omega)
  have key : (BitVec.ofInt 64 n &&& BitVec.ofInt 64 m).toNat = (n % ((2 ^ 64 : Nat) : Int)).toNat % 2 ^ i := by
    rw [BitVec.toNat_and, BitVec.toNat_ofInt, h1, Nat.and_two_pow_sub_one_eq_mod]
  show IntKind.i64.wrap ((BitVec.ofInt 64 n &&& BitVec.ofInt 64 m).toNat : Nat) = n % _
  rw [key, IntKind.wrap_i64]
  have r0 : 0 ≤ n % ((2 ^ 64 : Nat) : Int) := Int.emod_nonneg _ (by decide)
  have e : (((n % ((2 ^ 64 : Nat) : Int)).toNat % 2 ^ i : Nat) : Int) = n % ((2 ^ i : Nat) : Int) := by
    rw [Int.natCast_emod, Int.toNat_of_nonneg r0]
    refine Int.emod_emod_of_dvd _ ?_
    exact Int.natCast_dvd_natCast.2 (Nat.pow_dvd_pow 2 (by omega))
  rw [e]
  generalize hz : n % ((2 ^ i : Nat) : Int) = z
  have m0 : 0 ≤ z := hz ▸ Int.emod_nonneg _ (by omega)
  have m1 : z < ((2 ^ i : Nat) : Int) := hz ▸ Int.emod_lt_of_pos _ (by omega)
  have hle' : ((2 ^ i : Nat) : Int) ≤ 4611686018427387904 := Int.ofNat_le.2 hle
  have m2 : z < 4611686018427387904 := Int.lt_of_lt_of_le m1 hle'
  clear m1 hle' hle hz e key h1
  omega

theorem mask_may (N : Nat) (hm : fftMay N = true) (a : Int) : ∃ t : Nat, t < N ∧ (t : Int) = a % (N : Int) ∧ Go.bits .and .i64 a ((N : Int) - 1) = (t : Int) := by
  have hN : 2 ≤ N := by rcases fftMay_cases hm with rfl | rfl | rfl | rfl | rfl | rfl <;> omega
  have m0 := Int.emod_nonneg a (show (N : Int) ≠ 0 by omega)
  have m1 := Int.emod_lt_of_pos a (show (0 : Int) < (N : Int) by omega)
  obtain ⟨t, ht⟩ := Int.eq_ofNat_of_zero_le m0
  refine ⟨t, by omega, ht.symm, ?_⟩
  rw [← ht]
  rcases fftMay_cases hm with rfl | rfl | rfl | rfl | rfl | rfl
  · exact i64_mask 1 (by decide) a 1 rfl
  · exact i64_mask 2 (by decide) a 3 rfl
  · exact i64_mask 3 (by decide) a 7 rfl
  · exact i64_mask 4 (by decide) a 15 rfl
  · exact i64_mask 5 (by decide) a 31 rfl
  · exact i64_mask 6 (by decide) a 63 rfl
theorem turn_x (A : Option Addr) (h c : Nat) (l : List Int) (k : Int) (W : World) (hl : l.length = h) (hC : (Kd.int .i64).C W A h l) (hh : h ≤ 1000000) (k0 : -9223372036854775808 ≤ k) (k1 : k ≤ 9223372036854775807) :
    Calls Tryd.prog 15 #[.slice A h c, .int .i64 k] W fun e w' => ∃ B d, e = .returned (.slice B h d) ∧ h ≤ d ∧ Aside0 ((Kd.int .i64).C w' B h (turnL l k)) ∧ Aside0 (Below W.heap.size W w') := by
  refine (turn_go A h c l k W hl hC hh k0 k1).mono ?_
  rintro e w' ⟨v, rfl, hR, hb⟩
  have hL : (turnL l k).length = h := by rw [turnL_length, hl]
  obtain ⟨B, d, rfl, h1, h2⟩ := Kd.R_reads hR
  rw [hL] at h1 h2 ⊢
  exact ⟨B, d, rfl, h1, ⟨h2⟩, ⟨hb⟩⟩
theorem add2_x (g : Nat) (A1 A2 : Option Addr) (h c1 c2 : Nat) (l1 l2 : List Int) (W : World) (hg : W.heap[g]? = some (.cells #[.slice A1 h c1, .slice A2 h c2] 22 (0, 0))) (hl1 : l1.length = h) (hl2 : l2.length = h) (hC1 : (Kd.int .i64).C W A1 h l1) (hC2 : (Kd.int .i64).C W A2 h l2) (h1 : h ≤ c1) (h2 : h ≤ c2) (hh : h ≤ 1000000) (hin : In64 l1) :
    Calls Tryd.prog 20 #[.slice (some ⟨g, 0, none⟩) 2 2] W fun e w' => ∃ B d, e = .returned (.slice B h d) ∧ h ≤ d ∧ Aside0 ((Kd.int .i64).C w' B h (addL l1 l2)) ∧ Aside0 (Below W.heap.size W w') := by
  refine (add2_r g A1 A2 h c1 c2 l1 l2 W hg hl1 hl2 hC1 hC2 h1 h2 hh hin).mono ?_
  rintro e w' ⟨v, rfl, hR, hb⟩
  have hL : (addL l1 l2).length = h := by rw [addL_length (by rw [hl1, hl2]), hl1]
  obtain ⟨B, d, rfl, h1, h2⟩ := Kd.R_reads hR
  rw [hL] at h1 h2 ⊢
  exact ⟨B, d, rfl, h1, ⟨h2⟩, ⟨hb⟩⟩

theorem spin_add (v u : List Int) (h : v.length = u.length) (hv : In64 v) (hu : In64 u) (k : Int) : spinAt (addL v u) k = addL (spinAt v k) (spinAt u k) := by
  have hl : (addL v u).length = v.length := addL_length h
  have e : (spinAt v k).length = (spinAt u k).length := by rw [spinAt_length, spinAt_length, h]
  refine row_ext (by rw [addL_length e, spinAt_length, spinAt_length, hl]) (fun j hj => ?_)
  rw [spinAt_length, hl] at hj
  rw [addL_getD e j (by rw [spinAt_length]; exact hj)]
  unfold spinAt
  rw [hl, ← h, psRow_getD _ _ _ _ _ hj, psRow_getD _ _ _ _ _ hj, psRow_getD _ _ _ _ _ hj, W_W_add, W_add_W]
  unfold psS
  rw [← S_add]
  have e2 : S v.length (fun i => (addL v u).getD i 0 * psi (v.length / 2) ((j : Int) - k % (v.length : Int) * (i : Int))) = S v.length (fun i => wrap64 (v.getD i 0 + u.getD i 0) * psi (v.length / 2) ((j : Int) - k % (v.length : Int) * (i : Int))) := S_congr (fun i hi => by rw [addL_getD h i hi])
  rw [e2, W_S_mul]
  congr 1
  exact S_congr (fun i _ => by rw [Int.add_mul])
/-- Moved round by one. -/
def movedL (v : List Int) : List Int := v.drop (v.length - 1) ++ v.take (v.length - 1)
theorem movedL_length (v : List Int) : (movedL v).length = v.length := by simp [movedL]
theorem movedL_zero (v : List Int) (h : 0 < v.length) : (movedL v).getD 0 0 = v.getD (v.length - 1) 0 := by
  unfold movedL
  rw [List.getD_eq_getElem?_getD, List.getElem?_append_left (by rw [List.length_drop]; omega), List.getElem?_drop, List.getD_eq_getElem?_getD]; rfl
theorem movedL_succ (v : List Int) (i : Nat) (h : i + 1 < v.length) : (movedL v).getD (i + 1) 0 = v.getD i 0 := by
  unfold movedL
  rw [List.getD_eq_getElem?_getD, List.getElem?_append_right (by rw [List.length_drop]; omega), List.length_drop, List.getElem?_take, if_pos (by omega), List.getD_eq_getElem?_getD]
  congr 2; omega
theorem movedL_in (v : List Int) (hv : In64 v) : In64 (movedL v) := by
  intro x hx
  unfold movedL at hx
  rcases List.mem_append.1 hx with h | h
  · exact hv x (List.mem_of_mem_drop h)
  · exact hv x (List.mem_of_mem_take h)
theorem spin_moved (v : List Int) (hm : fftMay v.length = true) (t : Nat) (ht : t < v.length) : spinAt (movedL v) (t : Int) = turnL (spinAt v (t : Int)) (t : Int) := by
  obtain ⟨H, hH⟩ : ∃ H, v.length / 2 = H := ⟨_, rfl⟩
  have hN : v.length = 2 * H ∧ 0 < H := by rcases fftMay_cases hm with h | h | h | h | h | h <;> omega
  obtain ⟨hN, h0⟩ := hN
  unfold spinAt
  rw [movedL_length, hH, Int.emod_eq_of_lt (by omega) (by omega), turn_ps h0]
  obtain ⟨n, hn⟩ : ∃ n, v.length = n + 1 := ⟨v.length - 1, by omega⟩
  have e0 : ∀ j : Nat, psS H (fun i => (movedL v).getD i 0) (fun i => (t : Int) * (i : Int)) v.length (j : Int) = psS H (fun i => v.getD i 0) (fun i => (t : Int) * (i : Int) + (t : Int)) v.length (j : Int) := by
    intro j
    have z0 := movedL_zero v (by omega)
    have z1 : ∀ i, i < n → (movedL v).getD (i + 1) 0 = v.getD i 0 := fun i hi => movedL_succ v i (by omega)
    have hp : psi H ((j : Int) - ((t : Int) * (n : Int) + (t : Int))) = psi H (j : Int) := by
      have e : (t : Int) * (n : Int) + (t : Int) = ((t * (2 * H) : Nat) : Int) := by
        rw [← hN, hn, Int.natCast_mul, Int.natCast_add, Int.mul_add]; omega
      rw [e, psi_per]
    rw [show v.length - 1 = n by omega] at z0
    rw [hn]
    unfold psS
    rw [S_front]
    show _ + _ = S n _ + v.getD n 0 * psi H ((j : Int) - ((t : Int) * (n : Int) + (t : Int)))
    rw [hp, Int.add_comm]
    congr 1
    · refine S_congr (fun i hi => ?_)
      show (movedL v).getD (i + 1) 0 * psi H ((j : Int) - (t : Int) * ((i + 1 : Nat) : Int)) = v.getD i 0 * psi H ((j : Int) - ((t : Int) * (i : Int) + (t : Int)))
      rw [z1 i hi, Int.natCast_add, Int.mul_add]
      congr 3
      omega
    · show (movedL v).getD 0 0 * psi H ((j : Int) - (t : Int) * ((0 : Nat) : Int)) = _
      rw [z0, show (j : Int) - (t : Int) * ((0 : Nat) : Int) = (j : Int) by simp]
  unfold psRow
  congr 1
  funext j
  congr 1
  exact e0 j
theorem spin_unit (N : Nat) (hm : fftMay N = true) (t : Int) : spinAt ((List.replicate N (0 : Int)).set 0 1) t = ((List.replicate N (0 : Int)).set 0 1).take (N / 2) := by
  obtain ⟨H, hH⟩ : ∃ H, N / 2 = H := ⟨_, rfl⟩
  have hN : N = 2 * H ∧ 0 < H := by rcases fftMay_cases hm with h | h | h | h | h | h <;> omega
  obtain ⟨hN, h0⟩ := hN
  have hl : ((List.replicate N (0 : Int)).set 0 1).length = N := by simp
  have g0 : ((List.replicate N (0 : Int)).set 0 1).getD 0 0 = 1 := by rw [List.getD_eq_getElem?_getD, List.getElem?_set_self (by simp; omega)]; rfl
  have g1 : ∀ i, i ≠ 0 → ((List.replicate N (0 : Int)).set 0 1).getD i 0 = 0 := by
    intro i hi
    rw [List.getD_eq_getElem?_getD, List.getElem?_set_ne (fun h => hi h.symm), List.getElem?_replicate]
    split <;> rfl
  refine row_ext (by rw [spinAt_length, List.length_take, hl]; omega) (fun j hj => ?_)
  rw [spinAt_length, hl, hH] at hj
  have e2 : (((List.replicate N (0 : Int)).set 0 1).take (N / 2)).getD j 0 = if j = 0 then 1 else 0 := by
    rw [List.getD_eq_getElem?_getD, List.getElem?_take, if_pos (by omega), ← List.getD_eq_getElem?_getD]
    by_cases h : j = 0
    · subst h; rw [g0, if_pos rfl]
    · rw [g1 j h, if_neg h]
  rw [e2]
  unfold spinAt
  rw [hl, hH, psRow_getD _ _ _ _ _ hj]
  unfold psS
  rw [S_one (k := 0) (by omega) (fun i _ hi => by show ((List.replicate N (0 : Int)).set 0 1).getD i 0 * _ = 0; rw [g1 i hi, Int.zero_mul])]
  show wrap64 (((List.replicate N (0 : Int)).set 0 1).getD 0 0 * psi H ((j : Int) - t % (N : Int) * ((0 : Nat) : Int))) = _
  rw [g0, Int.one_mul, show (j : Int) - t % (N : Int) * ((0 : Nat) : Int) = (j : Int) by simp]
  unfold psi
  rw [Int.emod_eq_of_lt (by omega) (by omega)]
  by_cases h : j = 0
  · subst h; rw [if_pos (show ((0 : Nat) : Int) = 0 from rfl), if_pos rfl]; exact W_in (by decide) (by decide)
  · rw [if_neg (by omega), if_neg (by omega), if_neg h]; exact W_in (by decide) (by decide)

def earshotlaw10_FftSums.f (l0 l1 : List Int) (a2_0 a2_1 : Int) : Option (Bool) := if decide (l0.length ≤ 4000000000000000000) && l0.all (fun x => decide (-9223372036854775808 ≤ x) && decide (x ≤ 9223372036854775807)) && decide (l1.length ≤ 4000000000000000000) && l1.all (fun x => decide (-9223372036854775808 ≤ x) && decide (x ≤ 9223372036854775807)) then some true else none
theorem nums_one' {xs : List Int} {u : Value} (h : u ∈ nums .i64 xs) : u.oneCell' = true := by
  obtain ⟨x, _, rfl⟩ := List.mem_map.1 h
  rfl
theorem same_y (A1 A2 : Option Addr) (h c1 c2 : Nat) (l1 l2 : List Int) (W : World) (hl : l1.length = h) (he : l1 = l2) (hC1 : (Kd.int .i64).C W A1 h l1) (hC2 : (Kd.int .i64).C W A2 h l2) (h1 : h ≤ c1) (h2 : h ≤ c2) (hh : h ≤ 1000000) :
    Calls Tryd.prog 19 #[.slice A1 h c1, .slice A2 h c2] W fun e w' => e = .returned (.bool true) ∧ Aside0 (Below W.heap.size W w') :=
  (same_c (w0 := W) A1 h c1 A2 c2 l1 l2 W (Below.refl _ _) hl he hC1 hC2 h1 h2 hh).mono fun e w' ⟨a, b, _⟩ => ⟨a, b⟩
theorem take_y {W : World} {A : Option Addr} {n h : Nat} {l : List Int} (hl : l.length = n) (hh : h ≤ n) (hC : (Kd.int .i64).C W A n l) : (Kd.int .i64).C W A h (l.take h) := by
  subst hl
  have := Kd.C_take hC (m := h) (by omega)
  rwa [show (l.take h).length = h by rw [List.length_take]; omega] at this
theorem news_one {W X : World} {ad : Addr} {x : Value} (h : W.cell? ad = some x) (hb : Below W.heap.size W X) : ∀ (j : Nat) (u : Value), ([x] : List Value)[j]? = some u → X.cell? (ad.add j) = some u := by
  intro j u hu
  cases j with
  | zero =>
    have hu' : x = u := by simpa using hu
    subst hu'
    rw [show ad.add 0 = ad by simp [Addr.add]]
    exact pw_cell_below hb h
  | succ j => simp at hu
theorem news_take {W X : World} {ad : Addr} {v : List Int} {n N : Nat} (hl : v.length = N) (hn : n ≤ N) (h : ∀ j : Nat, j < N → W.cell? (ad.add j) = some (.int .i64 (v.getD j 0))) (hb : Below W.heap.size W X) : ∀ (j : Nat) (u : Value), (nums .i64 (v.take n))[j]? = some u → X.cell? (ad.add j) = some u := by
  intro j u hu
  have hj : j < n := by
    have := (List.getElem?_eq_some_iff.1 hu).1
    simp [nums] at this; omega
  have e : u = .int .i64 (v.getD j 0) := by
    have hu2 : ((v.take n).map (Value.int .i64))[j]? = some u := hu
    rw [List.getElem?_map, List.getElem?_take, if_pos hj, List.getElem?_eq_getElem (by omega)] at hu2
    rw [List.getD_eq_getElem?_getD, List.getElem?_eq_getElem (by omega)]
    simpa using hu2.symm
  rw [e]
  exact pw_cell_below hb (h j (by omega))
set_option maxHeartbeats 64000000 in
set_option maxRecDepth 100000 in
theorem fsums_go (A0 A1 : Option Addr) (m c0 m1 c1 N H : Nat) (l0 l1 v u : List Int) (s k : Int) (w : World) (hG : GlobA w) (hl : l0.length = m) (hC : (Kd.int .i64).C w A0 m l0) (hmc : m ≤ c0) (hm : m ≤ 4000000000000000000) (hin : In64 l0) (hl1 : l1.length = m1) (hC1 : (Kd.int .i64).C w A1 m1 l1) (hmc1 : m1 ≤ c1) (hm1 : m1 ≤ 4000000000000000000) (hin1 : In64 l1) (hN : sizeOf_ s = N) (hH : N / 2 = H) (hv : sizedL N l0 = v) (hu : sizedL N l1 = u) :
    Calls Tryd.prog 10 #[.slice A0 m c0, .slice A1 m1 c1, .agg #[.int .i64 s, .int .i64 k]] w fun e w' => e = .returned (.bool true) ∧ Below w.heap.size w w' := by
  have hmay := sizeOf_may s
  rw [hN] at hmay
  have hvl : v.length = N := by rw [← hv, sizedL_length]
  have hul : u.length = N := by rw [← hu, sizedL_length]
  have hvin : In64 v := by rw [← hv]; exact sizedL_in hin
  have huin : In64 u := by rw [← hu]; exact sizedL_in hin1
  have hN64 : 2 ≤ N ∧ N ≤ 64 ∧ H ≤ 32 ∧ H ≤ N := by rcases fftMay_cases hmay with rfl | rfl | rfl | rfl | rfl | rfl <;> omega
  obtain ⟨hN2, hN64, hH32, hHN⟩ := hN64
  obtain ⟨t, ht, htm, hmask⟩ := mask_may N hmay k
  have HSZ0 : Aside0 (∀ W : World, (Kd.int .i64).C W A0 m l0 → Calls Tryd.prog 25 #[.slice A0 m c0, .int .i64 s] W fun e w' => ∃ A c, e = .returned (.slice A N c) ∧ N ≤ c ∧ Aside0 ((Kd.int .i64).C w' A N v) ∧ Aside0 (Below W.heap.size W w')) := ⟨fun W h => sized_c A0 m c0 N l0 v s W hl h hmc hm hN hv⟩
  have HSZ1 : Aside0 (∀ W : World, (Kd.int .i64).C W A1 m1 l1 → Calls Tryd.prog 25 #[.slice A1 m1 c1, .int .i64 s] W fun e w' => ∃ A c, e = .returned (.slice A N c) ∧ N ≤ c ∧ Aside0 ((Kd.int .i64).C w' A N u) ∧ Aside0 (Below W.heap.size W w')) := ⟨fun W h => sized_c A1 m1 c1 N l1 u s W hl1 h hmc1 hm1 hN hu⟩
  have t0 : -9223372036854775808 ≤ (t : Int) := by omega
  have t1 : (t : Int) ≤ 9223372036854775807 := by omega
  have HSS : Aside0 (∀ (x : List Int) (W : World) (A : Option Addr) (c : Nat), x.length = N → In64 x → (Kd.int .i64).C W A N x → Calls Tryd.prog 28 #[.int .i64 (t : Int), .slice A N c] W fun e w' => ∃ B d, e = .returned (.slice B H d) ∧ H ≤ d ∧ Aside0 ((Kd.int .i64).C w' B H (spinAt x (t : Int))) ∧ Aside0 (Below W.heap.size W w')) := ⟨fun x W A c hx hxi h => sum_go (t : Int) N H c A x W hx h hxi hmay hH t0 t1⟩
  have HBL : Aside0 ((addL v u).length = N) := ⟨by rw [addL_length (by rw [hvl, hul]), hvl]⟩
  have HBI : Aside0 (In64 (addL v u)) := ⟨addL_in _ _⟩
  have HML : Aside0 ((movedL v).length = N) := ⟨by rw [movedL_length, hvl]⟩
  have HMI : Aside0 (In64 (movedL v)) := ⟨movedL_in v hvin⟩
  have HE1 : Aside0 (spinAt (addL v u) (t : Int) = addL (spinAt v (t : Int)) (spinAt u (t : Int))) := ⟨spin_add v u (by rw [hvl, hul]) hvin huin _⟩
  have HE2 : Aside0 (spinAt (movedL v) (t : Int) = turnL (spinAt v (t : Int)) (t : Int)) := ⟨spin_moved v (by rw [hvl]; exact hmay) t (by rw [hvl]; exact ht)⟩
  have HE3 : Aside0 (spinAt ((List.replicate N (0 : Int)).set 0 1) (t : Int) = ((List.replicate N (0 : Int)).set 0 1).take H) := ⟨by rw [← hH]; exact spin_unit N hmay _⟩
  have HLS : Aside0 (∀ x : List Int, x.length = N → (spinAt x (t : Int)).length = H) := ⟨fun x hx => by rw [spinAt_length, hx, hH]⟩
  have HIS : Aside0 (∀ x : List Int, In64 (spinAt x (t : Int))) := ⟨fun x => psRow_in _ _ _ _⟩
  have HUL : Aside0 (((List.replicate N (0 : Int)).set 0 1).length = N) := ⟨by simp⟩
  have HUI : Aside0 (In64 ((List.replicate N (0 : Int)).set 0 1)) := ⟨fun x hx => by
    rcases List.mem_or_eq_of_mem_set hx with h | h
    · rw [List.eq_of_mem_replicate h]; exact ⟨by decide, by decide⟩
    · rw [h]; exact ⟨by decide, by decide⟩⟩
  obtain ⟨N1, hN1⟩ : ∃ N1 : Nat, (N : Int) - 1 = (N1 : Int) := ⟨N - 1, by omega⟩
  have hN1w : IntKind.i64.wrap ((N : Int) - 1) = (N1 : Int) := by rw [IntKind.wrap_i64]; omega
  have hN1N : N1 ≤ N := by omega
  have hN11 : N - N1 = 1 := by omega
  have hN1p : 0 < N1 := by omega
  have HMV : Aside0 (nums .i64 (movedL v) = [.int .i64 (v.getD N1 0)] ++ nums .i64 (v.take N1)) := ⟨by
    unfold movedL
    rw [hvl, show N - 1 = N1 by omega, List.drop_eq_getElem_cons (by omega), List.drop_eq_nil_of_le (by omega), List.getD_eq_getElem?_getD, List.getElem?_eq_getElem (by omega)]
    simp [nums]⟩
  rw [hN1] at hmask
  have q1 : Int.tdiv (N : Int) 2 = (H : Int) := by rw [Int.tdiv_eq_ediv_of_nonneg (by omega)]; omega
  have q2 : (N : Int) / 2 = (H : Int) := by omega
  have hmk := print_make 22 3 .i64 8 Tryd.underlying22 turn_info (by decide) N (by omega)
  obtain ⟨i0, hi0, hz0, hz1, hz2⟩ := info_parts turn_info
  have hu27 := Tryd.underlying27
  have HC0 := Aside0.mk hC
  have HC1 := Aside0.mk hC1
  have HG0 := Aside0.mk hG
  have HVL := Aside0.mk hvl
  have HUUL := Aside0.mk hul
  have HVI := Aside0.mk hvin
  have HUUI := Aside0.mk huin
  clear hG hl hC hl1 hC1 hin hin1 hN hH hv hu hmay hvl hul hvin huin hm hm1 htm
  go_enter Tryd.func10, Tryd.ntmps10
  go_wp2_with (first
    | ((with_reducible refine gate_dst (N := 5) rfl ?_); refine box_event ?hg (N := 5) ?hd (cs := #[.int .i64 s, .int .i64 k]) (t := 27) ?hr ?_; (case hd => rfl); (case hg => first | rfl | exact wanted_on rfl rfl rfl (by first | assumption | rfl | (simp [*]; done))); (case hr => first | (go_simp; done) | (go_simp; rfl)); intro gb hgb wb hbox hb; subst hgb; have BK := Aside0.mk hbox; have HB := Aside0.mk hb; have ST0 : True := trivial; clear hbox hb)
    | (go_at_call 24; clear ST0; (with_reducible refine (awake_go _ (HG0.out.below HB.out)).mono ?_); rintro e_ w1 ⟨rfl, B1⟩; have BK1 := Aside0.mk (blk_below BK.out B1); have HB1 := Aside0.mk (below_step HB.out B1); have q0c := blk_cell BK1.out 0; have q1c := blk_cell BK1.out 1; clear B1 BK HB; have ST1 : True := trivial)
    | (go_at_call 25; clear ST1; (with_reducible refine (HSZ0.out w1 (Kd.C_below HC0.out HB1.out)).mono ?_); rintro e_ w2 ⟨AV, cV, rfl, hcV, CV, B2⟩; have BK2 := Aside0.mk (blk_below BK1.out B2.out); have HB2 := Aside0.mk (below_step HB1.out B2.out); clear B2 HB1 BK1 q0c q1c; have q0c := blk_cell BK2.out 0; have q1c := blk_cell BK2.out 1; have ST2 : True := trivial)
    | (go_at_call 25; clear ST2; (with_reducible refine (HSZ1.out w2 (Kd.C_below HC1.out HB2.out)).mono ?_); rintro e_ w3 ⟨AU, cU, rfl, hcU, CU, B3⟩; have BK3 := Aside0.mk (blk_below BK2.out B3.out); have HB3 := Aside0.mk (below_step HB2.out B3.out); have CV3 := Aside0.mk (Kd.C_below CV.out B3.out); clear B3 HB2 BK2 CV q0c q1c; have q0c := blk_cell BK3.out 0; have q1c := blk_cell BK3.out 1; have ST3 : True := trivial)
    | (go_at_call 20; clear ST3; refine (add2_x _ AV AU N cV cU v u _ (heap_alloc_new _ _) HVL.out HUUL.out (Kd.C_alloc CV3.out _) (Kd.C_alloc CU.out _) hcV hcU (by omega) HVI.out).mono ?_; rintro e_ w4 ⟨AB, cB, rfl, hcB, CB, B4⟩; have hb := below_then (below_alloc (Below.refl w3.heap.size w3) (.cells #[.slice AV N cV, .slice AU N cU] 22)) (by simp) B4.out; have HB4 := Aside0.mk (below_step HB3.out hb); have CV4 := Aside0.mk (Kd.C_below CV3.out hb); have CU4 := Aside0.mk (Kd.C_below CU.out hb); clear hb B4 HB3 CV3 CU BK3 q0c q1c; have ST4 : True := trivial))
  obtain ⟨adv, rfl, hcv⟩ := sp_ad CV4.out (by omega)
  have hadv : adv.block < w4.heap.size := by rw [← add_block adv 0]; exact World.block_lt_of_cell? w4 _ (hcv 0 (by omega))
  have HCV := Aside0.mk hcv
  clear hcv
  have hw1 : IntKind.i64.wrap (N1 : Int) = (N1 : Int) := by rw [IntKind.wrap_i64]; omega
  have g0 : (0 : Int) ≤ (N1 : Int) := by omega
  have g1 : (N1 : Int) ≤ (N : Int) := by omega
  have g4 : (N1 : Int) ≤ (cV : Int) := by omega
  have g2 : ¬ cV = N1 := by omega
  have g3 : ¬ cV = 0 := by omega
  have hsum : 0 + 1 + N1 = N := by omega
  have hsum2 : 1 + N1 = N := by omega
  have OE : Aside0 ((w4.alloc (.cells #[] 3)).ownsRow w4.heap.size 3 1 (.slice (some ⟨w4.heap.size, 0, none⟩) 0 0) 0 []) := ⟨by
    have h := own_made w4 w4.heap.size 3 .i64 0 (Nat.le_refl _) (by omega)
    have e : madeCells #[Value.int .i64 0] 0 = #[] := by first | rfl | simp [madeCells]
    rw [e] at h
    exact h⟩
  have HX := Aside0.mk (HCV.out N1 (by omega))
  have HTL : Aside0 ((v.take N1).length = N1) := ⟨by rw [List.length_take, HVL.out]; omega⟩
  have ST4 : True := trivial
  go_region_law (first
    | (clear ST4; refine step_append_lies _ (by rfl) _ _ _ (by rfl) w4.heap.size 3 i0 _ 1 8 Tryd.underlying22 hi0 hz0 hz1 hz2 rfl (by omega) (.slice (some ⟨w4.heap.size, 0, none⟩) 0 0) 0 [] (by rfl) (pw_own_below OE.out (by repeat (first | exact Below.refl _ _ | apply pw_below_drewN | apply below_drew1))) (adv.add N1) 1 (cV - N1) [.int .i64 (v.getD N1 0)] (by rfl) (by rfl) (news_one HX.out (by repeat (first | exact Below.refl _ _ | apply below_alloc | apply pw_below_drewN | apply below_drew1))) (by simp [Value.oneCell']) (by omega) (by unfold maxLen; omega) (by omega) (by simp) (w4.heap.size + 1) (by simp) ?_; intro g5 cap5 w5 hown1 hgrow1 hat1 hlt1; have HB5 := Aside0.mk (Below.grown (show Below w4.heap.size w4 _ by repeat (first | exact Below.refl _ _ | apply below_alloc | apply pw_below_drewN | apply below_drew1)) hgrow1 (by simp) (fun q hq => by have := own_base OE.out q hq; omega)); have HO5 := Aside0.mk hown1; clear hown1 hgrow1 hat1 hlt1; have ST5 : True := trivial)
    | (clear ST5; refine step_append_lies _ (by rfl) _ _ _ (by rfl) w4.heap.size 3 i0 _ 1 8 Tryd.underlying22 hi0 hz0 hz1 hz2 rfl (by omega) (.slice (some ⟨g5, 0, none⟩) (0 + 1) cap5) (0 + 1) ([] ++ [.int .i64 (v.getD N1 0)]) (by rfl) (pw_own_below HO5.out (by repeat (first | exact Below.refl _ _ | apply pw_below_drewN | apply below_drew1))) adv N1 cV (nums .i64 (v.take N1)) (by rfl) (by have := HTL.out; simp only [nums, List.length_map]; omega) (news_take HVL.out hN1N HCV.out (by repeat (first | exact HB5.out | apply pw_below_drewN | apply below_drew1))) (fun q hq => nums_one' hq) hN1p (by unfold maxLen; omega) (by omega) (by have := HB5.out.size; simp; omega) w5.heap.size (by simp) ?_; intro g6 cap6 w6 hown2 hgrow2 hat2 hlt2; rw [hsum] at hown2 ⊢; have HB6 := Aside0.mk (Below.grown (show Below w4.heap.size w4 _ by repeat (first | exact HB5.out | apply pw_below_drewN | apply below_drew1)) hgrow2 (by have := HB5.out.size; simp; omega) (fun q hq => by have := own_base HO5.out q hq; omega)); have HO6 := Aside0.mk hown2; clear hown2 hgrow2 hat2 hlt2; have ST6 : True := trivial))

  all_goals
    have hO7 : w6.ownsRow w4.heap.size 3 1 (.slice (some ⟨g6, 0, none⟩) N cap6) N (nums .i64 (movedL v)) := by
      rw [HMV.out]; exact HO6.out
    have hR6 := Kd.R_of_own (enc := Value.int .i64) (h1 := fun _ => rfl) (ok := fun _ => True) (xs := movedL v) (by rw [HML.out]; exact hO7) (fun _ _ => trivial)
    have hcM := (Kd.R_reads' hR6).2.1
    have CM6 := Aside0.mk (R_C hR6)
    have CV6 := Aside0.mk (Kd.C_below CV4.out HB6.out)
    have CU6 := Aside0.mk (Kd.C_below CU4.out HB6.out)
    have CB6 := Aside0.mk (Kd.C_below CB.out HB6.out)
    have HW6 := Aside0.mk (below_step HB4.out HB6.out)
    clear hR6 hO7 HO6 HO5 HB5 OE CB CV4 CU4 HB6 HX HCV ST6
    have ST10 : True := trivial
    go_wp2_with (first
    | (go_at_call 28; clear ST10; refine (HSS.out (addL v u) _ AB cB HBL.out HBI.out (by repeat (first | exact CB6.out | refine Kd.C_alloc ?_ _ | refine Kd.C_drewN ?_ _ | refine Kd.C_drew ?_))).mono ?_; rintro e_ w7 ⟨Pp, dp, rfl, hp, Cp7, B7⟩; have hb := below_then (show Below w6.heap.size w6 _ by repeat (first | exact Below.refl _ _ | apply below_alloc | apply pw_below_drewN | apply below_drew1)) (by simp) B7.out; have CV7 := Aside0.mk (Kd.C_below CV6.out hb); have CU7 := Aside0.mk (Kd.C_below CU6.out hb); have CM7 := Aside0.mk (Kd.C_below CM6.out hb); have HW7 := Aside0.mk (below_step HW6.out hb); clear hb B7 HW6 CB6; have ST11 : True := trivial)
    | (go_at_call 28; clear ST11; refine (HSS.out v _ (some adv) cV HVL.out HVI.out (by repeat (first | exact CV7.out | refine Kd.C_alloc ?_ _ | refine Kd.C_drewN ?_ _ | refine Kd.C_drew ?_))).mono ?_; rintro e_ w8 ⟨Pq, dq, rfl, hq, Cq8, B8⟩; have hb := below_then (show Below w7.heap.size w7 _ by repeat (first | exact Below.refl _ _ | apply below_alloc | apply pw_below_drewN | apply below_drew1)) (by simp) B8.out; have CV8 := Aside0.mk (Kd.C_below CV7.out hb); have CU8 := Aside0.mk (Kd.C_below CU7.out hb); have CM8 := Aside0.mk (Kd.C_below CM7.out hb); have Cp8 := Aside0.mk (Kd.C_below Cp7.out hb); have HW8 := Aside0.mk (below_step HW7.out hb); clear hb B8 HW7; have ST12 : True := trivial)
    | (go_at_call 28; clear ST12; refine (HSS.out u _ AU cU HUUL.out HUUI.out (by repeat (first | exact CU8.out | refine Kd.C_alloc ?_ _ | refine Kd.C_drewN ?_ _ | refine Kd.C_drew ?_))).mono ?_; rintro e_ w9 ⟨Pr, dr, rfl, hr, Cr9, B9⟩; have hb := below_then (show Below w8.heap.size w8 _ by repeat (first | exact Below.refl _ _ | apply below_alloc | apply pw_below_drewN | apply below_drew1)) (by simp) B9.out; have CV9 := Aside0.mk (Kd.C_below CV8.out hb); have CM9 := Aside0.mk (Kd.C_below CM8.out hb); have Cp9 := Aside0.mk (Kd.C_below Cp8.out hb); have Cq9 := Aside0.mk (Kd.C_below Cq8.out hb); have HW9 := Aside0.mk (below_step HW8.out hb); clear hb B9 HW8; have ST13 : True := trivial)
    | (go_at_call 20; clear ST13; refine (add2_x _ Pq Pr H dq dr (spinAt v (t : Int)) (spinAt u (t : Int)) _ (heap_alloc_new _ _) (HLS.out v HVL.out) (HLS.out u HUUL.out) (by repeat (first | exact Cq9.out | refine Kd.C_alloc ?_ _ | refine Kd.C_drewN ?_ _ | refine Kd.C_drew ?_)) (by repeat (first | exact Cr9.out | refine Kd.C_alloc ?_ _ | refine Kd.C_drewN ?_ _ | refine Kd.C_drew ?_)) hq hr (by omega) (HIS.out v)).mono ?_; rintro e_ w10 ⟨Po, dO, rfl, ho, Co10, B10⟩; have hb := below_then (show Below w9.heap.size w9 _ by repeat (first | exact Below.refl _ _ | apply below_alloc | apply pw_below_drewN | apply below_drew1)) (by simp) B10.out; have CV10 := Aside0.mk (Kd.C_below CV9.out hb); have CM10 := Aside0.mk (Kd.C_below CM9.out hb); have Cp10 := Aside0.mk (Kd.C_below Cp9.out hb); have HW10 := Aside0.mk (below_step HW9.out hb); clear hb B10 HW9; have ST14 : True := trivial)
    | (go_at_call 19; clear ST14; refine (same_y Pp Po H dp dO _ _ _ (HLS.out _ HBL.out) HE1.out (by repeat (first | exact Cp10.out | refine Kd.C_alloc ?_ _ | refine Kd.C_drewN ?_ _ | refine Kd.C_drew ?_)) (by repeat (first | exact Co10.out | refine Kd.C_alloc ?_ _ | refine Kd.C_drewN ?_ _ | refine Kd.C_drew ?_)) hp ho (by omega)).mono ?_; rintro e_ w11 ⟨rfl, B11⟩; have hb := below_then (show Below w10.heap.size w10 _ by repeat (first | exact Below.refl _ _ | apply below_alloc | apply pw_below_drewN | apply below_drew1)) (by simp) B11.out; have CV11 := Aside0.mk (Kd.C_below CV10.out hb); have CM11 := Aside0.mk (Kd.C_below CM10.out hb); have HW11 := Aside0.mk (below_step HW10.out hb); clear hb B11 HW10; have ST15 : True := trivial)
    | (go_at_call 28; clear ST15; refine (HSS.out (movedL v) _ _ cap6 HML.out HMI.out (by repeat (first | exact CM11.out | refine Kd.C_alloc ?_ _ | refine Kd.C_drewN ?_ _ | refine Kd.C_drew ?_))).mono ?_; rintro e_ w12 ⟨Pa, da, rfl, ha, Ca12, B12⟩; have hb := below_then (show Below w11.heap.size w11 _ by repeat (first | exact Below.refl _ _ | apply below_alloc | apply pw_below_drewN | apply below_drew1)) (by simp) B12.out; have CV12 := Aside0.mk (Kd.C_below CV11.out hb); have HW12 := Aside0.mk (below_step HW11.out hb); clear hb B12 HW11; have ST16 : True := trivial)
    | (go_at_call 28; clear ST16; refine (HSS.out v _ (some adv) cV HVL.out HVI.out (by repeat (first | exact CV12.out | refine Kd.C_alloc ?_ _ | refine Kd.C_drewN ?_ _ | refine Kd.C_drew ?_))).mono ?_; rintro e_ w13 ⟨Pb, db, rfl, hb, Cb13, B13⟩; have hb := below_then (show Below w12.heap.size w12 _ by repeat (first | exact Below.refl _ _ | apply below_alloc | apply pw_below_drewN | apply below_drew1)) (by simp) B13.out; have Ca13 := Aside0.mk (Kd.C_below Ca12.out hb); have HW13 := Aside0.mk (below_step HW12.out hb); clear hb B13 HW12; have ST17 : True := trivial)
    | (go_at_call 15; clear ST17; refine (turn_x Pb H db (spinAt v (t : Int)) (t : Int) _ (HLS.out v HVL.out) (by repeat (first | exact Cb13.out | refine Kd.C_alloc ?_ _ | refine Kd.C_drewN ?_ _ | refine Kd.C_drew ?_)) (by omega) t0 t1).mono ?_; rintro e_ w14 ⟨Pc, dc, rfl, hc, Cc14, B14⟩; have hb := below_then (show Below w13.heap.size w13 _ by repeat (first | exact Below.refl _ _ | apply below_alloc | apply pw_below_drewN | apply below_drew1)) (by simp) B14.out; have Ca14 := Aside0.mk (Kd.C_below Ca13.out hb); have HW14 := Aside0.mk (below_step HW13.out hb); clear hb B14 HW13; have ST18 : True := trivial)
    | (go_at_call 19; clear ST18; refine (same_y Pa Pc H da dc _ _ _ (HLS.out _ HML.out) HE2.out (by repeat (first | exact Ca14.out | refine Kd.C_alloc ?_ _ | refine Kd.C_drewN ?_ _ | refine Kd.C_drew ?_)) (by repeat (first | exact Cc14.out | refine Kd.C_alloc ?_ _ | refine Kd.C_drewN ?_ _ | refine Kd.C_drew ?_)) ha hc (by omega)).mono ?_; rintro e_ w15 ⟨rfl, B15⟩; have hb := below_then (show Below w14.heap.size w14 _ by repeat (first | exact Below.refl _ _ | apply below_alloc | apply pw_below_drewN | apply below_drew1)) (by simp) B15.out; have HW15 := Aside0.mk (below_step HW14.out hb); clear hb B15 HW14; have hown := own_made w15 w15.heap.size 3 .i64 N (Nat.le_refl _) (by omega); have hs := own_store hown ((0 : Nat) : Int) 1; rw [Int.toNat_natCast, alloc_set'] at hs; obtain ⟨⟨yy, hcz⟩, hfz⟩ := own_free hown 0 (by omega); have hR7 := Kd.R_of_own (enc := Value.int .i64) (h1 := fun _ => rfl) (ok := fun _ => True) (xs := (List.replicate N (0 : Int)).set 0 1) (by rw [List.length_set, List.length_replicate]; exact hs.1) (fun _ _ => trivial); have HONE := Aside0.mk (R_C hR7); have hBO := Aside0.mk (below_alloc (Below.refl w15.heap.size w15) (.cells ((madeCells #[.int .i64 0] N).setIfInBounds 0 (.int .i64 1)) 3)); clear hown hs hR7; have z0 : (0 : Int) ≤ (H : Int) := (by omega); have z1 : (H : Int) ≤ (N : Int) := (by omega); have z2 : ¬ N = 0 := (by omega); have z3 : IntKind.i64.wrap (H : Int) = (H : Int) := (by rw [IntKind.wrap_i64]; omega); have z4 : IntKind.i64.wrap (Int.tdiv (N : Int) 2) = (H : Int) := (by rw [q1]; exact z3); have ST19 : True := trivial))
    go_region_with (first
      | (go_at_call 28; refine (HSS.out ((List.replicate N (0 : Int)).set 0 1) _ _ N HUL.out HUI.out (by repeat (first | exact HONE.out | refine Kd.C_drewN ?_ _ | refine Kd.C_drew ?_))).mono ?_; rintro e_ w16 ⟨Pz, dz, rfl, hz, Cz16, B16⟩; have CO16 := Aside0.mk (Kd.C_below (d := Kd.int .i64) (A := some ⟨w15.heap.size, 0, none⟩) (n := N) (xs := (List.replicate N (0 : Int)).set 0 1) (by repeat (first | exact HONE.out | refine Kd.C_drewN ?_ _ | refine Kd.C_drew ?_)) B16.out); have hb := below_then (show Below w15.heap.size w15 _ by repeat (first | exact hBO.out | apply pw_below_drewN | apply below_drew1)) (by simp) B16.out; have HW16 := Aside0.mk (below_step HW15.out hb); clear hb B16; have ST16 : True := trivial)
      | (go_at_call 19; refine (same_y Pz (some ⟨w15.heap.size, 0, none⟩) H dz N _ _ _ (HLS.out _ HUL.out) HE3.out (by repeat (first | exact Cz16.out | refine Kd.C_drewN ?_ _ | refine Kd.C_drew ?_)) (take_y HUL.out hHN (by repeat (first | exact CO16.out | refine Kd.C_drewN ?_ _ | refine Kd.C_drew ?_))) hz hHN (by omega)).mono ?_; rintro e_ w17 ⟨rfl, B17⟩; have HW17 := Aside0.mk (below_step HW16.out (below_then (show Below w16.heap.size w16 _ by repeat (first | exact Below.refl _ _ | apply pw_below_drewN | apply below_drew1)) (by simp) B17.out)); have ST17 : True := trivial))
    all_goals
      go_wp2
      go_ret
      exact ⟨rfl, by repeat (first | exact HW17.out | apply pw_below_drewN | apply below_drew1)⟩
theorem earshotlaw10_FftSums.calls (A0 : Option Addr) (c0 : Nat) (l0 : List Int) (A1 : Option Addr) (c1 : Nat) (l1 : List Int) (a2_0 a2_1 : Int) (r : Bool) (w : World) (hG : GlobA w) (hr0 : Kd.C (Kd.int .i64) w A0 l0.length l0) (hc0 : l0.length ≤ c0) (hr1 : Kd.C (Kd.int .i64) w A1 l1.length l1) (hc1 : l1.length ≤ c1) (h : earshotlaw10_FftSums.f l0 l1 a2_0 a2_1 = some r) :
    Calls Tryd.prog 10 #[.slice A0 l0.length c0, .slice A1 l1.length c1, .agg #[.int .i64 a2_0, .int .i64 a2_1]] w fun e w' => e = .returned (.bool r) ∧ Below w.heap.size w w' := by
  unfold earshotlaw10_FftSums.f at h
  split at h
  case isFalse => cases h
  rename_i hz
  obtain rfl := Option.some.inj h
  simp only [Bool.and_eq_true, decide_eq_true_eq, List.all_eq_true] at hz
  exact fsums_go A0 A1 _ c0 _ c1 _ _ l0 l1 _ _ a2_0 a2_1 w hG rfl hr0 hc0 hz.1.1.1 (fun x hx => hz.1.1.2 x hx) rfl hr1 hc1 hz.1.2 (fun x hx => hz.2 x hx) rfl rfl rfl rfl

/-- THE ONE PURE STATEMENT of earshotlaw10_FftSums: yours. -/
def earshotlaw10_FftSums.Pure : Prop := ∀ (l0 : List Int) (l1 : List Int) (a2_0 : Int) (a2_1 : Int), l0.length ≤ maxLen → l0.length * 8 ≤ 140737488351232 → (∀ x ∈ l0, (Lit.int .i64 x).wf = true) → l1.length ≤ maxLen → l1.length * 8 ≤ 140737488351232 → (∀ x ∈ l1, (Lit.int .i64 x).wf = true) → (Lit.int .i64 a2_0).wf = true → (Lit.int .i64 a2_1).wf = true → earshotlaw10_FftSums.f l0 l1 a2_0 a2_1 = some true
theorem earshotlaw10_FftSums.walk (P : earshotlaw10_FftSums.Pure) (a0 : Option Addr) (len0 cap0 : Nat) (z0 : List Int) (a1 : Option Addr) (len1 cap1 : Nat) (z1 : List Int) (a2_0 : Int) (a2_1 : Int) (w : World) (w0 : (a0 = none ∧ len0 = 0 ∧ cap0 = 0 ∧ z0 = []) ∨ ∃ x, a0 = some x ∧ len0 ≤ cap0 ∧ cap0 ≤ maxLen ∧ z0.length = cap0 ∧ (∀ i, i < z0.length → w.cell? (x.add i) = some (.int .i64 (z0.getD i 0))) ∧ ∀ n ∈ z0, (Lit.int .i64 n).wf = true) (y0 : len0 * 8 ≤ 140737488351232) (w1 : (a1 = none ∧ len1 = 0 ∧ cap1 = 0 ∧ z1 = []) ∨ ∃ x, a1 = some x ∧ len1 ≤ cap1 ∧ cap1 ≤ maxLen ∧ z1.length = cap1 ∧ (∀ i, i < z1.length → w.cell? (x.add i) = some (.int .i64 (z1.getD i 0))) ∧ ∀ n ∈ z1, (Lit.int .i64 n).wf = true) (y1 : len1 * 8 ≤ 140737488351232) (w2_0 : (Lit.int .i64 a2_0).wf = true) (w2_1 : (Lit.int .i64 a2_1).wf = true) (hG : GlobA w) :
    Calls Tryd.prog 10 #[.slice a0 len0 cap0, .slice a1 len1 cap1, .agg #[.int .i64 a2_0, .int .i64 a2_1]] w fun e w' => e = .returned (.bool true) ∧ Below w.heap.size w w' := by
  obtain ⟨l0, rfl, hr0, hm0, hw0, hc0⟩ := ReadsInt.ofRowC w0
  obtain ⟨l1, rfl, hr1, hm1, hw1, hc1⟩ := ReadsInt.ofRowC w1
  have h := P l0 l1 a2_0 a2_1 hm0 y0 hw0 hm1 y1 hw1 w2_0 w2_1
  refine (earshotlaw10_FftSums.calls _ _ l0 _ _ l1 a2_0 a2_1 true w hG (Kd.C_of_reads (d := (0 : Int)) (h1 := fun _ => rfl) hr0) hc0 (Kd.C_of_reads (d := (0 : Int)) (h1 := fun _ => rfl) hr1) hc1 h).mono ?_
  rintro e w' ⟨rfl, hd⟩
  exact ⟨rfl, hd⟩

end Go.Proofs.YtphmfecabbellaaDoor.PFftSums
