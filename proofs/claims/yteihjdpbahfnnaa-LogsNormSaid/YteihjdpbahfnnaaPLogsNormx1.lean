-- Written by a program of this work (wip/tools) for this claim; Lean checks it.
import Derived.Test.YteihjdpbahfnnaaPLogsNormx0
namespace Go.Proofs.Yteihjdpbahfnnaa.PLogsNorm
open Go.RowKit Go.Proofs.YteihjdpbahfnnaaW.PrintWords Go.Proofs.YteihjdpbahfnnaaW.PrintLast Go.Proofs.YteihjdpbahfnnaaW.PrintMore
attribute [local go_sem] max2_int min2_int max_two min_two max_three min_three max_four min_four   -- for this text's walks alone
set_option linter.unusedVariables false
set_option linter.unusedSimpArgs false

/-! ### bits_Len64: function 33 -/
def bits_Len64.f (a0 : Int) : Option (Int) := if 0 ≤ a0 then (if a0 < 18446744073709551616 then (some ((Lib.bitLen a0.toNat : Nat) : Int)) else (none)) else (none)
theorem bits_Len64.calls (a0 : Int) (r : Int) (w : World) (h : bits_Len64.f a0 = some r) :
    Calls Try.prog 33 #[.int .u64 a0] w fun e w' => e = .returned (.int .i64 r) ∧ Drawn0 w w' := by
  unfold bits_Len64.f at h
  split at h
  · rename_i h0
    split at h
    · rename_i h1
      obtain rfl := Option.some.inj h
      refine (len64_any a0 w h0 (by omega)).mono ?_
      rintro e w' ⟨rfl, rfl⟩
      exact ⟨rfl, Drawn0.refl _⟩
    · cases h
  · cases h

/-! ### logs_Bits: function 22 -/
def logs_Bits.f (a0 : Int) : Option (Int) := (bits_Len64.f a0).bind fun t101 => (some t101)
set_option maxHeartbeats 8000000 in
set_option maxRecDepth 100000 in
theorem logs_Bits.calls (a0 : Int) (r : Int) (w : World) (h : logs_Bits.f a0 = some r) :
    Calls Try.prog 22 #[.int .u64 a0] w fun e w' => e = .returned (.int .i64 r) ∧ Drawn0 w w' := by
  have H : ((bits_Len64.f a0).bind fun t101 => (some t101)) = some r := h
  clear h
  replace H := Option.bind_eq_some_iff.mp H
  obtain ⟨t101, A20, H⟩ := H
  replace H : (some t101) = some r := H
  have A2 := Aside0.mk A20
  clear A20
  obtain rfl := Option.some.inj H
  go_enter Try.func22, Try.ntmps22
  go_wp2_with (first | ((with_reducible refine gate_callee (f := 33) rfl ?_); refine goesL_ (some 4) rfl rfl Try.func33 (by kernel_rfl) rfl #[.int .u64 a0] rfl (by (try simp only [List.map_toArray, List.map_cons, List.map_nil]); first | done | rfl | (simp only [List.length_drop, List.length_take]; rfl)) ?_; (with_reducible refine (bits_Len64.calls a0 t101 _ A2.out).mono ?_); rintro e w' ⟨rfl, ⟨nd, rfl⟩⟩; refine ⟨_, rfl, ?_⟩))
  go_ret
  exact ⟨by first | rfl | (simp; done) | (simp [*]; done), by repeat (first | exact Drawn0.refl _ | apply Drawn0.step)⟩

/-! ### logs_Log: function 24 -/
def logs_Log.l0 : Nat → Int → Int → Int → Option (Int)
  | 0, _, _, _ => none
  | k + 1, x4, x5, x18 => if x18 < 8 then (if 0 ≤ (((IntKind.u64.wrap (x4 * x4)) / 2147483648) / 4294967296) then (logs_Log.l0 k (shr .u64 ((IntKind.u64.wrap (x4 * x4)) / 2147483648) (((IntKind.u64.wrap (x4 * x4)) / 2147483648) / 4294967296)) (Go.bits .or .i64 (wrap64 (x5 * 2)) (wrap64 (((IntKind.u64.wrap (x4 * x4)) / 2147483648) / 4294967296))) (wrap64 (x18 + 1))) else (none)) else (some x5)
def logs_Log.f (k : Nat) (a0 : Int) : Option (Int) := if a0 = 0 then (some 0) else ((logs_Bits.f a0).bind fun t102 => (if 0 ≤ (wrap64 (63 - (wrap64 (t102 - 1)))) then (logs_Log.l0 k ((shl .u64 a0 (wrap64 (63 - (wrap64 (t102 - 1))))) / 4294967296) (wrap64 (t102 - 1)) 0) else (none)))
theorem logs_Log.mono_l : ∀ k, (∀ y0 y1 y2, LeO (logs_Log.l0 k y0 y1 y2) (logs_Log.l0 (k + 1) y0 y1 y2))
  | 0 => fun _ _ _ r h => by simp [logs_Log.l0] at h
  | k + 1 => by
    have ih0 := logs_Log.mono_l k
    · intro y0 y1 y2
      unfold logs_Log.l0
      repeat' first
      | (with_reducible exact ih0 _ _ _)
      | (with_reducible exact LeO.refl _)
      | (with_reducible exact LeO.none _)
      | (with_reducible refine LeO.ite ?_ ?_)
      | (with_reducible refine LeO.bind ?_ (fun _ => ?_))
      | exact ih0 _ _ _
      | exact LeO.none _
      | refine LeO.ite ?_ ?_
      | refine LeO.bind ?_ (fun _ => ?_)
theorem logs_Log.mono : ∀ a0 k, LeO (logs_Log.f k a0) (logs_Log.f (k + 1) a0) := by
  intro a0 k
  have ih0 := logs_Log.mono_l k
  unfold logs_Log.f
  repeat' first
      | (with_reducible exact ih0 _ _ _)
      | (with_reducible exact LeO.refl _)
      | (with_reducible exact LeO.none _)
      | (with_reducible refine LeO.ite ?_ ?_)
      | (with_reducible refine LeO.bind ?_ (fun _ => ?_))
      | exact ih0 _ _ _
      | exact LeO.none _
      | refine LeO.ite ?_ ?_
      | refine LeO.bind ?_ (fun _ => ?_)
set_option maxHeartbeats 8000000 in
set_option maxRecDepth 100000 in
theorem logs_Log.calls (k : Nat) (a0 : Int) (r : Int) (w : World) (h : logs_Log.f k a0 = some r) :
    Calls Try.prog 24 #[.int .u64 a0] w fun e w' => e = .returned (.int .i64 r) ∧ Drawn0 w w' := by
  have H : (if a0 = 0 then (some 0) else ((logs_Bits.f a0).bind fun t102 => (if 0 ≤ (wrap64 (63 - (wrap64 (t102 - 1)))) then (logs_Log.l0 k ((shl .u64 a0 (wrap64 (63 - (wrap64 (t102 - 1))))) / 4294967296) (wrap64 (t102 - 1)) 0) else (none)))) = some r := h
  clear h
  by_cases c2 : a0 = 0
  · rw [if_pos c2] at H
    have c2b0 : (a0 == 0) = true := beq_iff_eq.mpr c2
    have c2b1 : (a0 != 0) = false := bne_eq_false_iff_eq.mpr c2
    clear c2
    obtain rfl := Option.some.inj H
    go_enter Try.func24, Try.ntmps24
    go_wp2
    go_ret
    exact ⟨by first | rfl | (simp; done) | (simp [*]; done), by repeat (first | exact Drawn0.refl _ | apply Drawn0.step)⟩
  · rw [if_neg c2] at H
    have c2b0 : (a0 == 0) = false := beq_eq_false_iff_ne.mpr c2
    have c2b1 : (a0 != 0) = true := bne_iff_ne.mpr c2
    replace H := Option.bind_eq_some_iff.mp H
    obtain ⟨t102, A30, H⟩ := H
    replace H : (if 0 ≤ (wrap64 (63 - (wrap64 (t102 - 1)))) then (logs_Log.l0 k ((shl .u64 a0 (wrap64 (63 - (wrap64 (t102 - 1))))) / 4294967296) (wrap64 (t102 - 1)) 0) else (none)) = some r := H
    have A3 := Aside0.mk A30
    clear A30
    obtain ⟨ji4, hji4⟩ : ∃ j_ : Int, (wrap64 (63 - (wrap64 (t102 - 1)))) = j_ := ⟨_, rfl⟩
    replace H : (if 0 ≤ (ji4) then (logs_Log.l0 k ((shl .u64 a0 (ji4)) / 4294967296) (wrap64 (t102 - 1)) 0) else (none)) = some r := by first | (rw [hji4] at H; exact H) | (simp only [hji4] at H ⊢; exact H)
    (try rw [hji4] at A3)
    have hji4w : (IntKind.i64.wrap (63 - (wrap64 (t102 - 1)))) = ji4 := (i64_w _).trans hji4
    by_cases c5 : 0 ≤ (ji4)
    · rw [if_pos c5] at H
      have c5b0 := eq_true c5
      have c5b1 : decide (0 ≤ (ji4)) = true := decide_eq_true c5
      clear c5
      obtain ⟨ji6, hji6⟩ : ∃ j_ : Int, (shl .u64 a0 (ji4)) = j_ := ⟨_, rfl⟩
      replace H : (logs_Log.l0 k ((ji6) / 4294967296) (wrap64 (t102 - 1)) 0) = some r := by first | (rw [hji6] at H; exact H) | (simp only [hji6] at H ⊢; exact H)
      (try rw [hji6] at A3)
      have hji6_ : (IntKind.u64.wrap (a0 * 2 ^ min (ji4).toNat 64)) = ji6 := hji6
      have hji6z : (ji4) ≤ 64 → (IntKind.u64.wrap (a0 * 2 ^ (ji4).toNat)) = ji6 := shl_small hji6
      have H' := Aside0.mk H
      clear H
      go_enter Try.func24, Try.ntmps24
      go_wp2_with (first | ((with_reducible refine gate_callee (f := 22) rfl ?_); refine goesL_ (some 10) rfl rfl Try.func22 (by kernel_rfl) rfl #[.int .u64 a0] rfl (by (try simp only [List.map_toArray, List.map_cons, List.map_nil]); first | done | rfl | (simp only [List.length_drop, List.length_take]; rfl)) ?_; (with_reducible refine (logs_Bits.calls a0 t102 _ A3.out).mono ?_); rintro e w' ⟨rfl, ⟨nd, rfl⟩⟩; refine ⟨_, rfl, ?_⟩))
      go_loopg [4, 5, 18] k (fun kq v4 v5 v18 w' => ∃ (x4_1 : Int) (x5_1 : Int) (x18_1 : Int), v4 = .int .u64 x4_1 ∧ v5 = .int .i64 x5_1 ∧ v18 = .int .i64 x18_1 ∧ Aside0 (logs_Log.l0 kq x4_1 x5_1 x18_1 = some r) ∧ Aside0 (kq ≤ k) ∧ Drawn0 w w')
      case atStart => exact ⟨((ji6) / 4294967296), (wrap64 (t102 - 1)), (0), (by first | rfl | (simp; done) | (simp only [← hji6] <;> (first | rfl | simp)) | (simp [*]; done)), (by first | rfl | (simp; done) | (simp [*]; done)), (by first | rfl | (simp; done) | (simp [*]; done)), H', ⟨Nat.le_refl _⟩, by repeat (first | exact Drawn0.refl _ | apply Drawn0.step)⟩
      case round =>
        clear H'
        try clear c2
        try clear c2b0
        try clear c2b1
        try clear p2
        try clear c5
        try clear c5b0
        try clear c5b1
        try clear p6
        obtain ⟨x4_1, x5_1, x18_1, rfl, rfl, rfl, HA, HK1, ⟨m1, rfl⟩⟩ := hrel
        cases gk with
        | zero => exact absurd HA.out (by simp [logs_Log.l0])
        | succ k1 =>
          have H := HA.out
          clear HA
          simp only [logs_Log.l0] at H
          by_cases c7 : x18_1 < 8
          · rw [if_pos c7] at H
            have c7b0 : decide (x18_1 < 8) = true := decide_eq_true c7
            clear c7
            obtain ⟨ji8, hji8⟩ : ∃ j_ : Int, (((IntKind.u64.wrap (x4_1 * x4_1)) / 2147483648) / 4294967296) = j_ := ⟨_, rfl⟩
            replace H : (if 0 ≤ (ji8) then (logs_Log.l0 k1 (shr .u64 ((IntKind.u64.wrap (x4_1 * x4_1)) / 2147483648) (ji8)) (Go.bits .or .i64 (wrap64 (x5_1 * 2)) (wrap64 (ji8))) (wrap64 (x18_1 + 1))) else (none)) = some r := by first | (rw [hji8] at H; exact H) | (simp only [hji8] at H ⊢; exact H)
            by_cases c9 : 0 ≤ (ji8)
            · rw [if_pos c9] at H
              have c9b0 := eq_true c9
              have c9b1 : decide (0 ≤ (ji8)) = true := decide_eq_true c9
              clear c9
              obtain ⟨ji10, hji10⟩ : ∃ j_ : Int, (shr .u64 ((IntKind.u64.wrap (x4_1 * x4_1)) / 2147483648) (ji8)) = j_ := ⟨_, rfl⟩
              replace H : (logs_Log.l0 k1 ji10 (Go.bits .or .i64 (wrap64 (x5_1 * 2)) (wrap64 (ji8))) (wrap64 (x18_1 + 1))) = some r := by first | (rw [hji10] at H; exact H) | (simp only [hji10] at H ⊢; exact H)
              have hji10_ : (((IntKind.u64.wrap (x4_1 * x4_1)) / 2147483648) / 2 ^ min (ji8).toNat 64) = ji10 := hji10
              have hji10z : (ji8) ≤ 64 → (((IntKind.u64.wrap (x4_1 * x4_1)) / 2147483648) / 2 ^ (ji8).toNat) = ji10 := shr_small hji10
              have H' := Aside0.mk H
              clear H
              go_wp2
              go_roundg k1
              case measure => have := HK1.out; omega
              case rel => exact ⟨(ji10), (Go.bits .or .i64 (wrap64 (x5_1 * 2)) (wrap64 (ji8))), (wrap64 (x18_1 + 1)), (by first | rfl | (simp; done) | (simp only [← hji10] <;> (first | rfl | simp)) | (simp [*]; done)), (by first | rfl | (simp; done) | (simp only [← hji8] <;> (first | rfl | simp)) | (simp [*]; done)), (by first | rfl | (simp; done) | (simp [*]; done)), H', ⟨by have := HK1.out; omega⟩, by repeat (first | exact Drawn0.refl _ | apply Drawn0.step)⟩
            · rw [if_neg c9] at H
              exact absurd H (by simp)
          · rw [if_neg c7] at H
            have c7b0 : decide (x18_1 < 8) = false := decide_eq_false c7
            clear c7
            obtain rfl := Option.some.inj H
            go_wp2
            go_ret
            exact ⟨by first | rfl | (simp; done) | (simp only [← hji4, ← hji6] <;> (first | rfl | simp)) | (simp [*]; done), by repeat (first | exact Drawn0.refl _ | apply Drawn0.step)⟩
    · rw [if_neg c5] at H
      exact absurd H (by simp)

-- NOT PRINTED: function 34 (logs_Root_1)

/-! ### logs_Root: function 26 -/
/-- A root, bit by bit. -/
def rt (x : Nat) : Nat → Nat → Nat
  | 0, r => r
  | n + 1, r => if (r + 2 ^ n) * (r + 2 ^ n) > x then rt x n r else rt x n (r + 2 ^ n)
def bitOf : Nat → Nat
  | 0 => 0
  | n + 1 => 2 ^ n
def logs_Root.f (a0 : Int) : Option (Int) := if 0 ≤ a0 then (if a0 < 18446744073709551616 then (some ((rt a0.toNat 32 0 : Nat) : Int)) else (none)) else (none)
theorem root_or (r n : Nat) (hr : r < 2 ^ 32) (hn : n < 32) (hm : r % 2 ^ (n + 1) = 0) : Go.bits .or .u64 (r : Int) ((2 ^ n : Nat) : Int) = ((r + 2 ^ n : Nat) : Int) := by
  have hp : 2 ^ n ≤ 2 ^ 31 := Nat.pow_le_pow_right (by decide) (by omega)
  rw [u64_or_nat r (2 ^ n) (by omega) (by omega)]
  congr 1
  obtain ⟨q, hq⟩ := Nat.dvd_of_mod_eq_zero hm
  rw [hq]
  exact (Nat.two_pow_add_eq_or_of_lt (Nat.pow_lt_pow_right (by decide) (by omega)) q).symm
theorem bitOf_half (n : Nat) : ((2 ^ n : Nat) : Int) / 2 = ((bitOf n : Nat) : Int) := by
  cases n with
  | zero => rfl
  | succ n =>
    rw [bitOf, Nat.pow_succ]
    omega
theorem root_next (r n : Nat) (hr : r + 2 ^ (n + 1) ≤ 2 ^ 32) (hm : r % 2 ^ (n + 1) = 0) : r % 2 ^ n = 0 ∧ (r + 2 ^ n) % 2 ^ n = 0 ∧ r + 2 ^ n + 2 ^ n ≤ 2 ^ 32 := by
  obtain ⟨q, hq⟩ := Nat.dvd_of_mod_eq_zero hm
  have e : r = 2 ^ n * (2 * q) := by rw [hq, Nat.pow_succ, Nat.mul_assoc]
  have h1 : r % 2 ^ n = 0 := by rw [e]; exact Nat.mul_mod_right _ _
  refine ⟨h1, by rw [Nat.add_mod_right]; exact h1, ?_⟩
  rw [Nat.pow_succ] at hr
  omega
set_option maxHeartbeats 8000000 in
theorem logs_Root.calls (a0 : Int) (r : Int) (w : World) (h : logs_Root.f a0 = some r) :
    Calls Try.prog 26 #[.int .u64 a0] w fun e w' => e = .returned (.int .i64 r) ∧ Below w.heap.size w w' := by
  have h0 : 0 ≤ a0 := by
    unfold logs_Root.f at h
    split at h
    · assumption
    · cases h
  have h1 : a0 < 18446744073709551616 := by
    unfold logs_Root.f at h
    rw [if_pos h0] at h
    split at h
    · assumption
    · cases h
  have HR : Aside0 (((rt a0.toNat 32 0 : Nat) : Int) = r) := by
    unfold logs_Root.f at h
    rw [if_pos h0, if_pos h1] at h
    exact ⟨Option.some.inj h⟩
  clear h
  obtain ⟨x, rfl⟩ := Int.eq_ofNat_of_zero_le h0
  rw [Int.toNat_natCast] at HR
  clear h0
  have hmf : ∀ (fn : Fn) (first cap : Array Value) (w : World), (Instr.makeFunc fn first cap).run Try.prog w = .ok (.func fn first cap) w := fun _ _ _ _ => rfl
  have HX0 := Aside0.mk (heap_alloc_new w (.cells #[.int .u64 (x : Int)] 37))
  go_enter Try.func26, Try.ntmps26
  go_wp2
  go_loopw [3, 5] (fun v3 v5 wr => ∃ (n : Nat) (q : Nat) (b : Int), n ≤ 32 ∧ v3 = .int .u64 (q : Int) ∧ v5 = .int .u64 b ∧ Aside0 (b = ((bitOf n : Nat) : Int)) ∧ Aside0 (q % 2 ^ n = 0 ∧ q + 2 ^ n ≤ 2 ^ 32) ∧ Aside0 (rt x n q = rt x 32 0) ∧ Aside0 (wr.heap[w.heap.size]? = some (.cells #[.int .u64 (x : Int)] 37 (0, 0))) ∧ Aside0 (Below w.heap.size w wr)) (fun _ v _ => (intOf v).toNat)
  case atStart => exact ⟨32, 0, 2147483648, by omega, rfl, rfl, ⟨rfl⟩, ⟨by decide⟩, ⟨rfl⟩, ⟨HX0.out⟩, ⟨by repeat (first | exact Below.refl _ _ | apply below_alloc)⟩⟩
  case round =>
    obtain ⟨n, q, b, hn, rfl, rfl, HB, HQ, HT, HX, HW⟩ := hrel
    have hcx := cell_of_one HX.out
    cases n with
    | zero =>
      have hb0 : b = 0 := HB.out
      subst hb0
      have HE : Aside0 ((q : Int) = r) := ⟨by rw [← HR.out, ← HT.out]; rfl⟩
      have hq2 : q < 4294967296 := by have := HQ.out.2; omega
      go_wp2
      go_ret
      exact ⟨by rw [← HE.out]; rfl, HW.out⟩
    | succ n =>
      have hb1 : b = ((2 ^ n : Nat) : Int) := HB.out
      have hqn := HQ.out
      have hp : 2 ^ n ≤ 2 ^ 31 := Nat.pow_le_pow_right (by decide) (by omega)
      have hp0 : 0 < 2 ^ n := Nat.two_pow_pos n
      have hq2 : q < 2 ^ 32 := by have := Nat.two_pow_pos (n + 1); omega
      have hor := root_or q n hq2 (by omega) hqn.1
      have hnx := root_next q n hqn.2 hqn.1
      have hhalf := bitOf_half n
      rw [← hb1] at hor hhalf
      have hbp : 0 < b := by omega
      have hbl : b ≤ 2147483648 := by omega
      have HH := Aside0.mk hhalf
      have HN := Aside0.mk hnx
      obtain ⟨s, hs⟩ : ∃ s : Nat, q + 2 ^ n = s := ⟨_, rfl⟩
      have hs2 : s < 4294967296 := by omega
      have hsq : (s : Int) * (s : Int) ≤ 18446744065119617025 := by
        have := Nat.mul_le_mul (show s ≤ 4294967295 by omega) (show s ≤ 4294967295 by omega)
        have e : ((s * s : Nat) : Int) = (s : Int) * (s : Int) := Int.natCast_mul s s
        omega
      have hsq0 : 0 ≤ (s : Int) * (s : Int) := Int.mul_nonneg (by omega) (by omega)
      obtain ⟨z, hz⟩ : ∃ z : Int, (s : Int) * (s : Int) = z := ⟨_, rfl⟩
      have hwz : IntKind.u64.wrap ((s : Int) * (s : Int)) = z := by rw [hz]; simp only [IntKind.wrap_u64]; omega
      rw [hs] at hor HN
      have HT2 : Aside0 (rt x (n + 1) q = if z > (x : Int) then rt x n q else rt x n s) := by
        refine ⟨?_⟩
        rw [rt, hs]
        have e : ((s * s : Nat) : Int) = z := by rw [Int.natCast_mul, hz]
        by_cases hc : z > (x : Int)
        · rw [if_pos hc, if_pos (by omega)]
        · rw [if_neg hc, if_neg (by omega)]
      clear hb1 hqn hnx hhalf hp hp0 hq2 hs hz hsq hsq0
      by_cases hc : z > (x : Int)
      · have hd : decide ((x : Int) < z) = true := decide_eq_true hc
        have HT3 : Aside0 (rt x n q = rt x 32 0) := ⟨by rw [← HT.out, HT2.out, if_pos hc]⟩
        clear HT2 hc
        go_wp2
        exact ⟨⟨n, q, _, by omega, rfl, rfl, HH, ⟨HN.out.1, by have := HQ.out.2; have := Nat.pow_lt_pow_right (show 1 < 2 by decide) (show n < n + 1 by omega); omega⟩, HT3, HX, HW⟩, by simp [intOf]; omega⟩
      · have hd : decide ((x : Int) < z) = false := decide_eq_false hc
        have HT3 : Aside0 (rt x n s = rt x 32 0) := ⟨by rw [← HT.out, HT2.out, if_neg hc]⟩
        clear HT2 hc
        go_wp2
        exact ⟨⟨n, s, _, by omega, rfl, rfl, HH, ⟨HN.out.2⟩, HT3, HX, HW⟩, by simp [intOf]; omega⟩

/-! ### logs_Norm: function 28 -/
def logs_Norm.l0 : Nat → Int → List Int → Int → Int → Option (Int)
  | 0, _, _, _, _ => none
  | k + 1, x3, x6, x7, x8 => if x8 < x7 then (if 0 ≤ x8 then (if x8 < (x6.length : Int) then (if (rd x6 x8) < 0 then (logs_Norm.l0 k (Go.bits .or .u64 x3 (IntKind.u64.wrap (wrap64 (-(rd x6 x8))))) x6 x7 (wrap64 (x8 + 1))) else (logs_Norm.l0 k (Go.bits .or .u64 x3 (IntKind.u64.wrap (rd x6 x8))) x6 x7 (wrap64 (x8 + 1)))) else (none)) else (none)) else ((logs_Bits.f x3).bind fun t104 => (some t104))
def logs_Norm.f (k : Nat) (l0 : List Int) : Option (Int) := logs_Norm.l0 k 0 l0 (l0.length : Int) 0
theorem logs_Norm.mono_l : ∀ k, (∀ y0 y1 y2 y3, LeO (logs_Norm.l0 k y0 y1 y2 y3) (logs_Norm.l0 (k + 1) y0 y1 y2 y3))
  | 0 => fun _ _ _ _ r h => by simp [logs_Norm.l0] at h
  | k + 1 => by
    have ih0 := logs_Norm.mono_l k
    · intro y0 y1 y2 y3
      unfold logs_Norm.l0
      repeat' first
      | (with_reducible exact ih0 _ _ _ _)
      | (with_reducible exact LeO.refl _)
      | (with_reducible exact LeO.none _)
      | (with_reducible refine LeO.ite ?_ ?_)
      | (with_reducible refine LeO.bind ?_ (fun _ => ?_))
      | exact ih0 _ _ _ _
      | exact LeO.none _
      | refine LeO.ite ?_ ?_
      | refine LeO.bind ?_ (fun _ => ?_)
theorem logs_Norm.mono : ∀ a0 k, LeO (logs_Norm.f k a0) (logs_Norm.f (k + 1) a0) := by
  intro a0 k
  have ih0 := logs_Norm.mono_l k
  unfold logs_Norm.f
  repeat' first
      | (with_reducible exact ih0 _ _ _ _)
      | (with_reducible exact LeO.refl _)
      | (with_reducible exact LeO.none _)
      | (with_reducible refine LeO.ite ?_ ?_)
      | (with_reducible refine LeO.bind ?_ (fun _ => ?_))
      | exact ih0 _ _ _ _
      | exact LeO.none _
      | refine LeO.ite ?_ ?_
      | refine LeO.bind ?_ (fun _ => ?_)
set_option maxHeartbeats 8000000 in
set_option maxRecDepth 100000 in
theorem logs_Norm.calls (k : Nat) (A0 : Option Addr) (c0 : Nat) (l0 : List Int) (r : Int) (w : World) (hr0 : Kd.C (Kd.int .i64) w A0 l0.length l0) (hc0 : l0.length ≤ c0) (h : logs_Norm.f k l0 = some r) :
    Calls Try.prog 28 #[.slice A0 l0.length c0] w fun e w' => e = .returned (.int .i64 r) ∧ Drawn0 w w' := by
  have HR0 := Aside0.mk hr0
  have HC0 := Aside0.mk hc0
  clear hr0 hc0
  have H : (logs_Norm.l0 k 0 l0 (l0.length : Int) 0) = some r := h
  clear h
  have H' := Aside0.mk H
  clear H
  go_enter Try.func28, Try.ntmps28
  go_wp2
  go_loopg [3, 8] k (fun kq v3 v8 w' => ∃ (x3_1 : Int) (x8_1 : Int), v3 = .int .u64 x3_1 ∧ v8 = .int .i64 x8_1 ∧ Aside0 (logs_Norm.l0 kq x3_1 l0 (l0.length : Int) x8_1 = some r) ∧ Aside0 (kq ≤ k) ∧ Drawn0 w w')
  case atStart => exact ⟨(0), (0), (by first | rfl | (simp; done) | (simp [*]; done)), (by first | rfl | (simp; done) | (simp [*]; done)), H', ⟨Nat.le_refl _⟩, by repeat (first | exact Drawn0.refl _ | apply Drawn0.step)⟩
  case round =>
    clear H'
    obtain ⟨x3_1, x8_1, rfl, rfl, HA, HK1, ⟨m1, rfl⟩⟩ := hrel
    cases gk with
    | zero => exact absurd HA.out (by simp [logs_Norm.l0])
    | succ k1 =>
      have H := HA.out
      clear HA
      simp only [logs_Norm.l0] at H
      by_cases c2 : x8_1 < (l0.length : Int)
      · rw [if_pos c2] at H
        have c2b0 : decide (x8_1 < (l0.length : Int)) = true := decide_eq_true c2
        clear c2
        by_cases c3 : 0 ≤ x8_1
        · rw [if_pos c3] at H
          have c3b0 : decide (0 ≤ x8_1) = true := decide_eq_true c3
          clear c3
          by_cases c4 : x8_1 < (l0.length : Int)
          · rw [if_pos c4] at H
            have c4b0 : decide (x8_1 < (l0.length : Int)) = true := decide_eq_true c4
            clear c4
            by_cases c5 : (rd l0 x8_1) < 0
            · rw [if_pos c5] at H
              have c5b0 : decide ((rd l0 x8_1) < 0) = true := decide_eq_true c5
              clear c5
              have H' := Aside0.mk H
              clear H
              have p103 : 0 ≤ (x8_1 : Int) := of_decide_eq_true (by first | (with_reducible assumption) | assumption)
              have q103 : x8_1 < (l0.length : Int) := of_decide_eq_true (by first | (with_reducible assumption) | assumption)
              obtain ⟨ad103, e103, hx103_0⟩ := Kd.at_int HR0.out x8_1 p103 q103
              cases e103
              replace p103 := eq_true p103
              replace q103 := eq_true q103
              go_wp2
              go_roundg k1
              case measure => have := HK1.out; omega
              case rel => exact ⟨(Go.bits .or .u64 x3_1 (IntKind.u64.wrap (wrap64 (-(rd l0 x8_1))))), (wrap64 (x8_1 + 1)), (by first | rfl | (simp; done) | (simp [*]; done)), (by first | rfl | (simp; done) | (simp [*]; done)), H', ⟨by have := HK1.out; omega⟩, by repeat (first | exact Drawn0.refl _ | apply Drawn0.step)⟩
            · rw [if_neg c5] at H
              have c5b0 : decide ((rd l0 x8_1) < 0) = false := decide_eq_false c5
              clear c5
              have H' := Aside0.mk H
              clear H
              have p103 : 0 ≤ (x8_1 : Int) := of_decide_eq_true (by first | (with_reducible assumption) | assumption)
              have q103 : x8_1 < (l0.length : Int) := of_decide_eq_true (by first | (with_reducible assumption) | assumption)
              obtain ⟨ad103, e103, hx103_0⟩ := Kd.at_int HR0.out x8_1 p103 q103
              cases e103
              replace p103 := eq_true p103
              replace q103 := eq_true q103
              go_wp2
              go_roundg k1
              case measure => have := HK1.out; omega
              case rel => exact ⟨(Go.bits .or .u64 x3_1 (IntKind.u64.wrap (rd l0 x8_1))), (wrap64 (x8_1 + 1)), (by first | rfl | (simp; done) | (simp [*]; done)), (by first | rfl | (simp; done) | (simp [*]; done)), H', ⟨by have := HK1.out; omega⟩, by repeat (first | exact Drawn0.refl _ | apply Drawn0.step)⟩
          · rw [if_neg c4] at H
            exact absurd H (by simp)
        · rw [if_neg c3] at H
          exact absurd H (by simp)
      · rw [if_neg c2] at H
        have c2b0 : decide (x8_1 < (l0.length : Int)) = false := decide_eq_false c2
        clear c2
        replace H := Option.bind_eq_some_iff.mp H
        obtain ⟨t104, A60, H⟩ := H
        replace H : (some t104) = some r := H
        have A6 := Aside0.mk A60
        clear A60
        obtain rfl := Option.some.inj H
        go_wp2_with (first | ((with_reducible refine gate_callee (f := 22) rfl ?_); refine goesL_ (some 25) rfl rfl Try.func22 (by kernel_rfl) rfl #[.int .u64 x3_1] rfl (by (try simp only [List.map_toArray, List.map_cons, List.map_nil]); first | done | rfl | (simp only [List.length_drop, List.length_take]; rfl)) ?_; (with_reducible refine (logs_Bits.calls x3_1 t104 _ A6.out).mono ?_); rintro e w' ⟨rfl, ⟨nd, rfl⟩⟩; refine ⟨_, rfl, ?_⟩))
        go_ret
        exact ⟨by first | rfl | (simp; done) | (simp [*]; done), by repeat (first | exact Drawn0.refl _ | apply Drawn0.step)⟩

/-! ### earshotlaw03_awake: function 21 -/
def earshotlaw03_awake.f (k : Nat)  : Option (Bool) := (logs_Log.f k 1).bind fun t105 => (if t105 = 0 then ((logs_Log.f k 3).bind fun t106 => (if t106 = 405 then ((logs_Log.f k 8).bind fun t107 => (if t107 = 768 then ((logs_Root.f 99).bind fun t108 => (if t108 = 9 then ((logs_Norm.f k (([3, (-8)] : List Int))).bind fun t112 => (some (t112 == 4))) else (some false))) else (some false))) else (some false))) else (some false))
theorem earshotlaw03_awake.mono : ∀ k, LeO (earshotlaw03_awake.f k ) (earshotlaw03_awake.f (k + 1) ) := by
  intro  k
  unfold earshotlaw03_awake.f
  repeat' first
      | (with_reducible exact logs_Log.mono _ _)
      | (with_reducible exact logs_Norm.mono _ _)
      | (with_reducible exact LeO.refl _)
      | (with_reducible exact LeO.none _)
      | (with_reducible refine LeO.ite ?_ ?_)
      | (with_reducible refine LeO.bind ?_ (fun _ => ?_))
      | exact logs_Log.mono _ _
      | exact logs_Norm.mono _ _
      | exact LeO.none _
      | refine LeO.ite ?_ ?_
      | refine LeO.bind ?_ (fun _ => ?_)
set_option maxHeartbeats 8000000 in
set_option maxRecDepth 100000 in
theorem earshotlaw03_awake.calls (k : Nat)  (r : Bool) (w : World) (h : earshotlaw03_awake.f k  = some r) :
    Calls Try.prog 21 #[] w fun e w' => e = .returned (.bool r) ∧ Below w.heap.size w w' := by
  have HB := Aside0.mk (Below.refl w.heap.size w)
  have H : ((logs_Log.f k 1).bind fun t105 => (if t105 = 0 then ((logs_Log.f k 3).bind fun t106 => (if t106 = 405 then ((logs_Log.f k 8).bind fun t107 => (if t107 = 768 then ((logs_Root.f 99).bind fun t108 => (if t108 = 9 then ((logs_Norm.f k (([3, (-8)] : List Int))).bind fun t112 => (some (t112 == 4))) else (some false))) else (some false))) else (some false))) else (some false))) = some r := h
  clear h
  replace H := Option.bind_eq_some_iff.mp H
  obtain ⟨t105, A10, H⟩ := H
  replace H : (if t105 = 0 then ((logs_Log.f k 3).bind fun t106 => (if t106 = 405 then ((logs_Log.f k 8).bind fun t107 => (if t107 = 768 then ((logs_Root.f 99).bind fun t108 => (if t108 = 9 then ((logs_Norm.f k (([3, (-8)] : List Int))).bind fun t112 => (some (t112 == 4))) else (some false))) else (some false))) else (some false))) else (some false)) = some r := H
  have A1 := Aside0.mk A10
  clear A10
  by_cases c2 : t105 = 0
  · rw [if_pos c2] at H
    have c2b0 : (t105 == 0) = true := beq_iff_eq.mpr c2
    have c2b1 : (t105 != 0) = false := bne_eq_false_iff_eq.mpr c2
    clear c2
    replace H := Option.bind_eq_some_iff.mp H
    obtain ⟨t106, A30, H⟩ := H
    replace H : (if t106 = 405 then ((logs_Log.f k 8).bind fun t107 => (if t107 = 768 then ((logs_Root.f 99).bind fun t108 => (if t108 = 9 then ((logs_Norm.f k (([3, (-8)] : List Int))).bind fun t112 => (some (t112 == 4))) else (some false))) else (some false))) else (some false)) = some r := H
    have A3 := Aside0.mk A30
    clear A30
    by_cases c4 : t106 = 405
    · rw [if_pos c4] at H
      have c4b0 : (t106 == 405) = true := beq_iff_eq.mpr c4
      have c4b1 : (t106 != 405) = false := bne_eq_false_iff_eq.mpr c4
      clear c4
      replace H := Option.bind_eq_some_iff.mp H
      obtain ⟨t107, A50, H⟩ := H
      replace H : (if t107 = 768 then ((logs_Root.f 99).bind fun t108 => (if t108 = 9 then ((logs_Norm.f k (([3, (-8)] : List Int))).bind fun t112 => (some (t112 == 4))) else (some false))) else (some false)) = some r := H
      have A5 := Aside0.mk A50
      clear A50
      by_cases c6 : t107 = 768
      · rw [if_pos c6] at H
        have c6b0 : (t107 == 768) = true := beq_iff_eq.mpr c6
        have c6b1 : (t107 != 768) = false := bne_eq_false_iff_eq.mpr c6
        clear c6
        replace H := Option.bind_eq_some_iff.mp H
        obtain ⟨t108, A70, H⟩ := H
        replace H : (if t108 = 9 then ((logs_Norm.f k (([3, (-8)] : List Int))).bind fun t112 => (some (t112 == 4))) else (some false)) = some r := H
        have A7 := Aside0.mk A70
        clear A70
        by_cases c8 : t108 = 9
        · rw [if_pos c8] at H
          have c8b0 : (t108 == 9) = true := beq_iff_eq.mpr c8
          have c8b1 : (t108 != 9) = false := bne_eq_false_iff_eq.mpr c8
          clear c8
          obtain ⟨y109, hy109⟩ : ∃ y_ : List Int, y_ = (([3, (-8)] : List Int)) := ⟨_, rfl⟩
          replace H : ((logs_Norm.f k y109).bind fun t112 => (some (t112 == 4))) = some r := by first | (rw [hy109]; with_reducible exact H) | (have H2_ := (Option.bind_some _ _).symm.trans H; rw [hy109]; with_reducible exact H2_) | (have H2_ := (Option.bind_some _ _).symm.trans H; with_reducible exact H2_) | with_reducible exact H | (rw [hy109]; exact H) | exact H
          have Ny109 := Aside0.mk hy109
          clear hy109
          replace H := Option.bind_eq_some_iff.mp H
          obtain ⟨t112, A90, H⟩ := H
          replace H : (some (t112 == 4)) = some r := H
          have A9 := Aside0.mk A90
          clear A90
          obtain rfl := Option.some.inj H
          go_enter Try.func21, Try.ntmps21
          go_wp2_with (first | ((with_reducible refine gate_callee (f := 24) rfl ?_); refine goesL_ (some 1) rfl rfl Try.func24 (by kernel_rfl) rfl #[.int .u64 1] rfl (by (try simp only [List.map_toArray, List.map_cons, List.map_nil]); first | done | rfl | (simp only [List.length_drop, List.length_take]; rfl)) ?_; (with_reducible refine (logs_Log.calls k 1 t105 _ A1.out).mono ?_); rintro e w' ⟨rfl, ⟨nd, rfl⟩⟩; refine ⟨_, rfl, ?_⟩) | (go_at_call 24; (with_reducible refine (logs_Log.calls k 3 t106 _ A3.out).mono ?_); rintro e w' ⟨rfl, ⟨nd, rfl⟩⟩) | (go_at_call 24; (with_reducible refine (logs_Log.calls k 8 t107 _ A5.out).mono ?_); rintro e w' ⟨rfl, ⟨nd, rfl⟩⟩) | (go_at_call 26; (with_reducible refine (logs_Root.calls 99 t108 _ A7.out).mono ?_); rintro e w10 ⟨rfl, hb⟩; have n0_ := Aside0.mk (below_step (by repeat (first | (with_reducible first | exact HB.out | apply below_alloc | apply pw_below_drewN | apply below_drew1) | exact HB.out)) hb); clear HB; have HB := n0_; clear n0_; (try clear hb); (try clear hb2); (try clear hk); (try clear hi)) | ((with_reducible refine gate_dst (N := 16) rfl ?_); (try (refine gate_guard (by rfl) ?_; dsimp only)); refine Kd.R_lit (Kd.int .i64) _ 3 ?hg (N := 16) ?hd (xs := ([3, (-8)] : List Int)) (inner := [.int .i64 3, .int .i64 (-8)]) (ok := fun _ => True) (okp := fun _ => True) ?hr ?hp (fun _ hk => hk) trivial (Below.refl _ _) (Nat.le_refl _) (by simp) ?_; (case hd => rfl); (case hg => first | rfl | exact wanted_on rfl rfl rfl (by first | assumption | rfl | (simp [*]; done))); (case hr => first | (go_simp; done) | (go_simp; rfl)); (case hp => exact (Reps.one (show Kd.M (Kd.int .i64) _ _ _ 3 [.int .i64 3] from rfl) (Reps.one (show Kd.M (Kd.int .i64) _ _ _ (-8) [.int .i64 (-8)] from rfl) (Reps.none _ _)))); intro v110 w11 ho12 hb hg_ hnew_; clear hg_ hnew_; (first | rw [← Ny109.out] at ho12 | (simp only [Int.reduceToNat] at ho12; rw [← Ny109.out] at ho12)); have n0_ := Aside0.mk (Kd.R_lower ho12 (below_size (by repeat (first | (with_reducible first | exact HB.out | apply below_alloc | apply pw_below_drewN | apply below_drew1) | exact HB.out)))); have n1_ := Aside0.mk (below_step (by repeat (first | (with_reducible first | exact HB.out | apply below_alloc | apply pw_below_drewN | apply below_drew1) | exact HB.out)) hb); clear HB; have HO111 := n0_; have HB := n1_; clear n0_ n1_; clear hb ho12; obtain ⟨Ao13, co13, eo13⟩ := Kd.R_slice HO111.out; subst eo13) | (go_at_call 28; (with_reducible refine (logs_Norm.calls k _ _ y109 t112 _ ?side1 ?side2 A9.out).mono ?_); (case side1 => repeat (first | exact (Kd.R_reads' HO111.out).2.2 | (with_reducible refine Kd.C_alloc ?_ _) | (with_reducible refine Kd.C_drewN ?_ _) | (with_reducible refine Kd.C_drew ?_))); (case side2 => exact (Kd.R_reads' HO111.out).2.1); rintro e w' ⟨rfl, ⟨nd, rfl⟩⟩))
          go_ret
          exact ⟨by first | rfl | (simp [errW_none, errW_some] <;> rfl) | (simp [*, errW_none, errW_some] <;> rfl), by repeat (first | (with_reducible first | exact HB.out | apply below_alloc | apply pw_below_drewN | apply below_drew1) | exact HB.out)⟩
        · rw [if_neg c8] at H
          have c8b0 : (t108 == 9) = false := beq_eq_false_iff_ne.mpr c8
          have c8b1 : (t108 != 9) = true := bne_iff_ne.mpr c8
          obtain rfl := Option.some.inj H
          go_enter Try.func21, Try.ntmps21
          go_wp2_with (first | ((with_reducible refine gate_callee (f := 24) rfl ?_); refine goesL_ (some 1) rfl rfl Try.func24 (by kernel_rfl) rfl #[.int .u64 1] rfl (by (try simp only [List.map_toArray, List.map_cons, List.map_nil]); first | done | rfl | (simp only [List.length_drop, List.length_take]; rfl)) ?_; (with_reducible refine (logs_Log.calls k 1 t105 _ A1.out).mono ?_); rintro e w' ⟨rfl, ⟨nd, rfl⟩⟩; refine ⟨_, rfl, ?_⟩) | (go_at_call 24; (with_reducible refine (logs_Log.calls k 3 t106 _ A3.out).mono ?_); rintro e w' ⟨rfl, ⟨nd, rfl⟩⟩) | (go_at_call 24; (with_reducible refine (logs_Log.calls k 8 t107 _ A5.out).mono ?_); rintro e w' ⟨rfl, ⟨nd, rfl⟩⟩) | (go_at_call 26; (with_reducible refine (logs_Root.calls 99 t108 _ A7.out).mono ?_); rintro e w14 ⟨rfl, hb⟩; have n0_ := Aside0.mk (below_step (by repeat (first | (with_reducible first | exact HB.out | apply below_alloc | apply pw_below_drewN | apply below_drew1) | exact HB.out)) hb); clear HB; have HB := n0_; clear n0_; (try clear hb); (try clear hb2); (try clear hk); (try clear hi)))
          go_ret
          exact ⟨by first | rfl | (simp [errW_none, errW_some] <;> rfl) | (simp [*, errW_none, errW_some] <;> rfl), by repeat (first | (with_reducible first | exact HB.out | apply below_alloc | apply pw_below_drewN | apply below_drew1) | exact HB.out)⟩
      · rw [if_neg c6] at H
        have c6b0 : (t107 == 768) = false := beq_eq_false_iff_ne.mpr c6
        have c6b1 : (t107 != 768) = true := bne_iff_ne.mpr c6
        obtain rfl := Option.some.inj H
        go_enter Try.func21, Try.ntmps21
        go_wp2_with (first | ((with_reducible refine gate_callee (f := 24) rfl ?_); refine goesL_ (some 1) rfl rfl Try.func24 (by kernel_rfl) rfl #[.int .u64 1] rfl (by (try simp only [List.map_toArray, List.map_cons, List.map_nil]); first | done | rfl | (simp only [List.length_drop, List.length_take]; rfl)) ?_; (with_reducible refine (logs_Log.calls k 1 t105 _ A1.out).mono ?_); rintro e w' ⟨rfl, ⟨nd, rfl⟩⟩; refine ⟨_, rfl, ?_⟩) | (go_at_call 24; (with_reducible refine (logs_Log.calls k 3 t106 _ A3.out).mono ?_); rintro e w' ⟨rfl, ⟨nd, rfl⟩⟩) | (go_at_call 24; (with_reducible refine (logs_Log.calls k 8 t107 _ A5.out).mono ?_); rintro e w' ⟨rfl, ⟨nd, rfl⟩⟩))
        go_ret
        exact ⟨by first | rfl | (simp [errW_none, errW_some] <;> rfl) | (simp [*, errW_none, errW_some] <;> rfl), by repeat (first | (with_reducible first | exact HB.out | apply below_alloc | apply pw_below_drewN | apply below_drew1) | exact HB.out)⟩
    · rw [if_neg c4] at H
      have c4b0 : (t106 == 405) = false := beq_eq_false_iff_ne.mpr c4
      have c4b1 : (t106 != 405) = true := bne_iff_ne.mpr c4
      obtain rfl := Option.some.inj H
      go_enter Try.func21, Try.ntmps21
      go_wp2_with (first | ((with_reducible refine gate_callee (f := 24) rfl ?_); refine goesL_ (some 1) rfl rfl Try.func24 (by kernel_rfl) rfl #[.int .u64 1] rfl (by (try simp only [List.map_toArray, List.map_cons, List.map_nil]); first | done | rfl | (simp only [List.length_drop, List.length_take]; rfl)) ?_; (with_reducible refine (logs_Log.calls k 1 t105 _ A1.out).mono ?_); rintro e w' ⟨rfl, ⟨nd, rfl⟩⟩; refine ⟨_, rfl, ?_⟩) | (go_at_call 24; (with_reducible refine (logs_Log.calls k 3 t106 _ A3.out).mono ?_); rintro e w' ⟨rfl, ⟨nd, rfl⟩⟩))
      go_ret
      exact ⟨by first | rfl | (simp [errW_none, errW_some] <;> rfl) | (simp [*, errW_none, errW_some] <;> rfl), by repeat (first | (with_reducible first | exact HB.out | apply below_alloc | apply pw_below_drewN | apply below_drew1) | exact HB.out)⟩
  · rw [if_neg c2] at H
    have c2b0 : (t105 == 0) = false := beq_eq_false_iff_ne.mpr c2
    have c2b1 : (t105 != 0) = true := bne_iff_ne.mpr c2
    obtain rfl := Option.some.inj H
    go_enter Try.func21, Try.ntmps21
    go_wp2_with (first | ((with_reducible refine gate_callee (f := 24) rfl ?_); refine goesL_ (some 1) rfl rfl Try.func24 (by kernel_rfl) rfl #[.int .u64 1] rfl (by (try simp only [List.map_toArray, List.map_cons, List.map_nil]); first | done | rfl | (simp only [List.length_drop, List.length_take]; rfl)) ?_; (with_reducible refine (logs_Log.calls k 1 t105 _ A1.out).mono ?_); rintro e w' ⟨rfl, ⟨nd, rfl⟩⟩; refine ⟨_, rfl, ?_⟩))
    go_ret
    exact ⟨by first | rfl | (simp [errW_none, errW_some] <;> rfl) | (simp [*, errW_none, errW_some] <;> rfl), by repeat (first | (with_reducible first | exact HB.out | apply below_alloc | apply pw_below_drewN | apply below_drew1) | exact HB.out)⟩

end Go.Proofs.Yteihjdpbahfnnaa.PLogsNorm
