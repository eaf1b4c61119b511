-- Written by a program of this work (wip/tools) for this claim; Lean checks it.
import Derived.Test.YtmhacdnnnebpdaaDoorPFrontStreamx1
namespace Go.Proofs.YtmhacdnnnebpdaaDoor.PFrontStream
open Go.RowKit Go.Proofs.YtmhacdnnnebpdaaDoorW.PrintWords Go.Proofs.YtmhacdnnnebpdaaDoorW.PrintLast Go.Proofs.YtmhacdnnnebpdaaDoorW.PrintMore
attribute [local go_sem] max2_int min2_int max_two min_two max_three min_three max_four min_four   -- for this text's walks alone
set_option linter.unusedVariables false
set_option linter.unusedSimpArgs false
def i64b (x : Int) : Bool := decide (-9223372036854775808 ≤ x) && decide (x ≤ 9223372036854775807)
theorem i64b_of {x : Int} (h : i64b x = true) : -9223372036854775808 ≤ x ∧ x ≤ 9223372036854775807 := by simpa [i64b] using h
theorem i64b_mk {x : Int} (h0 : -9223372036854775808 ≤ x) (h1 : x ≤ 9223372036854775807) : i64b x = true := by simp [i64b, h0, h1]
theorem div_low {x n : Int} (hn : 1 ≤ n) (hx : -9223372036854775808 ≤ x) : -9223372036854775808 ≤ x / n := by
 refine (Int.le_ediv_iff_mul_le (by omega)).2 ?_
 omega
theorem div_high {x n : Int} (hn : 1 ≤ n) (hx : x ≤ 9223372036854775807) : x / n ≤ 9223372036854775807 := by
 refine Int.le_trans (Int.ediv_le_ediv (by omega) hx) ?_
 exact Int.ediv_le_self _ (by decide)
theorem parts_some {x n : Int} (hx : i64b x = true) (hn : i64b n = true) (h1 : 1 ≤ n) : round_Parts.f x n = some (x / n, x % n) := by
 have hx := i64b_of hx
 have hn := i64b_of hn
 have hl := div_low h1 hx.1
 have hh := div_high h1 hx.2
 have m0 := Int.emod_nonneg x (show n ≠ 0 by omega)
 have m1 := Int.emod_lt_of_pos x (show 0 < n by omega)
 have e1 := Int.tmod_eq_emod (a := x) (b := n)
 have e2 := Int.tdiv_eq_ediv (a := x) (b := n)
 have s1 : n.sign = 1 := Int.sign_eq_one_of_pos (by omega)
 have s2 : (n.natAbs : Int) = n := by omega
 rw [s1] at e2
 unfold round_Parts.f
 rw [if_neg (by omega), if_neg (by omega)]
 by_cases h : 0 ≤ x ∨ n ∣ x
 ·
  rw [if_pos h] at e1 e2
  rw [if_neg (by omega), e1, e2, Int.natCast_zero]
  rw [show wrap64 (x / n + 0) = x / n by unfold wrap64; omega, Int.sub_zero]
 ·
  rw [if_neg h] at e1 e2
  rw [s2] at e1
  have hx0 : x / n < 0 := by
   rcases Int.lt_or_le (x / n) 0 with h' | h'
   · exact h'
   ·
    have := Int.mul_ediv_add_emod x n
    have := Int.mul_nonneg (show 0 ≤ n by omega) h'
    omega
  rw [if_pos (by omega), e1, e2]
  rw [show wrap64 (x / n + 1) = x / n + 1 by unfold wrap64; omega, show wrap64 (x / n + 1 - 1) = x / n by unfold wrap64; omega, show wrap64 (x % n - n + n) = x % n by unfold wrap64; omega]
theorem parts_none {x n : Int} (h1 : n < 1) : round_Parts.f x n = some (0, 0) := by
 unfold round_Parts.f
 rw [if_pos h1]
def divR (x n : Int) : Int := if n < 1 then 0 else if x % n ≥ n - x % n then x / n + 1 else x / n
def round_Div.f (a0 : Int) (a1 : Int) : Option (Int) := if i64b a0 = true then (if i64b a1 = true then (some (divR a0 a1)) else (none)) else (none)
set_option maxHeartbeats 8000000 in
theorem round_Div.calls (a0 : Int) (a1 : Int) (r : Int) (w : World) (h : round_Div.f a0 a1 = some r) :
  Calls Tryd.prog 73 #[.int .i64 a0, .int .i64 a1] w fun e w' => e = .returned (.int .i64 r) ∧ Below w.heap.size w w' := by
 have hx : i64b a0 = true := by
  unfold round_Div.f at h
  split at h
  · assumption
  · cases h
 have hn : i64b a1 = true := by
  unfold round_Div.f at h
  rw [if_pos hx] at h
  split at h
  · assumption
  · cases h
 have HR : Aside0 (divR a0 a1 = r) := by
  unfold round_Div.f at h
  rw [if_pos hx, if_pos hn] at h
  exact ⟨Option.some.inj h⟩
 clear h
 have hmf : ∀ (fn : Fn) (first cap : Array Value) (w : World), (Instr.makeFunc fn first cap).run Tryd.prog w = .ok (.func fn first cap) w := fun _ _ _ _ => rfl
 by_cases h1 : a1 < 1
 ·
  have HP := Aside0.mk (parts_none (x := a0) h1)
  have hdec : decide (0 < a1) = false := decide_eq_false (by omega)
  have HR2 : Aside0 (r = 0) := ⟨by rw [← HR.out, divR, if_pos h1]⟩
  clear hx hn
  go_enter Tryd.func73, Tryd.ntmps73
  go_wp2_with (first | (go_at_call 83; refine (round_Parts.calls _ _ _ _ _ HP.out).mono ?_; rintro e w' ⟨rfl, ⟨nd, rfl⟩⟩) | go_in)
  all_goals
   go_ret
   exact ⟨by rw [HR2.out]; rfl, by repeat (first | exact Below.refl _ _ | apply below_alloc | apply pw_below_drewN)⟩
 ·
  have HP := Aside0.mk (parts_some hx hn (Int.not_lt.1 h1))
  have m0 := Int.emod_nonneg a0 (show a1 ≠ 0 by omega)
  have m1 := Int.emod_lt_of_pos a0 (show 0 < a1 by omega)
  have hx' := i64b_of hx
  have hn' := i64b_of hn
  have hl := div_low (Int.not_lt.1 h1) hx'.1
  have hh := div_high (Int.not_lt.1 h1) hx'.2
  have hq : 2 ≤ a1 → a0 / a1 ≤ 4611686018427387904 := by
   intro h2
   have e1 := Int.mul_ediv_add_emod a0 a1
   have e2 : 2 * (a0 / a1) ≤ a1 * (a0 / a1) ∨ a0 / a1 < 0 := by
    rcases Int.lt_or_le (a0 / a1) 0 with h' | h'
    · exact .inr h'
    · exact .inl (Int.mul_le_mul_of_nonneg_right h2 h')
   omega
  have HE : Aside0 (r = if a0 % a1 ≥ a1 - a0 % a1 then a0 / a1 + 1 else a0 / a1) := ⟨by rw [← HR.out, divR, if_neg h1]⟩
  clear hx hn HR
  obtain ⟨q, hqq⟩ : ∃ q, a0 / a1 = q := ⟨_, rfl⟩
  obtain ⟨m, hmm⟩ : ∃ m, a0 % a1 = m := ⟨_, rfl⟩
  rw [hqq, hmm] at HP HE
  rw [hqq] at hl hh hq
  rw [hmm] at m0 m1
  clear hqq hmm
  have hx1 := hx'.1
  have hx2 := hx'.2
  have hn2 := hn'.2
  clear hx' hn'
  have hdec : decide (0 < a1) = true := decide_eq_true (by omega)
  by_cases hc : m ≥ a1 - m
  ·
   have hq2 := hq (by omega)
   have HE2 : Aside0 (r = q + 1) := ⟨by rw [HE.out, if_pos hc]⟩
   have hd2 : decide (a1 - m ≤ m) = true := decide_eq_true hc
   clear HE hq hc
   go_enter Tryd.func73, Tryd.ntmps73
   go_wp2_with (first | (go_at_call 83; refine (round_Parts.calls _ _ _ _ _ HP.out).mono ?_; rintro e w' ⟨rfl, ⟨nd, rfl⟩⟩) | go_in)
   all_goals
    go_ret
    exact ⟨by rw [HE2.out]; rfl, by repeat (first | exact Below.refl _ _ | apply below_alloc | apply pw_below_drewN)⟩
  ·
   have HE2 : Aside0 (r = q) := ⟨by rw [HE.out, if_neg hc]⟩
   have hd2 : decide (a1 - m ≤ m) = false := decide_eq_false hc
   clear HE hq hc
   go_enter Tryd.func73, Tryd.ntmps73
   go_wp2_with (first | (go_at_call 83; refine (round_Parts.calls _ _ _ _ _ HP.out).mono ?_; rintro e w' ⟨rfl, ⟨nd, rfl⟩⟩) | go_in)
   all_goals
    go_ret
    exact ⟨by rw [HE2.out]; rfl, by repeat (first | exact Below.refl _ _ | apply below_alloc | apply pw_below_drewN)⟩
def round_Half.f (a0 : Int) (a1 : Int) : Option (Int) := if a1 < 0 then (some 0) else (if a1 > 62 then (some 0) else (if 0 ≤ a1 then ((round_Div.f a0 (shl .i64 1 a1)).bind fun t103 => (some t103)) else (none)))
set_option maxHeartbeats 8000000 in
set_option maxRecDepth 100000 in
theorem round_Half.calls (a0 : Int) (a1 : Int) (r : Int) (w : World) (h : round_Half.f a0 a1 = some r) :
  Calls Tryd.prog 47 #[.int .i64 a0, .int .i64 a1] w fun e w' => e = .returned (.int .i64 r) ∧ Below w.heap.size w w' := by
 have HB := Aside0.mk (Below.refl w.heap.size w)
 have H : (if a1 < 0 then (some 0) else (if a1 > 62 then (some 0) else (if 0 ≤ a1 then ((round_Div.f a0 (shl .i64 1 a1)).bind fun t103 => (some t103)) else (none)))) = some r := h
 clear h
 by_cases c3 : a1 < 0
 ·
  rw [if_pos c3] at H
  have c3b0 : decide (a1 < 0) = true := decide_eq_true c3
  clear c3
  obtain rfl := Option.some.inj H
  go_enter Tryd.func47, Tryd.ntmps47
  go_wp2
  go_ret
  exact ⟨by first | rfl | (simp [errW_none, errW_some] <;> rfl) | (simp [*, errW_none, errW_some] <;> rfl), by repeat (first | (with_reducible first | exact HB.out | apply below_alloc | apply pw_below_drewN | apply below_drew1) | exact HB.out)⟩
 ·
  rw [if_neg c3] at H
  have c3b0 : decide (a1 < 0) = false := decide_eq_false c3
  clear c3
  by_cases c4 : a1 > 62
  ·
   rw [if_pos c4] at H
   have c4b0 : decide (62 < a1) = true := decide_eq_true c4
   clear c4
   obtain rfl := Option.some.inj H
   go_enter Tryd.func47, Tryd.ntmps47
   go_wp2
   go_ret
   exact ⟨by first | rfl | (simp [errW_none, errW_some] <;> rfl) | (simp [*, errW_none, errW_some] <;> rfl), by repeat (first | (with_reducible first | exact HB.out | apply below_alloc | apply pw_below_drewN | apply below_drew1) | exact HB.out)⟩
  ·
   rw [if_neg c4] at H
   have c4b0 : decide (62 < a1) = false := decide_eq_false c4
   clear c4
   by_cases c5 : 0 ≤ a1
   ·
    rw [if_pos c5] at H
    have c5b0 := eq_true c5
    have c5b1 : decide (0 ≤ a1) = true := decide_eq_true c5
    clear c5
    obtain ⟨ji6, hji6⟩ : ∃ j_ : Int, (shl .i64 1 a1) = j_ := ⟨_, rfl⟩
    replace H : ((round_Div.f a0 (ji6)).bind fun t103 => (some t103)) = some r := by first | (rw [hji6] at H; exact H) | (simp only [hji6] at H ⊢; exact H)
    have hji6_ : (IntKind.i64.wrap (1 * 2 ^ min a1.toNat 64)) = ji6 := hji6
    have hji6z : a1 ≤ 64 → (IntKind.i64.wrap (1 * 2 ^ a1.toNat)) = ji6 := shl_small hji6
    have hji6u : (IntKind.i64.wrap (2 ^ min a1.toNat 64)) = ji6 := by have h_ := hji6_; rw [Int.one_mul] at h_; exact h_
    have hji6v : a1 ≤ 64 → (IntKind.i64.wrap (2 ^ a1.toNat)) = ji6 := fun hle_ => by have h_ := hji6z hle_; rw [Int.one_mul] at h_; exact h_
    have hji6y : (wrap64 (1 * 2 ^ min a1.toNat 64)) = ji6 := (i64_w _).symm.trans hji6_
    have hji6x : a1 ≤ 64 → (wrap64 (1 * 2 ^ a1.toNat)) = ji6 := fun h_ => (i64_w _).symm.trans (hji6z h_)
    replace H := Option.bind_eq_some_iff.mp H
    obtain ⟨t103, A70, H⟩ := H
    replace H : (some t103) = some r := H
    have A7 := Aside0.mk A70
    clear A70
    obtain rfl := Option.some.inj H
    go_enter Tryd.func47, Tryd.ntmps47
    go_wp2_with (first | ((with_reducible refine gate_callee (f := 73) rfl ?_); refine goesL_ (some 14) rfl rfl Tryd.func73 (by kernel_rfl) rfl #[.int .i64 a0, .int .i64 ji6] rfl (by (try simp only [List.map_toArray, List.map_cons, List.map_nil]); first | done | (simp only [hji6]; rfl) | rfl | (simp only [List.length_drop, List.length_take]; rfl)) ?_; (with_reducible refine (round_Div.calls a0 ji6 t103 _ A7.out).mono ?_); rintro e w8 ⟨rfl, hb⟩; refine ⟨_, rfl, ?_⟩; have n0_ := Aside0.mk (below_step (by repeat (first | (with_reducible first | exact HB.out | apply below_alloc | apply pw_below_drewN | apply below_drew1) | exact HB.out)) hb); clear HB; have HB := n0_; clear n0_; (try clear hb); (try clear hb2); (try clear hk); (try clear hi)))
    go_ret
    exact ⟨by first | rfl | (simp [errW_none, errW_some] <;> rfl) | (simp only [← hji6]; first | rfl | (simp [errW_none, errW_some] <;> rfl)) | (simp [*, errW_none, errW_some] <;> rfl), by repeat (first | (with_reducible first | exact HB.out | apply below_alloc | apply pw_below_drewN | apply below_drew1) | exact HB.out)⟩
   ·
    rw [if_neg c5] at H
    exact absurd H (by simp)
def winAt (s t : Int) : Int := 8847 - divR (7537 * cosAt (t * s % 64)) 16384
def winList (n : Int) : List Int := if n = 16 then (List.range 16).map (fun t : Nat => winAt 4 (t : Int)) else if n = 32 then (List.range 32).map (fun t : Nat => winAt 2 (t : Int)) else if n = 64 then (List.range 64).map (fun t : Nat => winAt 1 (t : Int)) else []
def circle_Window.f (a0 : Int) : Option (List Int) := some (winList a0)
theorem cosAt_le (q : Int) : -16384 ≤ cosAt q ∧ cosAt q ≤ 16384 := by
 have h := cosTab_le
 unfold cosAt
 split <;> split <;> (first | (have := h (32 - (64 - q)).toNat; omega) | (have := h (64 - q).toNat; omega) | (have := h (32 - q).toNat; omega) | (have := h q.toNat; omega))
theorem divR_14 (x : Int) : divR x 16384 = (x + 8192) / 16384 := by
 unfold divR
 rw [if_neg (by decide)]
 split <;> omega
theorem half_14 (x : Int) (h0 : -1000000000 ≤ x) (h1 : x ≤ 1000000000) : round_Half.f x 14 = some (divR x 16384) := by
 unfold round_Half.f round_Div.f
 have e : shl .i64 1 14 = 16384 := by decide
 rw [if_neg (by decide), if_neg (by decide), if_pos (by decide), e, if_pos (i64b_mk (by omega) (by omega)), if_pos (by decide)]
 rfl
set_option maxHeartbeats 8000000 in
theorem win_at (n s t : Int) (gn : Nat) (w : World) (hG : GlobA w) (hb : w.heap[gn]? = some (.cells #[.int .i64 n] 3 (0, 0))) (hn : n = 16 ∧ s = 4 ∨ n = 32 ∧ s = 2 ∨ n = 64 ∧ s = 1) (h0 : 0 ≤ t) (h1 : t < 64) :
  Calls Tryd.prog 75 #[.int .i64 t, .pointer (some ⟨gn, 0, none⟩)] w fun e w' => e = .returned (.int .i64 (winAt s t)) ∧ Below w.heap.size w w' := by
 have hc := cell_of_one hb
 have hlt := lt_of_block hb
 clear hb
 have hcos : circle_Cos.f (t * s) = some (cosAt (t * s % 64)) := by
  unfold circle_Cos.f
  rw [if_pos]
  rcases hn with ⟨_, rfl⟩ | ⟨_, rfl⟩ | ⟨_, rfl⟩ <;> simp [ci64b] <;> omega
 have hr := cosAt_le (t * s % 64)
 have HW : Aside0 (winAt s t = 8847 - divR (7537 * cosAt (t * s % 64)) 16384) := ⟨rfl⟩
 obtain ⟨c, hcc⟩ : ∃ c, cosAt (t * s % 64) = c := ⟨_, rfl⟩
 rw [hcc] at hcos hr HW
 clear hcc
 have HH := Aside0.mk (half_14 (7537 * c) (by omega) (by omega))
 have hd : -100000 ≤ divR (7537 * c) 16384 ∧ divR (7537 * c) 16384 ≤ 100000 := by rw [divR_14]; omega
 obtain ⟨z, hz⟩ : ∃ z, divR (7537 * c) 16384 = z := ⟨_, rfl⟩
 rw [hz] at HH hd HW
 clear hz
 have hr0 := hr.1
 have hr1 := hr.2
 have hd0 := hd.1
 have hd1 := hd.2
 have HG := Aside0.mk hG
 have HC := Aside0.mk hcos
 clear hr hd hG hcos
 rcases hn with ⟨rfl, rfl⟩ | ⟨rfl, rfl⟩ | ⟨rfl, rfl⟩
 all_goals
  (try rw [Int.mul_one] at HC)
  go_enter Tryd.func75, Tryd.ntmps75
  go_wp2_with (first
   | (go_at_call 45; refine (circle_Cos.calls _ _ _ HG.out HC.out).mono ?_; rintro e w' ⟨rfl, ⟨nd, rfl⟩⟩)
   | (go_at_call 47; refine (round_Half.calls _ _ _ _ HH.out).mono ?_; rintro e w' ⟨rfl, hb⟩; have HB := Aside0.mk hb; clear hb))
  go_ret
  exact ⟨by rw [HW.out]; rfl, below_then (pw_below_drewN (Below.refl _ _) _) (Nat.le_refl _) HB.out⟩
theorem win_info : (Tryd.prog.info? 3).map (fun i => (i.zero, i.size, i.bytes)) = some (some (.int .i64 0), 1, 8) := by kernel_rfl
theorem win_upto (s : Int) (N : Nat) (xs : List Int) (hl : xs.length = N) (h : ∀ j, j < N → xs.getD j 0 = winAt s (j : Int)) : xs = (List.range N).map (fun t : Nat => winAt s (t : Int)) := by
 apply List.ext_getElem
 · simp [hl]
 ·
  intro i h1 h2
  have := h i (by omega)
  rw [List.getD_eq_getElem?_getD, List.getElem?_eq_getElem h1] at this
  simpa using this
set_option maxHeartbeats 16000000 in
theorem circle_Window.calls (a0 : Int) (r : List Int) (w : World) (hG : GlobA w) (h : circle_Window.f a0 = some r) :
  Calls Tryd.prog 49 #[.int .i64 a0] w fun e w' => ∃ v0_ : Value, e = .returned v0_ ∧ Kd.R (Kd.int .i64) 3 w' w.heap.size (fun _ => True) v0_ r ∧ Below w.heap.size w w' := by
 have HR : Aside0 (winList a0 = r) := ⟨Option.some.inj h⟩
 have HG := Aside0.mk hG
 clear h hG
 have hmf : ∀ (fn : Fn) (first cap : Array Value) (w : World), (Instr.makeFunc fn first cap).run Tryd.prog w = .ok (.func fn first cap) w := fun _ _ _ _ => rfl
 by_cases hn : a0 = 16 ∨ a0 = 32 ∨ a0 = 64
 ·
  have hs : ∃ (s : Int) (N : Nat), a0 = (N : Int) ∧ (a0 = 16 ∧ s = 4 ∧ N = 16 ∨ a0 = 32 ∧ s = 2 ∧ N = 32 ∨ a0 = 64 ∧ s = 1 ∧ N = 64) ∧ winList a0 = (List.range N).map (fun t : Nat => winAt s (t : Int)) := by
   rcases hn with rfl | rfl | rfl
   · exact ⟨4, 16, rfl, .inl ⟨rfl, rfl, rfl⟩, rfl⟩
   · exact ⟨2, 32, rfl, .inr (.inl ⟨rfl, rfl, rfl⟩), rfl⟩
   · exact ⟨1, 64, rfl, .inr (.inr ⟨rfl, rfl, rfl⟩), rfl⟩
  obtain ⟨s, N, hN, hcase, hwl⟩ := hs
  rw [hwl] at HR
  have HWAT : Aside0 (∀ (t : Int) (gn : Nat) (W : World), GlobA W → W.heap[gn]? = some (.cells #[.int .i64 a0] 3 (0, 0)) → 0 ≤ t → t < 64 → Calls Tryd.prog 75 #[.int .i64 t, .pointer (some ⟨gn, 0, none⟩)] W fun e w' => e = .returned (.int .i64 (winAt s t)) ∧ Below W.heap.size W w') :=
   ⟨fun t gn W g h h0 h1 => win_at a0 s t gn W g h (by rcases hcase with ⟨a, b, _⟩ | ⟨a, b, _⟩ | ⟨a, b, _⟩ <;> simp [a, b]) h0 h1⟩
  have hN64 : N ≤ 64 := by rcases hcase with ⟨_, _, a⟩ | ⟨_, _, a⟩ | ⟨_, _, a⟩ <;> omega
  have hmk := print_make 22 3 .i64 8 Tryd.underlying22 win_info (by decide) N (by omega)
  have hN0 : 0 < N := by rcases hcase with ⟨_, _, a⟩ | ⟨_, _, a⟩ | ⟨_, _, a⟩ <;> omega
  have HU := Aside0.mk (win_upto s N)
  clear hwl
  rcases hcase with ⟨rfl, rfl, rfl⟩ | ⟨rfl, rfl, rfl⟩ | ⟨rfl, rfl, rfl⟩
  ·
   clear hn hN
   simp only [Int.cast_ofNat_Int] at hmk
   go_enter Tryd.func49, Tryd.ntmps49
   go_wp2
   go_loopw [16] (fun v wr => ∃ (t : Nat) (xs : List Int), t ≤ xs.length ∧ v = .int .i64 (t : Int) ∧ Aside0 (xs.length = 16) ∧ Aside0 (∀ j, j < t → xs.getD j 0 = winAt 4 (j : Int)) ∧ Aside0 (wr.heap[w.heap.size]? = some (.cells #[.int .i64 16] 3 (0, 0))) ∧ Aside0 (wr.ownsRow w.heap.size 3 1 (.slice (some ⟨w.heap.size + 1, 0, none⟩) 16 16) 16 (nums .i64 xs)) ∧ Aside0 (Below w.heap.size w wr)) (fun v _ => 16 - (intOf v).toNat)
   case atStart =>
    refine ⟨0, List.replicate 16 0, by simp, rfl, ⟨by simp⟩, ⟨fun j hj => by omega⟩, ⟨?_⟩, ⟨?_⟩, ⟨by repeat (first | exact Below.refl _ _ | apply below_alloc)⟩⟩
    ·
     rw [Below.heap_alloc _ _ _ (by simp)]
     exact heap_alloc_new w _
    ·
     have := own_made (w.alloc (.cells #[.int .i64 16] 3)) w.heap.size 3 .i64 16 (by simp) (by decide)
     simpa using this
   case round =>
    obtain ⟨t, xs, ht, rfl, HL, HJ, HBX, HOWN, HB⟩ := hrel
    have hlen := HL.out
    by_cases hlt : t < 16
    ·
     go_wp2_with (go_at_call 75; refine (HWAT.out _ _ _ (HG.out.below HB.out) HBX.out (by omega) (by omega)).mono ?_; rintro e w2 ⟨rfl, hb⟩; have HOWN2 := Aside0.mk (pw_own_below HOWN.out hb); have HBX2 := Aside0.mk (blk_grown HBX.out (grown_of_below hb none) (by simp)); have HB2 := Aside0.mk (below_then HB.out HB.out.size hb); have hfz := (own_at HOWN2.out (t : Int) (by omega) (by omega)).2; have hcz := (own_at HOWN2.out (t : Int) (by omega) (by omega)).1; rw [Int.toNat_natCast] at hfz hcz; clear hb)
     clear hfz hcz
     have hst := own_store HOWN2.out (t : Int) (winAt 4 (t : Int))
     rw [Int.toNat_natCast] at hst
     have hbase : w.heap.size < w.heap.size + 1 := by omega
     refine ⟨⟨t + 1, xs.set t (winAt 4 (t : Int)), by simp; omega, by go_num, ⟨by simp [hlen]⟩, ⟨?_⟩, ⟨blk_grown HBX2.out hst.2 (by simp)⟩, ⟨hst.1⟩, ⟨Below.grown HB2.out hst.2 HB2.out.size (fun k hk => by injection hk with hk; omega)⟩⟩, by simp [intOf]; omega⟩
     intro j hj
     by_cases hjt : j = t
     ·
      subst hjt
      rw [List.getD_eq_getElem?_getD, List.getElem?_set_self (by omega)]
      rfl
     ·
      have := HJ.out j (by omega)
      rw [List.getD_eq_getElem?_getD] at this ⊢
      rw [List.getElem?_set_ne (by omega)]
      exact this
    ·
     obtain rfl : t = 16 := by omega
     go_wp2
     go_ret
     refine ⟨_, rfl, ?_, HB.out⟩
     rw [← HR.out, ← HU.out xs hlen HJ.out]
     have hown := HOWN.out
     have hR := Kd.R_of_own (enc := Value.int .i64) (h1 := fun _ => rfl) (ok := fun _ => True) (xs := xs) (by rw [hlen]; exact hown) (fun _ _ => trivial)
     exact hR
  ·
   clear hn hN
   simp only [Int.cast_ofNat_Int] at hmk
   go_enter Tryd.func49, Tryd.ntmps49
   go_wp2
   go_loopw [16] (fun v wr => ∃ (t : Nat) (xs : List Int), t ≤ xs.length ∧ v = .int .i64 (t : Int) ∧ Aside0 (xs.length = 32) ∧ Aside0 (∀ j, j < t → xs.getD j 0 = winAt 2 (j : Int)) ∧ Aside0 (wr.heap[w.heap.size]? = some (.cells #[.int .i64 32] 3 (0, 0))) ∧ Aside0 (wr.ownsRow w.heap.size 3 1 (.slice (some ⟨w.heap.size + 1, 0, none⟩) 32 32) 32 (nums .i64 xs)) ∧ Aside0 (Below w.heap.size w wr)) (fun v _ => 32 - (intOf v).toNat)
   case atStart =>
    refine ⟨0, List.replicate 32 0, by simp, rfl, ⟨by simp⟩, ⟨fun j hj => by omega⟩, ⟨?_⟩, ⟨?_⟩, ⟨by repeat (first | exact Below.refl _ _ | apply below_alloc)⟩⟩
    ·
     rw [Below.heap_alloc _ _ _ (by simp)]
     exact heap_alloc_new w _
    ·
     have := own_made (w.alloc (.cells #[.int .i64 32] 3)) w.heap.size 3 .i64 32 (by simp) (by decide)
     simpa using this
   case round =>
    obtain ⟨t, xs, ht, rfl, HL, HJ, HBX, HOWN, HB⟩ := hrel
    have hlen := HL.out
    by_cases hlt : t < 32
    ·
     go_wp2_with (go_at_call 75; refine (HWAT.out _ _ _ (HG.out.below HB.out) HBX.out (by omega) (by omega)).mono ?_; rintro e w2 ⟨rfl, hb⟩; have HOWN2 := Aside0.mk (pw_own_below HOWN.out hb); have HBX2 := Aside0.mk (blk_grown HBX.out (grown_of_below hb none) (by simp)); have HB2 := Aside0.mk (below_then HB.out HB.out.size hb); have hfz := (own_at HOWN2.out (t : Int) (by omega) (by omega)).2; have hcz := (own_at HOWN2.out (t : Int) (by omega) (by omega)).1; rw [Int.toNat_natCast] at hfz hcz; clear hb)
     clear hfz hcz
     have hst := own_store HOWN2.out (t : Int) (winAt 2 (t : Int))
     rw [Int.toNat_natCast] at hst
     have hbase : w.heap.size < w.heap.size + 1 := by omega
     refine ⟨⟨t + 1, xs.set t (winAt 2 (t : Int)), by simp; omega, by go_num, ⟨by simp [hlen]⟩, ⟨?_⟩, ⟨blk_grown HBX2.out hst.2 (by simp)⟩, ⟨hst.1⟩, ⟨Below.grown HB2.out hst.2 HB2.out.size (fun k hk => by injection hk with hk; omega)⟩⟩, by simp [intOf]; omega⟩
     intro j hj
     by_cases hjt : j = t
     ·
      subst hjt
      rw [List.getD_eq_getElem?_getD, List.getElem?_set_self (by omega)]
      rfl
     ·
      have := HJ.out j (by omega)
      rw [List.getD_eq_getElem?_getD] at this ⊢
      rw [List.getElem?_set_ne (by omega)]
      exact this
    ·
     obtain rfl : t = 32 := by omega
     go_wp2
     go_ret
     refine ⟨_, rfl, ?_, HB.out⟩
     rw [← HR.out, ← HU.out xs hlen HJ.out]
     have hown := HOWN.out
     have hR := Kd.R_of_own (enc := Value.int .i64) (h1 := fun _ => rfl) (ok := fun _ => True) (xs := xs) (by rw [hlen]; exact hown) (fun _ _ => trivial)
     exact hR
  ·
   clear hn hN
   simp only [Int.cast_ofNat_Int] at hmk
   go_enter Tryd.func49, Tryd.ntmps49
   go_wp2
   go_loopw [16] (fun v wr => ∃ (t : Nat) (xs : List Int), t ≤ xs.length ∧ v = .int .i64 (t : Int) ∧ Aside0 (xs.length = 64) ∧ Aside0 (∀ j, j < t → xs.getD j 0 = winAt 1 (j : Int)) ∧ Aside0 (wr.heap[w.heap.size]? = some (.cells #[.int .i64 64] 3 (0, 0))) ∧ Aside0 (wr.ownsRow w.heap.size 3 1 (.slice (some ⟨w.heap.size + 1, 0, none⟩) 64 64) 64 (nums .i64 xs)) ∧ Aside0 (Below w.heap.size w wr)) (fun v _ => 64 - (intOf v).toNat)
   case atStart =>
    refine ⟨0, List.replicate 64 0, by simp, rfl, ⟨by simp⟩, ⟨fun j hj => by omega⟩, ⟨?_⟩, ⟨?_⟩, ⟨by repeat (first | exact Below.refl _ _ | apply below_alloc)⟩⟩
    ·
     rw [Below.heap_alloc _ _ _ (by simp)]
     exact heap_alloc_new w _
    ·
     have := own_made (w.alloc (.cells #[.int .i64 64] 3)) w.heap.size 3 .i64 64 (by simp) (by decide)
     simpa using this
   case round =>
    obtain ⟨t, xs, ht, rfl, HL, HJ, HBX, HOWN, HB⟩ := hrel
    have hlen := HL.out
    by_cases hlt : t < 64
    ·
     go_wp2_with (go_at_call 75; refine (HWAT.out _ _ _ (HG.out.below HB.out) HBX.out (by omega) (by omega)).mono ?_; rintro e w2 ⟨rfl, hb⟩; have HOWN2 := Aside0.mk (pw_own_below HOWN.out hb); have HBX2 := Aside0.mk (blk_grown HBX.out (grown_of_below hb none) (by simp)); have HB2 := Aside0.mk (below_then HB.out HB.out.size hb); have hfz := (own_at HOWN2.out (t : Int) (by omega) (by omega)).2; have hcz := (own_at HOWN2.out (t : Int) (by omega) (by omega)).1; rw [Int.toNat_natCast] at hfz hcz; clear hb)
     clear hfz hcz
     have hst := own_store HOWN2.out (t : Int) (winAt 1 (t : Int))
     rw [Int.toNat_natCast] at hst
     have hbase : w.heap.size < w.heap.size + 1 := by omega
     refine ⟨⟨t + 1, xs.set t (winAt 1 (t : Int)), by simp; omega, by go_num, ⟨by simp [hlen]⟩, ⟨?_⟩, ⟨blk_grown HBX2.out hst.2 (by simp)⟩, ⟨hst.1⟩, ⟨Below.grown HB2.out hst.2 HB2.out.size (fun k hk => by injection hk with hk; omega)⟩⟩, by simp [intOf]; omega⟩
     intro j hj
     by_cases hjt : j = t
     ·
      subst hjt
      rw [List.getD_eq_getElem?_getD, List.getElem?_set_self (by omega)]
      rfl
     ·
      have := HJ.out j (by omega)
      rw [List.getD_eq_getElem?_getD] at this ⊢
      rw [List.getElem?_set_ne (by omega)]
      exact this
    ·
     obtain rfl : t = 64 := by omega
     go_wp2
     go_ret
     refine ⟨_, rfl, ?_, HB.out⟩
     rw [← HR.out, ← HU.out xs hlen HJ.out]
     have hown := HOWN.out
     have hR := Kd.R_of_own (enc := Value.int .i64) (h1 := fun _ => rfl) (ok := fun _ => True) (xs := xs) (by rw [hlen]; exact hown) (fun _ _ => trivial)
     exact hR
 ·
  have d1 : (a0 == 16) = false := by simp; omega
  have d2 : (a0 == 32) = false := by simp; omega
  have d3 : (a0 == 64) = false := by simp; omega
  have HE : Aside0 (r = []) := ⟨by rw [← HR.out, winList, if_neg (by omega), if_neg (by omega), if_neg (by omega)]⟩
  clear hn HR
  go_enter Tryd.func49, Tryd.ntmps49
  go_wp2
  go_ret
  exact ⟨_, rfl, by rw [HE.out]; exact Kd.R_nil _ _ _ _ _, by repeat (first | exact Below.refl _ _ | apply below_alloc | apply pw_below_drewN)⟩
theorem own_of_RT {W : World} {base n : Nat} {v : Value} {xs : List Int} {ok : Nat → Prop} (h : (Kd.int .i64).R 3 W base ok v xs) (hl : xs.length = n) : W.ownsRow base 3 1 v n (nums .i64 xs) := by
 have := Kd.own_of_R h
 rw [hl] at this; exact this
theorem own_cellT {W : World} {b g h cap : Nat} {xs : List Int} (HO : W.ownsRow b 3 1 (.slice (some ⟨g, 0, none⟩) h cap) h (nums .i64 xs)) (q : Nat) (hq : q < h) : W.cell? ⟨g, q, none⟩ = some (.int .i64 (xs.getD q 0)) := by
 have := (own_at HO (q : Int) (by omega) (by omega)).1
 rw [Int.toNat_natCast] at this
 rw [this, rd, Int.toNat_natCast]
theorem own_CT {W : World} {b g n cap : Nat} {xs : List Int} (HO : W.ownsRow b 3 1 (.slice (some ⟨g, 0, none⟩) n cap) n (nums .i64 xs)) : (Kd.int .i64).C W (some ⟨g, 0, none⟩) n xs := by
 have hl : xs.length = n := by have := HO.1; simp [nums] at this; exact this
 subst hl
 have hR := Kd.R_of_own (enc := Value.int .i64) (h1 := fun _ => rfl) (ok := fun _ => True) (xs := xs) HO (fun _ _ => trivial)
 exact (Kd.R_reads' hR).2.2
def OwnT (W : World) (b g N c : Nat) (xs : List Int) : Prop := W.ownsRow b 3 1 (.slice (some ⟨g, 0, none⟩) N c) N (nums .i64 xs)
theorem OwnT.other {W : World} {b g N c : Nat} {xs : List Int} (h : OwnT W b g N c xs) (p k : Nat) (hne : p ≠ g) (x : Value) : OwnT (W.setCell ⟨p, k, none⟩ x) b g N c xs := own_setCell h (p := ⟨p, k, none⟩) (by simpa [Value.ownBlock] using hne) x
theorem OwnT.set {W : World} {b g N c : Nat} {xs : List Int} (h : OwnT W b g N c xs) (k : Nat) (x : Int) : OwnT (W.setCell ⟨g, k, none⟩ (.int .i64 x)) b g N c (xs.set k x) := by
 have := (own_store h (k : Int) x).1
 rw [Int.toNat_natCast] at this
 exact this
theorem OwnT.cell {W : World} {b g N c : Nat} {xs : List Int} (h : OwnT W b g N c xs) (k : Nat) (hk : k < N) {x : Int} (hx : xs.getD k 0 = x) : W.cell? ⟨g, k, none⟩ = some (.int .i64 x) := by rw [← hx]; exact own_cellT h k hk
theorem OwnT.free {W : World} {b g N c : Nat} {xs : List Int} (h : OwnT W b g N c xs) (k : Nat) (hk : k < N) : W.frozen? ⟨g, k, none⟩ = false := (own_free h k hk).2
theorem OwnT.drew {W : World} {b g N c : Nat} {xs : List Int} (h : OwnT W b g N c xs) (n : Nat) : OwnT (W.drewN n) b g N c xs := h
theorem OwnT.len {W : World} {b g N c : Nat} {xs : List Int} (h : OwnT W b g N c xs) : xs.length = N := by have := h.1; simp [nums] at this; exact this
theorem OwnT.C {W : World} {b g N c : Nat} {xs : List Int} (h : OwnT W b g N c xs) : (Kd.int .i64).C W (some ⟨g, 0, none⟩) N xs := own_CT h
theorem OwnT.below {W W1 : World} {b g N c : Nat} {xs : List Int} (h : OwnT W b g N c xs) (hb : Below W.heap.size W W1) : OwnT W1 b g N c xs := pw_own_below h hb
theorem OwnT.less {W : World} {b b' g N c : Nat} {xs : List Int} (h : OwnT W b g N c xs) (hb : b' ≤ b) : OwnT W b' g N c xs := own_less h hb
theorem OwnT.base {W : World} {b g N c : Nat} {xs : List Int} (h : OwnT W b g N c xs) : b ≤ g := own_base h g rfl
theorem OwnT.lt {W : World} {b g N c : Nat} {xs : List Int} (h : OwnT W b g N c xs) : g < W.heap.size := own_lt h g rfl
def sizeB (s : Int) : Bool := decide (s = 16) || decide (s = 32) || decide (s = 64)
def rightB (s h b c p : Int) : Bool := sizeB s && decide (1 ≤ h) && decide (h ≤ s) && mayB b.toNat && decide (1 ≤ c) && decide (c ≤ b) && decide (0 ≤ p) && decide (p < 32768)
def front_Right.f (a0_0 a0_1 a0_2 a0_3 a0_4 : Int) : Option (Bool) := some (rightB a0_0 a0_1 a0_2 a0_3 a0_4)
theorem winList_len (s : Int) : (winList s).length = if sizeB s = true then s.toNat else 0 := by
 unfold winList sizeB
 by_cases h1 : s = 16
 · subst h1; rfl
 ·
  by_cases h2 : s = 32
  · subst h2; rfl
  ·
   by_cases h3 : s = 64
   · subst h3; rfl
   · simp [h1, h2, h3]
theorem window_nil (s : Int) (w : World) (hs : sizeB s = false) :
  Calls Tryd.prog 49 #[.int .i64 s] w fun e w' => e = .returned (.slice none 0 0) ∧ Below w.heap.size w w' := by
 have hn : s ≠ 16 ∧ s ≠ 32 ∧ s ≠ 64 := by simp [sizeB] at hs; omega
 have d1 : (s == 16) = false := by simp; omega
 have d2 : (s == 32) = false := by simp; omega
 have d3 : (s == 64) = false := by simp; omega
 clear hs
 go_enter Tryd.func49, Tryd.ntmps49
 go_wp2
 go_ret
 exact ⟨rfl, by repeat (first | exact Below.refl _ _ | apply below_alloc | apply pw_below_drewN)⟩
theorem window_yes (s : Int) (N : Nat) (w : World) (hG : GlobA w) (hs : sizeB s = true) (hN : s.toNat = N) :
  Calls Tryd.prog 49 #[.int .i64 s] w fun e w' => ∃ g c, e = .returned (.slice (some ⟨g, 0, none⟩) N c) ∧ N ≤ c ∧ g < w'.heap.size ∧ Aside0 (w'.ownsRow w.heap.size 3 1 (.slice (some ⟨g, 0, none⟩) N c) N (nums .i64 (winList s))) ∧ Aside0 (Below w.heap.size w w') := by
 refine (circle_Window.calls s (winList s) w hG rfl).mono ?_
 rintro e w' ⟨v0, rfl, hR, hB⟩
 have hl : (winList s).length = N := by rw [winList_len, if_pos hs, hN]
 have hp : 0 < N := by simp [sizeB] at hs; omega
 obtain ⟨g, c, rfl, h1, h2, _⟩ := Kd.R_form hR (by omega)
 have h3 := (Kd.R_reads' hR).2.1
 rw [hl] at h3 ⊢
 have ho := own_of_RT hR hl
 rw [hl] at ho
 exact ⟨g, c, rfl, h3, by have := own_cellT ho 0 hp; exact World.block_lt_of_cell? w' _ this, ⟨ho⟩, ⟨hB⟩⟩
theorem row0_yes (b : Int) (w : World) (hG : GlobA w) (hb : mayB b.toNat = true) :
  Calls Tryd.prog 20 #[.int .i64 0, .int .i64 b] w fun e w' => ∃ g n c, e = .returned (.slice (some ⟨g, 0, none⟩) n c) ∧ Aside0 (Below w.heap.size w w') := by
 have hp : 4 ≤ b := by rcases mayB_cases hb with h | h | h <;> omega
 have hf : dct_Row.f 0 b = some (dctRow 0 b.toNat) := by
  unfold dct_Row.f rowF rowMay
  rw [hb, decide_eq_true (show (0 : Int) ≤ 0 by decide), decide_eq_true (show (0 : Int) < b by omega)]; rfl
 refine (dct_Row.calls 0 b _ w hG hf).mono ?_
 rintro e w' ⟨v0, rfl, hR, hB⟩
 obtain ⟨g, c, rfl, _⟩ := Kd.R_form hR (by rw [dctRow_length]; omega)
 exact ⟨g, _, c, rfl, ⟨hB⟩⟩
theorem row0_nil (b : Int) (w : World) (hb : mayB b.toNat = false) :
  Calls Tryd.prog 20 #[.int .i64 0, .int .i64 b] w fun e w' => e = .returned (.slice none 0 0) ∧ Below w.heap.size w w' := by
 have HMY := Aside0.mk (dct_may_f b)
 rw [hb] at HMY
 clear hb
 go_enter Tryd.func20, Tryd.ntmps20
 go_wp2_with (go_at_call 44; (with_reducible refine (dct_may.calls _ _ _ HMY.out).mono ?_); rintro e w1 ⟨rfl, ⟨nd, rfl⟩⟩)
 go_ret
 exact ⟨rfl, by repeat (first | exact Below.refl _ _ | apply below_alloc | apply pw_below_drewN)⟩
theorem right_ways (s h b c p : Int) : (sizeB s = true ∧ decide (1 ≤ h) = true ∧ decide (h ≤ s) = true ∧ mayB b.toNat = true ∧ decide (1 ≤ c) = true ∧ decide (c ≤ b) = true ∧ decide (0 ≤ p) = true ∧ rightB s h b c p = decide (p < 32768)) ∨
  (sizeB s = true ∧ decide (1 ≤ h) = true ∧ decide (h ≤ s) = true ∧ mayB b.toNat = true ∧ decide (1 ≤ c) = true ∧ decide (c ≤ b) = true ∧ decide (0 ≤ p) = false ∧ rightB s h b c p = false) ∨
  (sizeB s = true ∧ decide (1 ≤ h) = true ∧ decide (h ≤ s) = true ∧ mayB b.toNat = true ∧ decide (1 ≤ c) = true ∧ decide (c ≤ b) = false ∧ rightB s h b c p = false) ∨
  (sizeB s = true ∧ decide (1 ≤ h) = true ∧ decide (h ≤ s) = true ∧ mayB b.toNat = true ∧ decide (1 ≤ c) = false ∧ rightB s h b c p = false) ∨
  (sizeB s = true ∧ decide (1 ≤ h) = true ∧ decide (h ≤ s) = true ∧ mayB b.toNat = false ∧ rightB s h b c p = false) ∨
  (sizeB s = true ∧ decide (1 ≤ h) = true ∧ decide (h ≤ s) = false ∧ rightB s h b c p = false) ∨
  (sizeB s = true ∧ decide (1 ≤ h) = false ∧ rightB s h b c p = false) ∨ (sizeB s = false ∧ rightB s h b c p = false) := by
 unfold rightB
 cases sizeB s <;> cases decide (1 ≤ h) <;> cases decide (h ≤ s) <;> cases mayB b.toNat <;> cases decide (1 ≤ c) <;> cases decide (c ≤ b) <;> cases decide (0 ≤ p) <;> simp
set_option maxHeartbeats 16000000 in
set_option maxRecDepth 100000 in
theorem right_go (s h b c p : Int) (r : Bool) (w : World) (hG : GlobA w) (hr : rightB s h b c p = r) :
  Calls Tryd.prog 27 #[.agg #[.int .i64 s, .int .i64 h, .int .i64 b, .int .i64 c, .int .i64 p]] w fun e w' => e = .returned (.bool r) ∧ Below w.heap.size w w' := by
 have HG := Aside0.mk hG
 have HW0 : Aside0 (sizeB s = false → ∀ W : World, Calls Tryd.prog 49 #[.int .i64 s] W fun e w' => e = .returned (.slice none 0 0) ∧ Below W.heap.size W w') := ⟨fun h W => window_nil s W h⟩
 have HW1 : Aside0 (sizeB s = true → ∀ W : World, GlobA W → Calls Tryd.prog 49 #[.int .i64 s] W fun e w' => ∃ g c, e = .returned (.slice (some ⟨g, 0, none⟩) s.toNat c) ∧ Below W.heap.size W w') := ⟨fun h W hg => (window_yes s _ W hg h rfl).mono fun e w' ⟨g, c, a, _, _, _, d⟩ => ⟨g, c, a, d.out⟩⟩
 have HR0 : Aside0 (mayB b.toNat = false → ∀ W : World, Calls Tryd.prog 20 #[.int .i64 0, .int .i64 b] W fun e w' => e = .returned (.slice none 0 0) ∧ Below W.heap.size W w') := ⟨fun h W => row0_nil b W h⟩
 have HR1 : Aside0 (mayB b.toNat = true → ∀ W : World, GlobA W → Calls Tryd.prog 20 #[.int .i64 0, .int .i64 b] W fun e w' => ∃ g n c, e = .returned (.slice (some ⟨g, 0, none⟩) n c) ∧ Aside0 (Below W.heap.size W w')) := ⟨fun h W hg => row0_yes b W hg h⟩
 have hway := right_ways s h b c p
 rw [hr] at hway
 clear hG hr
 rcases hway with ⟨k0, k1, k2, k3, k4, k5, k6, rfl⟩ | ⟨k0, k1, k2, k3, k4, k5, k6, rfl⟩ | ⟨k0, k1, k2, k3, k4, k5, rfl⟩ | ⟨k0, k1, k2, k3, k4, rfl⟩ | ⟨k0, k1, k2, k3, rfl⟩ | ⟨k0, k1, k2, rfl⟩ | ⟨k0, k1, rfl⟩ | ⟨k0, rfl⟩
 all_goals
  first | (have K3 := Aside0.mk k3; clear k3) | skip
  have K0 := Aside0.mk k0
  clear k0
  have hu22 := Tryd.underlying22
  have ST0 : True := trivial
  go_enter Tryd.func27, Tryd.ntmps27
  go_wp2_with (first
   | ((with_reducible refine gate_dst (N := 1) rfl ?_); refine box_event ?hg (N := 1) ?hd (cs := #[.int .i64 s, .int .i64 h, .int .i64 b, .int .i64 c, .int .i64 p]) (t := 39) ?hr ?_; (case hd => rfl); (case hg => first | rfl | exact wanted_on rfl rfl rfl (by first | assumption | rfl | (simp [*]; done))); (case hr => first | (go_simp; done) | (go_simp; rfl)); intro gb hgb wb hbox hb; subst hgb; have BK := Aside0.mk hbox; have HB := Aside0.mk hb; have q0 := blk_cell BK.out 0; have q1 := blk_cell BK.out 1; have q2 := blk_cell BK.out 2; have q3 := blk_cell BK.out 3; have q4 := blk_cell BK.out 4; clear ST0 hbox hb; have ST1 : True := trivial)
   | (go_at_call 49; clear ST1; (with_reducible refine (HW0.out K0.out _).mono ?_); rintro e_ w1 ⟨rfl, B1⟩; have BK1 := Aside0.mk (blk_below BK.out B1); have HB1 := Aside0.mk (below_step HB.out B1); clear q0 q1 q2 q3 q4 B1 BK HB; have q0 := blk_cell BK1.out 0; have q1 := blk_cell BK1.out 1; have q2 := blk_cell BK1.out 2; have q3 := blk_cell BK1.out 3; have q4 := blk_cell BK1.out 4; have ST2 : True := trivial)
   | (go_at_call 49; clear ST1; (with_reducible refine (HW1.out K0.out _ (HG.out.below HB.out)).mono ?_); rintro e_ w1 ⟨gw, cw, rfl, B1⟩; have BK1 := Aside0.mk (blk_below BK.out B1); have HB1 := Aside0.mk (below_step HB.out B1); clear q0 q1 q2 q3 q4 B1 BK HB; have q0 := blk_cell BK1.out 0; have q1 := blk_cell BK1.out 1; have q2 := blk_cell BK1.out 2; have q3 := blk_cell BK1.out 3; have q4 := blk_cell BK1.out 4; have ST2 : True := trivial)
   | (go_at_call 20; clear ST2; (with_reducible refine (HR0.out K3.out _).mono ?_); rintro e_ w2 ⟨rfl, B1⟩; have BK2 := Aside0.mk (blk_below BK1.out B1); have HB2 := Aside0.mk (below_step HB1.out B1); clear q0 q1 q2 q3 q4 B1 BK1 HB1; have q0 := blk_cell BK2.out 0; have q1 := blk_cell BK2.out 1; have q2 := blk_cell BK2.out 2; have q3 := blk_cell BK2.out 3; have q4 := blk_cell BK2.out 4)
   | (go_at_call 20; clear ST2; (with_reducible refine (HR1.out K3.out _ (HG.out.below HB1.out)).mono ?_); rintro e_ w2 ⟨gw2, nw2, cw2, rfl, B1⟩; have BK2 := Aside0.mk (blk_below BK1.out B1.out); have HB2 := Aside0.mk (below_step HB1.out B1.out); clear q0 q1 q2 q3 q4 B1 BK1 HB1; have q0 := blk_cell BK2.out 0; have q1 := blk_cell BK2.out 1; have q2 := blk_cell BK2.out 2; have q3 := blk_cell BK2.out 3; have q4 := blk_cell BK2.out 4))
  go_ret
  exact ⟨rfl, by first | exact HB2.out | exact HB1.out⟩
theorem front_Right.calls (a0_0 a0_1 a0_2 a0_3 a0_4 : Int) (r : Bool) (w : World) (hG : GlobA w) (h : front_Right.f a0_0 a0_1 a0_2 a0_3 a0_4 = some r) :
  Calls Tryd.prog 27 #[.agg #[.int .i64 a0_0, .int .i64 a0_1, .int .i64 a0_2, .int .i64 a0_3, .int .i64 a0_4]] w fun e w' => e = .returned (.bool r) ∧ Below w.heap.size w w' :=
 right_go _ _ _ _ _ _ w hG (Option.some.inj h)
def bits_Len64.f (a0 : Int) : Option (Int) := if 0 ≤ a0 then (if a0 < 18446744073709551616 then (some ((Lib.bitLen a0.toNat : Nat) : Int)) else (none)) else (none)
theorem bits_Len64.calls (a0 : Int) (r : Int) (w : World) (h : bits_Len64.f a0 = some r) :
  Calls Tryd.prog 97 #[.int .u64 a0] w fun e w' => e = .returned (.int .i64 r) ∧ Drawn0 w w' := by
 unfold bits_Len64.f at h
 split at h
 ·
  rename_i h0
  split at h
  ·
   rename_i h1
   obtain rfl := Option.some.inj h
   refine (len64_any a0 w h0 (by omega)).mono ?_
   rintro e w' ⟨rfl, rfl⟩
   exact ⟨rfl, Drawn0.refl _⟩
  · cases h
 · cases h
def logs_Bits.f (a0 : Int) : Option (Int) := (bits_Len64.f a0).bind fun t107 => (some t107)
set_option maxHeartbeats 8000000 in
set_option maxRecDepth 100000 in
theorem logs_Bits.calls (a0 : Int) (r : Int) (w : World) (h : logs_Bits.f a0 = some r) :
  Calls Tryd.prog 69 #[.int .u64 a0] w fun e w' => e = .returned (.int .i64 r) ∧ Drawn0 w w' := by
 have H : ((bits_Len64.f a0).bind fun t107 => (some t107)) = some r := h
 clear h
 replace H := Option.bind_eq_some_iff.mp H
 obtain ⟨t107, A20, H⟩ := H
 replace H : (some t107) = some r := H
 have A2 := Aside0.mk A20
 clear A20
 obtain rfl := Option.some.inj H
 go_enter Tryd.func69, Tryd.ntmps69
 go_wp2_with (first | ((with_reducible refine gate_callee (f := 97) rfl ?_); refine goesL_ (some 4) rfl rfl Tryd.func97 (by kernel_rfl) rfl #[.int .u64 a0] rfl (by (try simp only [List.map_toArray, List.map_cons, List.map_nil]); first | done | rfl | (simp only [List.length_drop, List.length_take]; rfl)) ?_; (with_reducible refine (bits_Len64.calls a0 t107 _ A2.out).mono ?_); rintro e w' ⟨rfl, ⟨nd, rfl⟩⟩; refine ⟨_, rfl, ?_⟩))
 go_ret
 exact ⟨by first | rfl | (simp; done) | (simp [*]; done), by repeat (first | exact Drawn0.refl _ | apply Drawn0.step)⟩
def logs_Log.l0 : Nat → Int → Int → Int → Option (Int)
 | 0, _, _, _ => none
 | k + 1, x4, x5, x18 => if x18 < 8 then (if 0 ≤ (((IntKind.u64.wrap (x4 * x4)) / 2147483648) / 4294967296) then (logs_Log.l0 k (shr .u64 ((IntKind.u64.wrap (x4 * x4)) / 2147483648) (((IntKind.u64.wrap (x4 * x4)) / 2147483648) / 4294967296)) (Go.bits .or .i64 (wrap64 (x5 * 2)) (wrap64 (((IntKind.u64.wrap (x4 * x4)) / 2147483648) / 4294967296))) (wrap64 (x18 + 1))) else (none)) else (some x5)
def logs_Log.f (k : Nat) (a0 : Int) : Option (Int) := if a0 = 0 then (some 0) else ((logs_Bits.f a0).bind fun t108 => (if 0 ≤ (wrap64 (63 - (wrap64 (t108 - 1)))) then (logs_Log.l0 k ((shl .u64 a0 (wrap64 (63 - (wrap64 (t108 - 1))))) / 4294967296) (wrap64 (t108 - 1)) 0) else (none)))
set_option maxHeartbeats 8000000 in
set_option maxRecDepth 100000 in
theorem logs_Log.calls (k : Nat) (a0 : Int) (r : Int) (w : World) (h : logs_Log.f k a0 = some r) :
  Calls Tryd.prog 40 #[.int .u64 a0] w fun e w' => e = .returned (.int .i64 r) ∧ Drawn0 w w' := by
 have H : (if a0 = 0 then (some 0) else ((logs_Bits.f a0).bind fun t108 => (if 0 ≤ (wrap64 (63 - (wrap64 (t108 - 1)))) then (logs_Log.l0 k ((shl .u64 a0 (wrap64 (63 - (wrap64 (t108 - 1))))) / 4294967296) (wrap64 (t108 - 1)) 0) else (none)))) = some r := h
 clear h
 by_cases c2 : a0 = 0
 ·
  rw [if_pos c2] at H
  have c2b0 : (a0 == 0) = true := beq_iff_eq.mpr c2
  have c2b1 : (a0 != 0) = false := bne_eq_false_iff_eq.mpr c2
  clear c2
  obtain rfl := Option.some.inj H
  go_enter Tryd.func40, Tryd.ntmps40
  go_wp2
  go_ret
  exact ⟨by first | rfl | (simp; done) | (simp [*]; done), by repeat (first | exact Drawn0.refl _ | apply Drawn0.step)⟩
 ·
  rw [if_neg c2] at H
  have c2b0 : (a0 == 0) = false := beq_eq_false_iff_ne.mpr c2
  have c2b1 : (a0 != 0) = true := bne_iff_ne.mpr c2
  replace H := Option.bind_eq_some_iff.mp H
  obtain ⟨t108, A30, H⟩ := H
  replace H : (if 0 ≤ (wrap64 (63 - (wrap64 (t108 - 1)))) then (logs_Log.l0 k ((shl .u64 a0 (wrap64 (63 - (wrap64 (t108 - 1))))) / 4294967296) (wrap64 (t108 - 1)) 0) else (none)) = some r := H
  have A3 := Aside0.mk A30
  clear A30
  obtain ⟨ji4, hji4⟩ : ∃ j_ : Int, (wrap64 (63 - (wrap64 (t108 - 1)))) = j_ := ⟨_, rfl⟩
  replace H : (if 0 ≤ (ji4) then (logs_Log.l0 k ((shl .u64 a0 (ji4)) / 4294967296) (wrap64 (t108 - 1)) 0) else (none)) = some r := by first | (rw [hji4] at H; exact H) | (simp only [hji4] at H ⊢; exact H)
  (try rw [hji4] at A3)
  have hji4w : (IntKind.i64.wrap (63 - (wrap64 (t108 - 1)))) = ji4 := (i64_w _).trans hji4
  by_cases c5 : 0 ≤ (ji4)
  ·
   rw [if_pos c5] at H
   have c5b0 := eq_true c5
   have c5b1 : decide (0 ≤ (ji4)) = true := decide_eq_true c5
   clear c5
   obtain ⟨ji6, hji6⟩ : ∃ j_ : Int, (shl .u64 a0 (ji4)) = j_ := ⟨_, rfl⟩
   replace H : (logs_Log.l0 k ((ji6) / 4294967296) (wrap64 (t108 - 1)) 0) = some r := by first | (rw [hji6] at H; exact H) | (simp only [hji6] at H ⊢; exact H)
   (try rw [hji6] at A3)
   have hji6_ : (IntKind.u64.wrap (a0 * 2 ^ min (ji4).toNat 64)) = ji6 := hji6
   have hji6z : (ji4) ≤ 64 → (IntKind.u64.wrap (a0 * 2 ^ (ji4).toNat)) = ji6 := shl_small hji6
   have H' := Aside0.mk H
   clear H
   go_enter Tryd.func40, Tryd.ntmps40
   go_wp2_with (first | ((with_reducible refine gate_callee (f := 69) rfl ?_); refine goesL_ (some 10) rfl rfl Tryd.func69 (by kernel_rfl) rfl #[.int .u64 a0] rfl (by (try simp only [List.map_toArray, List.map_cons, List.map_nil]); first | done | rfl | (simp only [List.length_drop, List.length_take]; rfl)) ?_; (with_reducible refine (logs_Bits.calls a0 t108 _ A3.out).mono ?_); rintro e w' ⟨rfl, ⟨nd, rfl⟩⟩; refine ⟨_, rfl, ?_⟩))
   go_loopg [4, 5, 18] k (fun kq v4 v5 v18 w' => ∃ (x4_1 : Int) (x5_1 : Int) (x18_1 : Int), v4 = .int .u64 x4_1 ∧ v5 = .int .i64 x5_1 ∧ v18 = .int .i64 x18_1 ∧ Aside0 (logs_Log.l0 kq x4_1 x5_1 x18_1 = some r) ∧ Aside0 (kq ≤ k) ∧ Drawn0 w w')
   case atStart => exact ⟨((ji6) / 4294967296), (wrap64 (t108 - 1)), (0), (by first | rfl | (simp; done) | (simp only [← hji6] <;> (first | rfl | simp)) | (simp [*]; done)), (by first | rfl | (simp; done) | (simp [*]; done)), (by first | rfl | (simp; done) | (simp [*]; done)), H', ⟨Nat.le_refl _⟩, by repeat (first | exact Drawn0.refl _ | apply Drawn0.step)⟩
   case round =>
    clear H'
    try clear c2
    try clear c2b0
    try clear c2b1
    try clear p2
    try clear c4
    try clear c5
    try clear c5b0
    try clear c5b1
    try clear c6
    try clear p6
    obtain ⟨x4_1, x5_1, x18_1, rfl, rfl, rfl, HA, HK1, ⟨m1, rfl⟩⟩ := hrel
    cases gk with
    | zero => exact absurd HA.out (by simp [logs_Log.l0])
    | succ k1 =>
      have H := HA.out
      clear HA
      simp only [logs_Log.l0] at H
      by_cases c7 : x18_1 < 8
      ·
       rw [if_pos c7] at H
       have c7b0 : decide (x18_1 < 8) = true := decide_eq_true c7
       clear c7
       obtain ⟨ji8, hji8⟩ : ∃ j_ : Int, (((IntKind.u64.wrap (x4_1 * x4_1)) / 2147483648) / 4294967296) = j_ := ⟨_, rfl⟩
       replace H : (if 0 ≤ (ji8) then (logs_Log.l0 k1 (shr .u64 ((IntKind.u64.wrap (x4_1 * x4_1)) / 2147483648) (ji8)) (Go.bits .or .i64 (wrap64 (x5_1 * 2)) (wrap64 (ji8))) (wrap64 (x18_1 + 1))) else (none)) = some r := by first | (rw [hji8] at H; exact H) | (simp only [hji8] at H ⊢; exact H)
       by_cases c9 : 0 ≤ (ji8)
       ·
        rw [if_pos c9] at H
        have c9b0 := eq_true c9
        have c9b1 : decide (0 ≤ (ji8)) = true := decide_eq_true c9
        clear c9
        obtain ⟨ji10, hji10⟩ : ∃ j_ : Int, (shr .u64 ((IntKind.u64.wrap (x4_1 * x4_1)) / 2147483648) (ji8)) = j_ := ⟨_, rfl⟩
        replace H : (logs_Log.l0 k1 ji10 (Go.bits .or .i64 (wrap64 (x5_1 * 2)) (wrap64 (ji8))) (wrap64 (x18_1 + 1))) = some r := by first | (rw [hji10] at H; exact H) | (simp only [hji10] at H ⊢; exact H)
        have hji10_ : (((IntKind.u64.wrap (x4_1 * x4_1)) / 2147483648) / 2 ^ min (ji8).toNat 64) = ji10 := hji10
        have hji10z : (ji8) ≤ 64 → (((IntKind.u64.wrap (x4_1 * x4_1)) / 2147483648) / 2 ^ (ji8).toNat) = ji10 := shr_small hji10
        have H' := Aside0.mk H
        clear H
        go_wp2
        go_roundg k1
        case measure => have := HK1.out; omega
        case rel => exact ⟨(ji10), (Go.bits .or .i64 (wrap64 (x5_1 * 2)) (wrap64 (ji8))), (wrap64 (x18_1 + 1)), (by first | rfl | (simp; done) | (simp only [← hji10] <;> (first | rfl | simp)) | (simp [*]; done)), (by first | rfl | (simp; done) | (simp only [← hji8] <;> (first | rfl | simp)) | (simp [*]; done)), (by first | rfl | (simp; done) | (simp [*]; done)), H', ⟨by have := HK1.out; omega⟩, by repeat (first | exact Drawn0.refl _ | apply Drawn0.step)⟩
       ·
        rw [if_neg c9] at H
        exact absurd H (by simp)
      ·
       rw [if_neg c7] at H
       have c7b0 : decide (x18_1 < 8) = false := decide_eq_false c7
       clear c7
       obtain rfl := Option.some.inj H
       go_wp2
       go_ret
       exact ⟨by first | rfl | (simp; done) | (simp only [← hji4, ← hji6] <;> (first | rfl | simp)) | (simp [*]; done), by repeat (first | exact Drawn0.refl _ | apply Drawn0.step)⟩
  ·
   rw [if_neg c5] at H
   exact absurd H (by simp)
def dct_Logs.l0 : Nat → List Int → List Int → Int → Int → Option (List Int)
 | 0, _, _, _, _ => none
 | k + 1, x3, x9, x10, x11 => if x11 < x10 then (if 0 ≤ x11 then (if x11 < (x9.length : Int) then ((logs_Log.f k (IntKind.u64.wrap ((IntKind.u64.wrap (mx (rd x9 x11) 0)) + 1))).bind fun t113 => (if x11 < (x3.length : Int) then (dct_Logs.l0 k (x3.set (x11 : Int).toNat t113) x9 x10 (wrap64 (x11 + 1))) else (none))) else (none)) else (none)) else (some x3)
def dct_Logs.f (k : Nat) (l0 : List Int) : Option (List Int) := if 0 ≤ (l0.length : Int) then (if ((l0.length : Int) : Int).toNat ≤ 35184372088832 then (dct_Logs.l0 k (List.replicate ((l0.length : Int) : Int).toNat 0) l0 (l0.length : Int) 0) else (none)) else (none)
set_option maxHeartbeats 8000000 in
set_option maxRecDepth 100000 in
theorem dct_Logs.calls (k : Nat) (A0 : Option Addr) (c0 : Nat) (l0 : List Int) (r : List Int) (w : World) (hr0 : Kd.C (Kd.int .i64) w A0 l0.length l0) (hc0 : l0.length ≤ c0) (h : dct_Logs.f k l0 = some r) :
  Calls Tryd.prog 17 #[.slice A0 l0.length c0] w fun e w' => ∃ v0_ : Value, e = .returned (v0_) ∧ Kd.R (Kd.int .i64) 3 w' w.heap.size (fun _ => True) v0_ r ∧ Below w.heap.size w w' := by
 have HR0 := Aside0.mk hr0
 have HC0 := Aside0.mk hc0
 clear hr0 hc0
 have HB := Aside0.mk (Below.refl w.heap.size w)
 have H : (if 0 ≤ (l0.length : Int) then (if ((l0.length : Int) : Int).toNat ≤ 35184372088832 then (dct_Logs.l0 k (List.replicate ((l0.length : Int) : Int).toNat 0) l0 (l0.length : Int) 0) else (none)) else (none)) = some r := h
 clear h
 by_cases c2 : 0 ≤ (l0.length : Int)
 ·
  rw [if_pos c2] at H
  have c2b0 := eq_true c2
  have c2b1 : decide (0 ≤ (l0.length : Int)) = true := decide_eq_true c2
  clear c2
  by_cases c3 : ((l0.length : Int) : Int).toNat ≤ 35184372088832
  ·
   rw [if_pos c3] at H
   have c3b0 := eq_true c3
   have c3b1 : decide (((l0.length : Int) : Int).toNat ≤ 35184372088832) = true := decide_eq_true c3
   clear c3
   obtain ⟨y109, hy109⟩ : ∃ y_ : List Int, y_ = (List.replicate ((l0.length : Int) : Int).toNat 0) := ⟨_, rfl⟩
   replace H : (dct_Logs.l0 k y109 l0 (l0.length : Int) 0) = some r := by first | (rw [hy109]; with_reducible exact H) | (have H2_ := (Option.bind_some _ _).symm.trans H; rw [hy109]; with_reducible exact H2_) | (have H2_ := (Option.bind_some _ _).symm.trans H; with_reducible exact H2_) | with_reducible exact H | (rw [hy109]; exact H) | exact H
   have Ny109 := Aside0.mk hy109
   clear hy109
   have H' := Aside0.mk H
   clear H
   go_enter Tryd.func17, Tryd.ntmps17
   go_wp2_with (first | ((with_reducible refine gate_dst (N := 8) rfl ?_); refine Kd.R_make (Kd.int .i64) _ 3 rfl (N := 8) rfl 22 _ _ rfl (l0.length : Int) rfl rfl Tryd.underlying22 (.int .i64 0) 8 info3 rfl (by decide) (by omega) 0 (ok := fun _ => True) (okp := fun _ => True) rfl (fun _ hk => hk) trivial (of_decide_eq_true (by first | (with_reducible assumption) | assumption)) (Nat.le_trans (Nat.mul_le_mul_right _ (of_decide_eq_true (by first | (with_reducible assumption) | assumption) : (l0.length : Int).toNat ≤ 35184372088832)) (by omega)) (Below.refl _ _) (Nat.le_refl _) ?_; intro v110 w4 ho5 hb hg_ hnew_; clear hg_ hnew_; (first | rw [← Ny109.out] at ho5 | (simp only [Int.reduceToNat] at ho5; rw [← Ny109.out] at ho5)); have n0_ := Aside0.mk (Kd.R_lower ho5 (below_size (by repeat (first | (with_reducible first | exact HB.out | apply below_alloc | apply pw_below_drewN | apply below_drew1) | exact HB.out)))); have n1_ := Aside0.mk (below_step (by repeat (first | (with_reducible first | exact HB.out | apply below_alloc | apply pw_below_drewN | apply below_drew1) | exact HB.out)) hb); clear HB; have HO111 := n0_; have HB := n1_; clear n0_ n1_; clear hb ho5))
   go_loopg [11] k (fun kq v11 w' => ∃ (x3_1 : List Int) (x11_1 : Int), v11 = .int .i64 x11_1 ∧ Aside0 (dct_Logs.l0 kq x3_1 l0 (l0.length : Int) x11_1 = some r) ∧ Aside0 (kq ≤ k) ∧ Aside0 (Kd.R (Kd.int .i64) 3 w' w.heap.size (fun _ => True) v110 x3_1) ∧ Aside0 (Below w.heap.size w w'))
   case atStart => exact ⟨(y109), (0), (by first | rfl | (simp; done) | (simp [*]; done)), H', ⟨Nat.le_refl _⟩, ⟨by (with_reducible repeat (first | apply Kd.R_alloc | apply Kd.R_drewN | apply Kd.R_drew)); exact HO111.out⟩, ⟨by repeat (first | (with_reducible first | exact HB.out | apply below_alloc | apply pw_below_drewN | apply below_drew1) | exact HB.out)⟩⟩
   case round =>
    clear H'
    try clear c1
    try clear c2
    try clear c2b0
    try clear c2b1
    try clear p2
    try clear c3
    try clear c3b0
    try clear c3b1
    obtain ⟨x3_1, x11_1, rfl, HA, HK1, HO_3, HB⟩ := hrel
    cases gk with
    | zero => exact absurd HA.out (by simp [dct_Logs.l0])
    | succ k1 =>
      have H := HA.out
      clear HA
      simp only [dct_Logs.l0] at H
      by_cases c6 : x11_1 < (l0.length : Int)
      ·
       rw [if_pos c6] at H
       have c6b0 : decide (x11_1 < (l0.length : Int)) = true := decide_eq_true c6
       clear c6
       by_cases c7 : 0 ≤ x11_1
       ·
        rw [if_pos c7] at H
        have c7b0 : decide (0 ≤ x11_1) = true := decide_eq_true c7
        clear c7
        by_cases c8 : x11_1 < (l0.length : Int)
        ·
         rw [if_pos c8] at H
         have c8b0 : decide (x11_1 < (l0.length : Int)) = true := decide_eq_true c8
         clear c8
         obtain ⟨ji9, hji9⟩ : ∃ j_ : Int, (mx (rd l0 x11_1) 0) = j_ := ⟨_, rfl⟩
         replace H : ((logs_Log.f k1 (IntKind.u64.wrap ((IntKind.u64.wrap (ji9)) + 1))).bind fun t113 => (if x11_1 < (x3_1.length : Int) then (dct_Logs.l0 k1 (x3_1.set (x11_1 : Int).toNat t113) l0 (l0.length : Int) (wrap64 (x11_1 + 1))) else (none))) = some r := by first | (rw [hji9] at H; exact H) | (simp only [hji9] at H ⊢; exact H)
         have hji9_ : (if (rd l0 x11_1) < 0 then 0 else (rd l0 x11_1)) = ji9 := hji9
         replace H := Option.bind_eq_some_iff.mp H
         obtain ⟨t113, A100, H⟩ := H
         replace H : (if x11_1 < (x3_1.length : Int) then (dct_Logs.l0 k1 (x3_1.set (x11_1 : Int).toNat t113) l0 (l0.length : Int) (wrap64 (x11_1 + 1))) else (none)) = some r := H
         have A10 := Aside0.mk A100
         clear A100
         by_cases c11 : x11_1 < (x3_1.length : Int)
         ·
          rw [if_pos c11] at H
          have c11b0 : decide (x11_1 < (x3_1.length : Int)) = true := decide_eq_true c11
          clear c11
          obtain ⟨y114, hy114⟩ : ∃ y_ : List Int, y_ = (x3_1.set (x11_1 : Int).toNat t113) := ⟨_, rfl⟩
          replace H : (dct_Logs.l0 k1 y114 l0 (l0.length : Int) (wrap64 (x11_1 + 1))) = some r := by first | (rw [hy114]; with_reducible exact H) | (have H2_ := (Option.bind_some _ _).symm.trans H; rw [hy114]; with_reducible exact H2_) | (have H2_ := (Option.bind_some _ _).symm.trans H; with_reducible exact H2_) | with_reducible exact H | (rw [hy114]; exact H) | exact H
          have Ny114 := Aside0.mk hy114
          clear hy114
          have H' := Aside0.mk H
          clear H
          have p112 : 0 ≤ (x11_1 : Int) := of_decide_eq_true (by first | (with_reducible assumption) | assumption)
          have q112 : x11_1 < (l0.length : Int) := of_decide_eq_true (by first | (with_reducible assumption) | assumption)
          obtain ⟨ad112, e112, hx112_0⟩ := Kd.at_int HR0.out x11_1 p112 q112
          cases e112
          replace hx112_0 := (HB.out.cell (World.block_lt_of_cell? w _ hx112_0)).trans hx112_0
          replace p112 := eq_true p112
          replace q112 := eq_true q112
          go_wp2_with (first | ((with_reducible refine gate_callee (f := 40) rfl ?_); refine goesL_ (some 22) rfl rfl Tryd.func40 (by kernel_rfl) rfl #[.int .u64 (IntKind.u64.wrap ((IntKind.u64.wrap (ji9)) + 1))] rfl (by (try simp only [List.map_toArray, List.map_cons, List.map_nil]); first | done | (simp only [hji9]; rfl) | rfl | (simp only [List.length_drop, List.length_take]; rfl)) ?_; (with_reducible refine (logs_Log.calls k1 (IntKind.u64.wrap ((IntKind.u64.wrap (ji9)) + 1)) t113 _ A10.out).mono ?_); rintro e w' ⟨rfl, ⟨nd, rfl⟩⟩; refine ⟨_, rfl, ?_⟩; (try (rw [drewN_self wr]; generalize hq_ : World.drewN wr _ = wr; have n0_ : Aside0 (Kd.R (Kd.int .i64) 3 wr w.heap.size (fun _ => True) v110 x3_1) := ⟨by rw [← hq_]; exact (by (with_reducible repeat (first | apply Kd.R_alloc | apply Kd.R_drewN | apply Kd.R_drew)); (first | exact HO_3.out | exact Kd.R_mono HO_3.out (fun _ _ => trivial) | exact Kd.R_mono HO_3.out (fun _ hk => hk.1)))⟩; have n1_ : Aside0 (Below w.heap.size w wr) := ⟨by rw [← hq_]; exact (by repeat (first | (with_reducible first | exact HB.out | apply below_alloc | apply pw_below_drewN | apply below_drew1) | exact HB.out))⟩; clear HO_3 HB hq_; have HO_3 := n0_; have HB := n1_; clear n0_ n1_)); have p12 : 0 ≤ (x11_1 : Int) := of_decide_eq_true (by first | (with_reducible assumption) | assumption); have q12 : (x11_1 : Int) < ((x3_1.length : Int) : Int) := of_decide_eq_true (by first | (with_reducible assumption) | assumption); obtain ⟨go12, co12, eo12, gb12, gl12, cl12, HG12⟩ := Kd.R_form HO_3.out (by omega); (first | cases eo12 | (injection eo12 with ea_ en_ ec_; (first | subst ea_ | (injection ea_ with ea_; subst ea_)); subst ec_; clear en_)); have GB12 := Aside0.mk gb12; have GG12 := Aside0.mk HG12; clear gb12 gl12 HG12; obtain ⟨hx12_0, hf12_0⟩ := Kd.R_celln 0 HO_3.out (x11_1 : Int) p12 q12; replace p12 := eq_true p12; replace q12 := eq_true q12; obtain ⟨hy13_, hz13_⟩ := Kd.R_celln 0 HO_3.out (x11_1 : Int) (of_decide_eq_true (by first | (with_reducible assumption) | assumption)) (of_decide_eq_true (by first | (with_reducible assumption) | assumption)); have HP13 := Kd.R_putg HO_3.out (x11_1 : Int) t113) | ((with_reducible refine gate_store (t := 3) (p := 23) rfl ?_); refine store_event (t := 3) (p := 23) (v := ?vo_w14) (w1 := (wr.setCell ⟨go12, (x11_1 : Int).toNat, none⟩ (.int .i64 t113))) ?hg ?ho ?hn ?hr ?_; (case ho => rfl); (case hg => first | rfl | exact wanted_on rfl rfl rfl (by first | assumption | rfl | (simp [*]; done))); (case hn => rfl); (case hr => first | (go_simp; done) | (go_simp; rfl)); intro w14 hw; have hg : wr.grownBy w14 (some go12) := (by rw [hw]; exact HP13.2); have hp_ : Kd.R (Kd.int .i64) 3 w14 w.heap.size (fun _ => True) (.slice (some ⟨go12, 0, none⟩) x3_1.length co12) y114 := (by rw [hw, Ny114.out]; exact HP13.1); clear HP13; have n0_ := Aside0.mk (hp_); have n1_ := Aside0.mk ((by rw [hw]; exact below_set (HB.out) GB12.out : Below w.heap.size w w14)); clear HO_3; clear HB; have HO_3 := n0_; have HB := n1_; clear n0_ n1_; clear hg hw hp_))
          go_roundg k1
          case measure => have := HK1.out; omega
          case rel => exact ⟨(y114), (wrap64 (x11_1 + 1)), (by first | rfl | (simp; done) | (simp [*]; done)), H', ⟨by have := HK1.out; omega⟩, ⟨by (with_reducible repeat (first | apply Kd.R_alloc | apply Kd.R_drewN | apply Kd.R_drew)); exact HO_3.out⟩, ⟨by repeat (first | (with_reducible first | exact HB.out | apply below_alloc | apply pw_below_drewN | apply below_drew1) | exact HB.out)⟩⟩
         ·
          rw [if_neg c11] at H
          exact absurd H (by simp)
        ·
         rw [if_neg c8] at H
         exact absurd H (by simp)
       ·
        rw [if_neg c7] at H
        exact absurd H (by simp)
      ·
       rw [if_neg c6] at H
       have c6b0 : decide (x11_1 < (l0.length : Int)) = false := decide_eq_false c6
       clear c6
       obtain rfl := Option.some.inj H
       go_wp2
       go_ret
       exact ⟨_, by first | rfl | (simp [errW_none, errW_some] <;> rfl) | (simp [*, errW_none, errW_some] <;> rfl), by (with_reducible repeat (first | apply Kd.R_alloc | apply Kd.R_drewN | apply Kd.R_drew)); exact HO_3.out, by repeat (first | (with_reducible first | exact HB.out | apply below_alloc | apply pw_below_drewN | apply below_drew1) | exact HB.out)⟩
  ·
   rw [if_neg c3] at H
   exact absurd H (by simp)
 ·
  rw [if_neg c2] at H
  exact absurd H (by simp)
end Go.Proofs.YtmhacdnnnebpdaaDoor.PFrontStream
