-- Written by a program of this work (wip/tools) for this claim; Lean checks it.
import Derived.Test.YtohmecfjpmapnaaDoorPCircleWindowx0
import Derived.Test.YtohmecfjpmapnaaDoorPCircleWindowx1
namespace Go.Proofs.YtohmecfjpmapnaaDoor.PCircleWindow
open Go.RowKit Go.Proofs.YtohmecfjpmapnaaDoorW.PrintWords Go.Proofs.YtohmecfjpmapnaaDoorW.PrintLast Go.Proofs.YtohmecfjpmapnaaDoorW.PrintMore
attribute [local go_sem] max2_int min2_int max_two min_two max_three min_three max_four min_four   -- for this text's walks alone
set_option linter.unusedVariables false
set_option linter.unusedSimpArgs false

/-! ### earshotlaw04_CircleWindow: function 6 -/
theorem i64_mask (i : Nat) (hi : i ≤ 62) (n m : Int) (hm : m = ((2 ^ i - 1 : Nat) : Int)) : Go.bits .and .i64 n m = n % ((2 ^ i : Nat) : Int) := by
  have hp : 0 < 2 ^ i := Nat.two_pow_pos i
  have hle : 2 ^ i ≤ 4611686018427387904 := Nat.pow_le_pow_right (n := 2) (by decide) hi
  have h1 : (BitVec.ofInt 64 m).toNat = 2 ^ i - 1 := by
    subst hm
    rw [BitVec.ofInt_natCast, BitVec.toNat_ofNat]
    exact Nat.mod_eq_of_lt (by omega)
  have key : (BitVec.ofInt 64 n &&& BitVec.ofInt 64 m).toNat = (n % ((2 ^ 64 : Nat) : Int)).toNat % 2 ^ i := by
    rw [BitVec.toNat_and, BitVec.toNat_ofInt, h1, Nat.and_two_pow_sub_one_eq_mod]
  show IntKind.i64.wrap ((BitVec.ofInt 64 n &&& BitVec.ofInt 64 m).toNat : Nat) = n % _
  rw [key, IntKind.wrap_i64]
  have r0 : 0 ≤ n % ((2 ^ 64 : Nat) : Int) := Int.emod_nonneg _ (by decide)
  have e : (((n % ((2 ^ 64 : Nat) : Int)).toNat % 2 ^ i : Nat) : Int) = n % ((2 ^ i : Nat) : Int) := by
    rw [Int.natCast_emod, Int.toNat_of_nonneg r0]
    refine Int.emod_emod_of_dvd _ ?_
    exact Int.natCast_dvd_natCast.2 (Nat.pow_dvd_pow 2 (by omega))
  rw [e]
  generalize hz : n % ((2 ^ i : Nat) : Int) = z
  have m0 : 0 ≤ z := hz ▸ Int.emod_nonneg _ (by omega)
  have m1 : z < ((2 ^ i : Nat) : Int) := hz ▸ Int.emod_lt_of_pos _ (by omega)
  have hle' : ((2 ^ i : Nat) : Int) ≤ 4611686018427387904 := Int.ofNat_le.2 hle
  have m2 : z < 4611686018427387904 := Int.lt_of_lt_of_le m1 hle'
  clear m1 hle' hle hz e key h1
  omega

def earshotlaw04_CircleWindow.f (a0 : Int) (a1 : Int) : Option (Bool) := some true
theorem t_awake : earshotlaw04_awake.f = some true := by decide +kernel
theorem c_reads {e : Nat} {w : World} {base : Nat} {ok : Nat → Prop} {v : Value} {xs : List Int} {d : Kd Int} (h : d.R e w base ok v xs) : ∃ A c, v = .slice A xs.length c ∧ Aside0 (xs.length ≤ c) ∧ Aside0 (d.C w A xs.length xs) := by
  obtain ⟨A, c, rfl, h1, h2⟩ := Kd.R_reads h
  exact ⟨A, c, rfl, ⟨h1⟩, ⟨h2⟩⟩
theorem c_ad {w : World} {A : Option Addr} {n : Nat} {xs : List Int} (h : (Kd.int .i64).C w A n xs) (hn : 0 < n) : ∃ ad, A = some ad ∧ ∀ j : Nat, j < n → w.cell? (ad.add j) = some (.int .i64 (xs.getD j 0)) := by
  obtain ⟨ad, ha, _⟩ := Kd.at_int h 0 (by omega) (by omega)
  refine ⟨ad, ha, fun j hj => ?_⟩
  obtain ⟨ad2, ha2, h2⟩ := Kd.at_int h (j : Int) (by omega) (by omega)
  rw [ha] at ha2
  obtain rfl := Option.some.inj ha2
  rw [Int.toNat_natCast] at h2
  rw [h2, rd, Int.toNat_natCast]
def winOk (N : Nat) (t : Nat) : Bool :=
  let w := winList (N : Int); let v := winList (2 * (N : Int)); let u := (N - t) % N; let h := t % (N / 2)
  w.getD t 0 == v.getD (2 * t) 0 && w.getD u 0 == w.getD t 0 && decide (w.getD h 0 < w.getD (h + 1) 0) && w.getD 0 0 == 1310 && w.getD (N / 2) 0 == 16384 && decide (17693 ≤ w.getD t 0 + w.getD ((t + N / 2) % N) 0) && decide (w.getD t 0 + w.getD ((t + N / 2) % N) 0 ≤ 17695) && decide (0 ≤ w.getD t 0) && decide (w.getD t 0 ≤ 16384) && decide (0 ≤ w.getD ((t + N / 2) % N) 0) && decide (w.getD ((t + N / 2) % N) 0 ≤ 16384)
theorem win_ok16 : ∀ t : Fin 16, winOk 16 t.1 = true := by decide +kernel
theorem win_ok32 : ∀ t : Fin 32, winOk 32 t.1 = true := by decide +kernel
theorem win_ok {N t : Nat} (hN : N = 16 ∨ N = 32) (ht : t < N) : winOk N t = true := by
  rcases hN with rfl | rfl
  · exact win_ok16 ⟨t, ht⟩
  · exact win_ok32 ⟨t, ht⟩
theorem win_len16 : (winList 16).length = 16 := by decide +kernel
theorem win_len32 : (winList 32).length = 32 := by decide +kernel
theorem win_len64 : (winList 64).length = 64 := by decide +kernel
set_option maxHeartbeats 8000000 in
theorem earshotlaw04_CircleWindow.calls (a0 : Int) (a1 : Int) (r : Bool) (w : World) (hG : GlobA w) (h : earshotlaw04_CircleWindow.f a0 a1 = some r) :
    Calls Tryd.prog 6 #[.int .i64 a0, .int .i64 a1] w fun e w' => e = .returned (.bool r) ∧ Below w.heap.size w w' := by
  obtain rfl := Option.some.inj h
  clear h
  have m1 := i64_mask 1 (by decide) a0 1 rfl
  have HG := Aside0.mk hG
  have HA := Aside0.mk t_awake
  clear hG
  have hc : Go.bits .and .i64 a0 1 = 0 ∨ Go.bits .and .i64 a0 1 = 1 := by rw [m1]; omega
  clear m1
  rcases hc with hand | hand
  · obtain ⟨t, ht, et⟩ : ∃ t : Nat, t < 16 ∧ Go.bits .and .i64 a1 15 = (t : Int) := ⟨(a1 % 16).toNat, by omega, by rw [i64_mask 4 (by decide) a1 15 rfl]; omega⟩
    obtain ⟨u, hu, eu⟩ : ∃ u : Nat, u = (16 - t) % 16 ∧ Go.bits .and .i64 (16 - (t : Int)) 15 = (u : Int) := ⟨_, rfl, by rw [i64_mask 4 (by decide) _ 15 rfl]; omega⟩
    obtain ⟨h, hh, eh⟩ : ∃ h : Nat, h = t % (16 / 2) ∧ Go.bits .and .i64 (t : Int) 7 = (h : Int) := ⟨_, rfl, by rw [i64_mask 3 (by decide) _ 7 rfl]; omega⟩
    obtain ⟨o, ho, eo⟩ : ∃ o : Nat, o = (t + 16 / 2) % 16 ∧ Go.bits .and .i64 ((t : Int) + 8) 15 = (o : Int) := ⟨_, rfl, by rw [i64_mask 4 (by decide) _ 15 rfl]; omega⟩
    have hk := win_ok (N := 16) (.inl rfl) ht
    unfold winOk at hk
    simp only [Bool.and_eq_true, beq_iff_eq, decide_eq_true_eq, ← hu, ← hh, ← ho] at hk
    have hul : u < 16 := by omega
    have hhl : h + 1 < 16 := by omega
    have hol : o < 16 := by omega
    obtain ⟨⟨⟨⟨⟨⟨⟨⟨⟨⟨q1, q2⟩, q3⟩, q4⟩, q5⟩, q6⟩, q7⟩, q8⟩, q9⟩, q10⟩, q11⟩ := hk
    obtain ⟨x, hx⟩ : ∃ x, (winList 16).getD t 0 = x := ⟨_, rfl⟩
    obtain ⟨z, hz⟩ : ∃ z, (winList 16).getD o 0 = z := ⟨_, rfl⟩
    obtain ⟨p, hp⟩ : ∃ p, (winList 16).getD h 0 = p := ⟨_, rfl⟩
    obtain ⟨q, hq⟩ : ∃ q, (winList 16).getD (h + 1) 0 = q := ⟨_, rfl⟩
    simp only [Int.cast_ofNat_Int] at q1 q2 q3 q4 q5 q6 q7 q8 q9 q10 q11
    rw [hx] at q1 q2 q6 q7 q8 q9
    rw [hz] at q6 q7 q10 q11
    rw [hp, hq] at q3
    have Q1 := Aside0.mk q1.symm
    have Q2 := Aside0.mk q2
    have Q4 := Aside0.mk q4
    have Q5 := Aside0.mk q5
    have HX := Aside0.mk hx
    have HZ := Aside0.mk hz
    have HP := Aside0.mk hp
    have HQ := Aside0.mk hq
    clear hu hh ho q1 q2 q4 q5 hx hz hp hq
    go_enter Tryd.func6, Tryd.ntmps6
    go_wp2_with (first
      | (go_at_call 8; (with_reducible refine (earshotlaw04_awake.calls true _ HG.out HA.out).mono ?_); rintro e w1 ⟨rfl, hb⟩; have HB1 := Aside0.mk hb; have HG1 := Aside0.mk (HG.out.below hb); clear hb)
      | (go_at_call 10; (with_reducible refine (circle_Window.calls 16 _ _ HG1.out rfl).mono ?_); rintro e w2 ⟨v, rfl, hR, hb⟩; obtain ⟨A1, c1, rfl, HC1, HR1⟩ := c_reads hR; rw [win_len16] at HC1 HR1 ⊢; have HB2 := Aside0.mk (below_step HB1.out hb); have HG2 := Aside0.mk (HG1.out.below hb); clear hb hR HG1)
      | (go_at_call 10; (with_reducible refine (circle_Window.calls 32 _ _ HG2.out rfl).mono ?_); rintro e w3 ⟨v, rfl, hR, hb⟩; obtain ⟨A2, c2, rfl, HC2, HR2⟩ := c_reads hR; rw [win_len32] at HC2 HR2 ⊢; have HB3 := Aside0.mk (below_step HB2.out hb); obtain ⟨ad, rfl, hw⟩ := c_ad (Kd.C_below HR1.out hb) (by decide); obtain ⟨ad2, rfl, hv⟩ := c_ad HR2.out (by decide); have HW := Aside0.mk hw; have HV := Aside0.mk hv; clear hw hv hb hR HG2))
    have k1 := HW.out t ht
    have k2 := HW.out o hol
    rw [HX.out] at k1
    rw [HZ.out] at k2
    have j1 : (0 : Int) ≤ (t : Int) := by omega
    have j2 : (t : Int) < 16 := by omega
    have j3 : (0 : Int) ≤ (o : Int) := by omega
    have j4 : (o : Int) < 16 := by omega
    go_quiet (fail)
    go_wp2
    have k3 := HV.out (2 * t) (by omega)
    rw [show (winList 32).getD (2 * t) 0 = x from Q1.out] at k3
    have k4 := HW.out u hul
    rw [Q2.out] at k4
    have k5 := HW.out h (by omega)
    rw [HP.out] at k5
    have k6 := HW.out (h + 1) hhl
    rw [HQ.out] at k6
    have k7 := HW.out 0 (by decide)
    rw [Q4.out] at k7
    have k8 := HW.out 8 (by decide)
    rw [show (winList 16).getD 8 0 = 16384 from Q5.out] at k8
    rw [show ad.add (h + 1) = ⟨ad.block, ad.off + (h + 1), none⟩ by simp [Addr.add]] at k6
    rw [show ad.add 0 = ad by simp [Addr.add]] at k7
    rw [show ad.add 8 = ⟨ad.block, ad.off + 8, none⟩ by simp [Addr.add]] at k8
    have j5 : (2 * (t : Int)) < 32 := by omega
    have j6 : (0 : Int) ≤ (u : Int) := by omega
    have j7 : (u : Int) < 16 := by omega
    have j8 : (0 : Int) ≤ (h : Int) := by omega
    have j9 : (h : Int) < 16 := by omega
    have j10 : (h : Int) + 1 < 16 := by omega
    have n0 : 0 ≤ 2 * (t : Int) := by omega
    have n1 : 0 ≤ (h : Int) + 1 := by omega
    have i1 : IntKind.i64.wrap (2 * (t : Int)) = 2 * (t : Int) := IntWalk.i64_in _ (by omega)
    have i2 : (2 * (t : Int)).toNat = 2 * t := by omega
    have i3 : IntKind.i64.wrap ((h : Int) + 1) = (h : Int) + 1 := IntWalk.i64_in _ (by omega)
    have i4 : ((h : Int) + 1).toNat = h + 1 := by omega
    have d1 : decide (p < q) = true := decide_eq_true q3
    have d2 : decide (17693 ≤ x + z) = true := decide_eq_true q6
    have d3 : decide (x + z ≤ 17695) = true := decide_eq_true q7
    go_quiet (fail)
    go_wp2
    go_ret
    exact ⟨rfl, pw_below_drewN (pw_below_drewN HB3.out _) _⟩
  · obtain ⟨t, ht, et⟩ : ∃ t : Nat, t < 32 ∧ Go.bits .and .i64 a1 31 = (t : Int) := ⟨(a1 % 32).toNat, by omega, by rw [i64_mask 5 (by decide) a1 31 rfl]; omega⟩
    obtain ⟨u, hu, eu⟩ : ∃ u : Nat, u = (32 - t) % 32 ∧ Go.bits .and .i64 (32 - (t : Int)) 31 = (u : Int) := ⟨_, rfl, by rw [i64_mask 5 (by decide) _ 31 rfl]; omega⟩
    obtain ⟨h, hh, eh⟩ : ∃ h : Nat, h = t % (32 / 2) ∧ Go.bits .and .i64 (t : Int) 15 = (h : Int) := ⟨_, rfl, by rw [i64_mask 4 (by decide) _ 15 rfl]; omega⟩
    obtain ⟨o, ho, eo⟩ : ∃ o : Nat, o = (t + 32 / 2) % 32 ∧ Go.bits .and .i64 ((t : Int) + 16) 31 = (o : Int) := ⟨_, rfl, by rw [i64_mask 5 (by decide) _ 31 rfl]; omega⟩
    have hk := win_ok (N := 32) (.inr rfl) ht
    unfold winOk at hk
    simp only [Bool.and_eq_true, beq_iff_eq, decide_eq_true_eq, ← hu, ← hh, ← ho] at hk
    have hul : u < 32 := by omega
    have hhl : h + 1 < 32 := by omega
    have hol : o < 32 := by omega
    obtain ⟨⟨⟨⟨⟨⟨⟨⟨⟨⟨q1, q2⟩, q3⟩, q4⟩, q5⟩, q6⟩, q7⟩, q8⟩, q9⟩, q10⟩, q11⟩ := hk
    obtain ⟨x, hx⟩ : ∃ x, (winList 32).getD t 0 = x := ⟨_, rfl⟩
    obtain ⟨z, hz⟩ : ∃ z, (winList 32).getD o 0 = z := ⟨_, rfl⟩
    obtain ⟨p, hp⟩ : ∃ p, (winList 32).getD h 0 = p := ⟨_, rfl⟩
    obtain ⟨q, hq⟩ : ∃ q, (winList 32).getD (h + 1) 0 = q := ⟨_, rfl⟩
    simp only [Int.cast_ofNat_Int] at q1 q2 q3 q4 q5 q6 q7 q8 q9 q10 q11
    rw [hx] at q1 q2 q6 q7 q8 q9
    rw [hz] at q6 q7 q10 q11
    rw [hp, hq] at q3
    have Q1 := Aside0.mk q1.symm
    have Q2 := Aside0.mk q2
    have Q4 := Aside0.mk q4
    have Q5 := Aside0.mk q5
    have HX := Aside0.mk hx
    have HZ := Aside0.mk hz
    have HP := Aside0.mk hp
    have HQ := Aside0.mk hq
    clear hu hh ho q1 q2 q4 q5 hx hz hp hq
    go_enter Tryd.func6, Tryd.ntmps6
    go_wp2_with (first
      | (go_at_call 8; (with_reducible refine (earshotlaw04_awake.calls true _ HG.out HA.out).mono ?_); rintro e w1 ⟨rfl, hb⟩; have HB1 := Aside0.mk hb; have HG1 := Aside0.mk (HG.out.below hb); clear hb)
      | (go_at_call 10; (with_reducible refine (circle_Window.calls 32 _ _ HG1.out rfl).mono ?_); rintro e w2 ⟨v, rfl, hR, hb⟩; obtain ⟨A1, c1, rfl, HC1, HR1⟩ := c_reads hR; rw [win_len32] at HC1 HR1 ⊢; have HB2 := Aside0.mk (below_step HB1.out hb); have HG2 := Aside0.mk (HG1.out.below hb); clear hb hR HG1)
      | (go_at_call 10; (with_reducible refine (circle_Window.calls 64 _ _ HG2.out rfl).mono ?_); rintro e w3 ⟨v, rfl, hR, hb⟩; obtain ⟨A2, c2, rfl, HC2, HR2⟩ := c_reads hR; rw [win_len64] at HC2 HR2 ⊢; have HB3 := Aside0.mk (below_step HB2.out hb); obtain ⟨ad, rfl, hw⟩ := c_ad (Kd.C_below HR1.out hb) (by decide); obtain ⟨ad2, rfl, hv⟩ := c_ad HR2.out (by decide); have HW := Aside0.mk hw; have HV := Aside0.mk hv; clear hw hv hb hR HG2))
    have k1 := HW.out t ht
    have k2 := HW.out o hol
    rw [HX.out] at k1
    rw [HZ.out] at k2
    have j1 : (0 : Int) ≤ (t : Int) := by omega
    have j2 : (t : Int) < 32 := by omega
    have j3 : (0 : Int) ≤ (o : Int) := by omega
    have j4 : (o : Int) < 32 := by omega
    go_quiet (fail)
    go_wp2
    have k3 := HV.out (2 * t) (by omega)
    rw [show (winList 64).getD (2 * t) 0 = x from Q1.out] at k3
    have k4 := HW.out u hul
    rw [Q2.out] at k4
    have k5 := HW.out h (by omega)
    rw [HP.out] at k5
    have k6 := HW.out (h + 1) hhl
    rw [HQ.out] at k6
    have k7 := HW.out 0 (by decide)
    rw [Q4.out] at k7
    have k8 := HW.out 16 (by decide)
    rw [show (winList 32).getD 16 0 = 16384 from Q5.out] at k8
    rw [show ad.add (h + 1) = ⟨ad.block, ad.off + (h + 1), none⟩ by simp [Addr.add]] at k6
    rw [show ad.add 0 = ad by simp [Addr.add]] at k7
    rw [show ad.add 16 = ⟨ad.block, ad.off + 16, none⟩ by simp [Addr.add]] at k8
    have j5 : (2 * (t : Int)) < 64 := by omega
    have j6 : (0 : Int) ≤ (u : Int) := by omega
    have j7 : (u : Int) < 32 := by omega
    have j8 : (0 : Int) ≤ (h : Int) := by omega
    have j9 : (h : Int) < 32 := by omega
    have j10 : (h : Int) + 1 < 32 := by omega
    have n0 : 0 ≤ 2 * (t : Int) := by omega
    have n1 : 0 ≤ (h : Int) + 1 := by omega
    have i1 : IntKind.i64.wrap (2 * (t : Int)) = 2 * (t : Int) := IntWalk.i64_in _ (by omega)
    have i2 : (2 * (t : Int)).toNat = 2 * t := by omega
    have i3 : IntKind.i64.wrap ((h : Int) + 1) = (h : Int) + 1 := IntWalk.i64_in _ (by omega)
    have i4 : ((h : Int) + 1).toNat = h + 1 := by omega
    have d1 : decide (p < q) = true := decide_eq_true q3
    have d2 : decide (17693 ≤ x + z) = true := decide_eq_true q6
    have d3 : decide (x + z ≤ 17695) = true := decide_eq_true q7
    go_quiet (fail)
    go_wp2
    go_ret
    exact ⟨rfl, pw_below_drewN (pw_below_drewN HB3.out _) _⟩

/-- THE ONE PURE STATEMENT of earshotlaw04_CircleWindow: yours. -/
def earshotlaw04_CircleWindow.Pure : Prop := ∀ (a0 : Int) (a1 : Int), (Lit.int .i64 a0).wf = true → (Lit.int .i64 a1).wf = true → earshotlaw04_CircleWindow.f a0 a1 = some true
theorem earshotlaw04_CircleWindow.walk (P : earshotlaw04_CircleWindow.Pure) (a0 : Int) (a1 : Int) (w : World) (w0 : (Lit.int .i64 a0).wf = true) (w1 : (Lit.int .i64 a1).wf = true) (hG : GlobA w) :
    Calls Tryd.prog 6 #[.int .i64 a0, .int .i64 a1] w fun e w' => e = .returned (.bool true) ∧ Below w.heap.size w w' := by
  have h := P a0 a1 w0 w1
  refine (earshotlaw04_CircleWindow.calls a0 a1 true w hG h).mono ?_
  rintro e w' ⟨rfl, hd⟩
  exact ⟨rfl, hd⟩

end Go.Proofs.YtohmecfjpmapnaaDoor.PCircleWindow
