-- Written by a program of this work (wip/tools) for this claim; Lean checks it.
import Derived.Test.YtmhacdnnnebpdaaDoorPFrontStreamx0
namespace Go.Proofs.YtmhacdnnnebpdaaDoor.PFrontStream
open Go.RowKit Go.Proofs.YtmhacdnnnebpdaaDoorW.PrintWords Go.Proofs.YtmhacdnnnebpdaaDoorW.PrintLast Go.Proofs.YtmhacdnnnebpdaaDoorW.PrintMore
attribute [local go_sem] max2_int min2_int max_two min_two max_three min_three max_four min_four   -- for this text's walks alone
set_option linter.unusedVariables false
set_option linter.unusedSimpArgs false
def dct_may.f (a0 : Int) : Option (Bool) := if a0 = 4 then (some true) else (if a0 = 8 then (some true) else (if a0 = 16 then (some true) else (some false)))
set_option maxHeartbeats 8000000 in
set_option maxRecDepth 100000 in
theorem dct_may.calls (a0 : Int) (r : Bool) (w : World) (h : dct_may.f a0 = some r) :
  Calls Tryd.prog 44 #[.int .i64 a0] w fun e w' => e = .returned (.bool r) ∧ Drawn0 w w' := by
 have H : (if a0 = 4 then (some true) else (if a0 = 8 then (some true) else (if a0 = 16 then (some true) else (some false)))) = some r := h
 clear h
 by_cases c2 : a0 = 4
 ·
  rw [if_pos c2] at H
  have c2b0 : (a0 == 4) = true := beq_iff_eq.mpr c2
  have c2b1 : (a0 != 4) = false := bne_eq_false_iff_eq.mpr c2
  clear c2
  obtain rfl := Option.some.inj H
  go_enter Tryd.func44, Tryd.ntmps44
  go_wp2
  go_ret
  exact ⟨by first | rfl | (simp; done) | (simp [*]; done), by repeat (first | exact Drawn0.refl _ | apply Drawn0.step)⟩
 ·
  rw [if_neg c2] at H
  have c2b0 : (a0 == 4) = false := beq_eq_false_iff_ne.mpr c2
  have c2b1 : (a0 != 4) = true := bne_iff_ne.mpr c2
  by_cases c3 : a0 = 8
  ·
   rw [if_pos c3] at H
   have c3b0 : (a0 == 8) = true := beq_iff_eq.mpr c3
   have c3b1 : (a0 != 8) = false := bne_eq_false_iff_eq.mpr c3
   clear c3
   obtain rfl := Option.some.inj H
   go_enter Tryd.func44, Tryd.ntmps44
   go_wp2
   go_ret
   exact ⟨by first | rfl | (simp; done) | (simp [*]; done), by repeat (first | exact Drawn0.refl _ | apply Drawn0.step)⟩
  ·
   rw [if_neg c3] at H
   have c3b0 : (a0 == 8) = false := beq_eq_false_iff_ne.mpr c3
   have c3b1 : (a0 != 8) = true := bne_iff_ne.mpr c3
   by_cases c4 : a0 = 16
   ·
    rw [if_pos c4] at H
    have c4b0 : (a0 == 16) = true := beq_iff_eq.mpr c4
    have c4b1 : (a0 != 16) = false := bne_eq_false_iff_eq.mpr c4
    clear c4
    obtain rfl := Option.some.inj H
    go_enter Tryd.func44, Tryd.ntmps44
    go_wp2
    go_ret
    exact ⟨by first | rfl | (simp; done) | (simp [*]; done), by repeat (first | exact Drawn0.refl _ | apply Drawn0.step)⟩
   ·
    rw [if_neg c4] at H
    have c4b0 : (a0 == 16) = false := beq_eq_false_iff_ne.mpr c4
    have c4b1 : (a0 != 16) = true := bne_iff_ne.mpr c4
    obtain rfl := Option.some.inj H
    go_enter Tryd.func44, Tryd.ntmps44
    go_wp2
    go_ret
    exact ⟨by first | rfl | (simp; done) | (simp [*]; done), by repeat (first | exact Drawn0.refl _ | apply Drawn0.step)⟩
def round_Parts.f (a0 : Int) (a1 : Int) : Option (Int × Int) := if a1 < 1 then (some (0, 0)) else (if a1 = 0 then (none) else (if (Int.tmod a0 a1) < 0 then (some (wrap64 ((wrap64 (Int.tdiv a0 a1)) - 1), wrap64 ((Int.tmod a0 a1) + a1))) else (some (wrap64 (Int.tdiv a0 a1), Int.tmod a0 a1))))
set_option maxHeartbeats 8000000 in
set_option maxRecDepth 100000 in
theorem round_Parts.calls (a0 : Int) (a1 : Int) (r1 : Int) (r2 : Int) (w : World) (h : round_Parts.f a0 a1 = some (r1, r2)) :
  Calls Tryd.prog 83 #[.int .i64 a0, .int .i64 a1] w fun e w' => e = .returned (.tuple #[.int .i64 r1, .int .i64 r2]) ∧ Drawn0 w w' := by
 have H : (if a1 < 1 then (some (0, 0)) else (if a1 = 0 then (none) else (if (Int.tmod a0 a1) < 0 then (some (wrap64 ((wrap64 (Int.tdiv a0 a1)) - 1), wrap64 ((Int.tmod a0 a1) + a1))) else (some (wrap64 (Int.tdiv a0 a1), Int.tmod a0 a1))))) = some (r1, r2) := h
 clear h
 by_cases c3 : a1 < 1
 ·
  rw [if_pos c3] at H
  have c3b0 : decide (a1 < 1) = true := decide_eq_true c3
  clear c3
  simp only [Option.some.injEq, Prod.mk.injEq] at H
  obtain ⟨rfl, rfl⟩ := H
  go_enter Tryd.func83, Tryd.ntmps83
  go_wp2
  repeat (go_quiet (fail); try go_wp2)
  go_ret2
  exact ⟨by first | rfl | (simp; done) | (simp [*]; done), by repeat (first | exact Drawn0.refl _ | apply Drawn0.step)⟩
 ·
  rw [if_neg c3] at H
  have c3b0 : decide (a1 < 1) = false := decide_eq_false c3
  clear c3
  by_cases c4 : a1 = 0
  ·
   rw [if_pos c4] at H
   exact absurd H (by simp)
  ·
   rw [if_neg c4] at H
   have c4b0 : (a1 == 0) = false := beq_eq_false_iff_ne.mpr c4
   have c4b1 : (a1 != 0) = true := bne_iff_ne.mpr c4
   by_cases c5 : (Int.tmod a0 a1) < 0
   ·
    rw [if_pos c5] at H
    have c5b0 : decide ((Int.tmod a0 a1) < 0) = true := decide_eq_true c5
    clear c5
    simp only [Option.some.injEq, Prod.mk.injEq] at H
    obtain ⟨rfl, rfl⟩ := H
    go_enter Tryd.func83, Tryd.ntmps83
    go_wp2
    repeat (go_quiet (fail); try go_wp2)
    go_ret2
    exact ⟨by first | rfl | (simp; done) | (simp [*]; done), by repeat (first | exact Drawn0.refl _ | apply Drawn0.step)⟩
   ·
    rw [if_neg c5] at H
    have c5b0 : decide ((Int.tmod a0 a1) < 0) = false := decide_eq_false c5
    clear c5
    simp only [Option.some.injEq, Prod.mk.injEq] at H
    obtain ⟨rfl, rfl⟩ := H
    go_enter Tryd.func83, Tryd.ntmps83
    go_wp2
    repeat (go_quiet (fail); try go_wp2)
    go_ret2
    exact ⟨by first | rfl | (simp; done) | (simp [*]; done), by repeat (first | exact Drawn0.refl _ | apply Drawn0.step)⟩
def circle_Rest.f (a0 : Int) : Option (Int) := (round_Parts.f a0 64).bind fun bt101 => (some bt101.2)
set_option maxHeartbeats 8000000 in
set_option maxRecDepth 100000 in
theorem circle_Rest.calls (a0 : Int) (r : Int) (w : World) (h : circle_Rest.f a0 = some r) :
  Calls Tryd.prog 72 #[.int .i64 a0] w fun e w' => e = .returned (.int .i64 r) ∧ Drawn0 w w' := by
 have H : ((round_Parts.f a0 64).bind fun bt101 => (some bt101.2)) = some r := h
 clear h
 replace H := Option.bind_eq_some_iff.mp H
 obtain ⟨⟨t101, t102⟩, A20, H⟩ := H
 replace H : (some t102) = some r := H
 have A2 := Aside0.mk A20
 clear A20
 obtain rfl := Option.some.inj H
 go_enter Tryd.func72, Tryd.ntmps72
 go_wp2_with (first | ((with_reducible refine gate_callee (f := 83) rfl ?_); refine goesL_ (some 7) rfl rfl Tryd.func83 (by kernel_rfl) rfl #[.int .i64 a0, .int .i64 64] rfl (by (try simp only [List.map_toArray, List.map_cons, List.map_nil]); first | done | rfl | (simp only [List.length_drop, List.length_take]; rfl)) ?_; (with_reducible refine (round_Parts.calls a0 64 t101 t102 _ A2.out).mono ?_); rintro e w' ⟨rfl, ⟨nd, rfl⟩⟩; refine ⟨_, rfl, ?_⟩))
 go_ret
 exact ⟨by first | rfl | (simp; done) | (simp [*]; done), by repeat (first | exact Drawn0.refl _ | apply Drawn0.step)⟩
def cosTab : List Int := [16384, 16305, 16069, 15679, 15137, 14449, 13623, 12665, 11585, 10394, 9102, 7723, 6270, 4756, 3196, 1606, 0]
def GlobA (w : World) : Prop := 0 < w.heap.size ∧ ∀ j : Nat, j < 17 → w.cell? ⟨0, j, none⟩ = some (.int .i64 (cosTab.getD j 0))
theorem GlobA.below {w w' : World} (h : GlobA w) (hb : Below w.heap.size w w') : GlobA w' :=
 ⟨Nat.lt_of_lt_of_le h.1 hb.size, fun j hj => by rw [hb.cell (p := ⟨0, j, none⟩) h.1]; exact h.2 j hj⟩
theorem GlobA.drewN {w : World} (h : GlobA w) (n : Nat) : GlobA (w.drewN n) := h
def ci64b (x : Int) : Bool := decide (-9223372036854775808 ≤ x) && decide (x ≤ 9223372036854775807)
def cosAt (r : Int) : Int := if r > 32 then (if 64 - r > 16 then -(cosTab.getD (32 - (64 - r)).toNat 0) else cosTab.getD (64 - r).toNat 0) else (if r > 16 then -(cosTab.getD (32 - r).toNat 0) else cosTab.getD r.toNat 0)
def circle_Cos.f (a0 : Int) : Option (Int) := if ci64b a0 = true then (some (cosAt (a0 % 64))) else (none)
theorem rest_some {x : Int} (hx : ci64b x = true) : circle_Rest.f x = some (x % 64) := by
 have hx' : -9223372036854775808 ≤ x ∧ x ≤ 9223372036854775807 := by simpa [ci64b] using hx
 have e1 := Int.tmod_eq_emod (a := x) (b := 64)
 have m0 := Int.emod_nonneg x (show (64 : Int) ≠ 0 by decide)
 have m1 := Int.emod_lt_of_pos x (show (0 : Int) < 64 by decide)
 unfold circle_Rest.f round_Parts.f
 rw [if_neg (by decide), if_neg (by decide)]
 by_cases h : 0 ≤ x ∨ (64 : Int) ∣ x
 ·
  rw [if_pos h] at e1
  rw [if_neg (by omega), Option.bind_some, e1]
  simp
 ·
  rw [if_neg h] at e1
  have e2 : ((Int.natAbs 64 : Nat) : Int) = 64 := rfl
  rw [e2] at e1
  rw [if_pos (by omega), Option.bind_some, e1, show wrap64 (x % 64 - 64 + 64) = x % 64 by unfold wrap64; omega]
theorem cosTab_le (j : Nat) : 0 ≤ cosTab.getD j 0 ∧ cosTab.getD j 0 ≤ 16384 := by
 by_cases h : j < 17
 · exact (by decide : ∀ i : Fin 17, 0 ≤ cosTab.getD i.1 0 ∧ cosTab.getD i.1 0 ≤ 16384) ⟨j, h⟩
 ·
  rw [List.getD_eq_getElem?_getD, List.getElem?_eq_none (by simp [cosTab]; omega)]
  decide
set_option maxHeartbeats 8000000 in
theorem circle_Cos.calls (a0 : Int) (r : Int) (w : World) (hG : GlobA w) (h : circle_Cos.f a0 = some r) :
  Calls Tryd.prog 45 #[.int .i64 a0] w fun e w' => e = .returned (.int .i64 r) ∧ Drawn0 w w' := by
 have hx : ci64b a0 = true := by
  unfold circle_Cos.f at h
  split at h
  · assumption
  · cases h
 have HR : Aside0 (cosAt (a0 % 64) = r) := by
  unfold circle_Cos.f at h
  rw [if_pos hx] at h
  exact ⟨Option.some.inj h⟩
 have HP := Aside0.mk (rest_some hx)
 have m0 := Int.emod_nonneg a0 (show (64 : Int) ≠ 0 by decide)
 have m1 := Int.emod_lt_of_pos a0 (show (0 : Int) < 64 by decide)
 clear h hx
 obtain ⟨q, hq⟩ : ∃ q, a0 % 64 = q := ⟨_, rfl⟩
 rw [hq] at HR HP m0 m1
 clear hq
 have HG := Aside0.mk hG
 clear hG
 have cell : ∀ i : Int, 0 ≤ i → i < 17 → Aside0 (w.cell? ⟨0, i.toNat, none⟩ = some (.int .i64 (cosTab.getD i.toNat 0))) := fun i h0 h1 => ⟨HG.out.2 i.toNat (by omega)⟩
 have rng := cosTab_le
 by_cases c1 : q > 32
 ·
  have d1 : decide (32 < q) = true := decide_eq_true c1
  by_cases c2 : 64 - q > 16
  ·
   have d2 : decide (16 < 64 - q) = true := decide_eq_true c2
   have HR2 : Aside0 (r = -(cosTab.getD (32 - (64 - q)).toNat 0)) := ⟨by rw [← HR.out, cosAt, if_pos c1, if_pos c2]⟩
   have hc := (cell (32 - (64 - q)) (by omega) (by omega)).out
   have hb := rng (32 - (64 - q)).toNat
   obtain ⟨v, hv⟩ : ∃ v, cosTab.getD (32 - (64 - q)).toNat 0 = v := ⟨_, rfl⟩
   rw [hv] at hc hb HR2
   clear hv HR cell rng
   have hb0 := hb.1
   have hb1 := hb.2
   clear hb
   go_enter Tryd.func45, Tryd.ntmps45
   go_wp2_with (first | (go_at_call 72; refine (circle_Rest.calls _ _ _ HP.out).mono ?_; rintro e w' ⟨rfl, ⟨nd, rfl⟩⟩) | go_in)
   all_goals
    go_ret
    exact ⟨by rw [HR2.out]; rfl, ⟨_, rfl⟩⟩
  ·
   have d2 : decide (16 < 64 - q) = false := decide_eq_false c2
   have HR2 : Aside0 (r = cosTab.getD (64 - q).toNat 0) := ⟨by rw [← HR.out, cosAt, if_pos c1, if_neg c2]⟩
   have hc := (cell (64 - q) (by omega) (by omega)).out
   have hb := rng (64 - q).toNat
   obtain ⟨v, hv⟩ : ∃ v, cosTab.getD (64 - q).toNat 0 = v := ⟨_, rfl⟩
   rw [hv] at hc hb HR2
   clear hv HR cell rng
   have hb0 := hb.1
   have hb1 := hb.2
   clear hb
   go_enter Tryd.func45, Tryd.ntmps45
   go_wp2_with (first | (go_at_call 72; refine (circle_Rest.calls _ _ _ HP.out).mono ?_; rintro e w' ⟨rfl, ⟨nd, rfl⟩⟩) | go_in)
   all_goals
    go_ret
    exact ⟨by rw [HR2.out]; rfl, ⟨_, rfl⟩⟩
 ·
  have d1 : decide (32 < q) = false := decide_eq_false c1
  by_cases c2 : q > 16
  ·
   have d2 : decide (16 < q) = true := decide_eq_true c2
   have HR2 : Aside0 (r = -(cosTab.getD (32 - q).toNat 0)) := ⟨by rw [← HR.out, cosAt, if_neg c1, if_pos c2]⟩
   have hc := (cell (32 - q) (by omega) (by omega)).out
   have hb := rng (32 - q).toNat
   obtain ⟨v, hv⟩ : ∃ v, cosTab.getD (32 - q).toNat 0 = v := ⟨_, rfl⟩
   rw [hv] at hc hb HR2
   clear hv HR cell rng
   have hb0 := hb.1
   have hb1 := hb.2
   clear hb
   go_enter Tryd.func45, Tryd.ntmps45
   go_wp2_with (first | (go_at_call 72; refine (circle_Rest.calls _ _ _ HP.out).mono ?_; rintro e w' ⟨rfl, ⟨nd, rfl⟩⟩) | go_in)
   all_goals
    go_ret
    exact ⟨by rw [HR2.out]; rfl, ⟨_, rfl⟩⟩
  ·
   have d2 : decide (16 < q) = false := decide_eq_false c2
   have HR2 : Aside0 (r = cosTab.getD (q).toNat 0) := ⟨by rw [← HR.out, cosAt, if_neg c1, if_neg c2]⟩
   have hc := (cell (q) (by omega) (by omega)).out
   have hb := rng (q).toNat
   obtain ⟨v, hv⟩ : ∃ v, cosTab.getD (q).toNat 0 = v := ⟨_, rfl⟩
   rw [hv] at hc hb HR2
   clear hv HR cell rng
   have hb0 := hb.1
   have hb1 := hb.2
   clear hb
   go_enter Tryd.func45, Tryd.ntmps45
   go_wp2_with (first | (go_at_call 72; refine (circle_Rest.calls _ _ _ HP.out).mono ?_; rintro e w' ⟨rfl, ⟨nd, rfl⟩⟩) | go_in)
   all_goals
    go_ret
    exact ⟨by rw [HR2.out]; rfl, ⟨_, rfl⟩⟩
theorem W_W_add (a b : Int) : wrap64 (wrap64 a + b) = wrap64 (a + b) := by unfold wrap64; omega
theorem W_add_W (a b : Int) : wrap64 (a + wrap64 b) = wrap64 (a + b) := by unfold wrap64; omega
theorem W_W_sub (a b : Int) : wrap64 (wrap64 a - b) = wrap64 (a - b) := by unfold wrap64; omega
theorem W_sub_W (a b : Int) : wrap64 (a - wrap64 b) = wrap64 (a - b) := by unfold wrap64; omega
theorem W_neg_W (a : Int) : wrap64 (-(wrap64 a)) = wrap64 (-a) := by unfold wrap64; omega
theorem W_in {a : Int} (h0 : -9223372036854775808 ≤ a) (h1 : a ≤ 9223372036854775807) : wrap64 a = a := by unfold wrap64; omega
theorem W_lo (a : Int) : -9223372036854775808 ≤ wrap64 a := by unfold wrap64; omega
theorem W_hi (a : Int) : wrap64 a ≤ 9223372036854775807 := by unfold wrap64; omega
def S : Nat → (Nat → Int) → Int
 | 0, _ => 0
 | n + 1, g => S n g + g n
theorem S_congr {n : Nat} {g f : Nat → Int} (h : ∀ i, i < n → g i = f i) : S n g = S n f := by
 induction n with
 | zero => rfl
 | succ n ih => rw [S, S, ih (fun i hi => h i (by omega)), h n (by omega)]
theorem S_neg (n : Nat) (g : Nat → Int) : S n (fun i => -g i) = -S n g := by
 induction n with
 | zero => rfl
 | succ n ih => simp only [S, ih]; omega
theorem S_evenodd (n : Nat) (g : Nat → Int) : S (2 * n) g = S n (fun i => g (2 * i)) + S n (fun i => g (2 * i + 1)) := by
 induction n with
 | zero => rfl
 | succ n ih => rw [show 2 * (n + 1) = 2 * n + 1 + 1 by omega, S, S, ih, S, S]; omega
theorem emod_mk {x m q r : Int} (h : x = m * q + r) (h0 : 0 ≤ r) (h1 : r < m) : x % m = r := by
 rw [h, Int.add_comm, Int.add_mul_emod_self_left]
 exact Int.emod_eq_of_lt h0 h1
def In64 (l : List Int) : Prop := ∀ x ∈ l, -9223372036854775808 ≤ x ∧ x ≤ 9223372036854775807
theorem In64.getD {l : List Int} (h : In64 l) (i : Nat) : wrap64 (l.getD i 0) = l.getD i 0 := by
 rw [List.getD_eq_getElem?_getD]
 rcases Nat.lt_or_ge i l.length with hi | hi
 ·
  rw [List.getElem?_eq_getElem hi]
  have := h _ (List.getElem_mem hi)
  exact W_in this.1 this.2
 · rw [List.getElem?_eq_none hi]; exact W_in (a := 0) (by decide) (by decide)
def ext (l : List Int) (p : Int) : Int :=
 if (p % (2 * (l.length : Int))).toNat < l.length then l.getD (p % (2 * (l.length : Int))).toNat 0 else wrap64 (-(l.getD ((p % (2 * (l.length : Int))).toNat - l.length) 0))
def turnL (l : List Int) (k : Int) : List Int := (List.range l.length).map fun q : Nat => ext l ((q : Int) - k)
theorem turnL_length (l : List Int) (k : Int) : (turnL l k).length = l.length := by simp [turnL]
theorem getD_map_range (n : Nat) (f : Nat → Int) (i : Nat) (hi : i < n) : ((List.range n).map f).getD i 0 = f i := by
 rw [List.getD_eq_getElem?_getD, List.getElem?_map, List.getElem?_range hi]; rfl
theorem turnL_getD (l : List Int) (k : Int) (i : Nat) (hi : i < l.length) : (turnL l k).getD i 0 = ext l ((i : Int) - k) := getD_map_range _ _ _ hi
theorem ext_mod {l : List Int} {p q : Int} (h : p % (2 * (l.length : Int)) = q % (2 * (l.length : Int))) : ext l p = ext l q := by unfold ext; rw [h]
theorem ext_low (l : List Int) (i : Nat) (hi : i < l.length) : ext l (i : Int) = l.getD i 0 := by
 have : (i : Int) % (2 * (l.length : Int)) = i := Int.emod_eq_of_lt (by omega) (by omega)
 unfold ext
 rw [this, if_pos (by omega), Int.toNat_natCast]
theorem add_half (h : Nat) (h0 : 0 < h) (p : Int) : (p + h) % (2 * (h : Int)) = if p % (2 * (h : Int)) < h then p % (2 * (h : Int)) + h else p % (2 * (h : Int)) - h := by
 have e := Int.mul_ediv_add_emod p (2 * (h : Int))
 have r0 := Int.emod_nonneg p (show 2 * (h : Int) ≠ 0 by omega)
 have r1 := Int.emod_lt_of_pos p (show 0 < 2 * (h : Int) by omega)
 generalize hq : p / (2 * (h : Int)) = q at e
 generalize hr : p % (2 * (h : Int)) = r at e r0 r1
 split
 · exact emod_mk (q := q) (by omega) (by omega) (by omega)
 ·
  refine emod_mk (q := q + 1) ?_ (by omega) (by omega)
  rw [Int.mul_add]; omega
theorem row_ext {a b : List Int} (hl : a.length = b.length) (h : ∀ i, i < a.length → a.getD i 0 = b.getD i 0) : a = b := by
 apply List.ext_getElem hl
 intro i h1 h2
 have := h i h1
 rwa [List.getD_eq_getElem?_getD, List.getD_eq_getElem?_getD, List.getElem?_eq_getElem h1, List.getElem?_eq_getElem h2] at this
def addL (a b : List Int) : List Int := if a.length = b.length then List.zipWith (fun x y => wrap64 (x + y)) a b else []
def lessL (a b : List Int) : List Int := if a.length = b.length then List.zipWith (fun x y => wrap64 (x - y)) a b else []
theorem addL_length {a b : List Int} (h : a.length = b.length) : (addL a b).length = a.length := by unfold addL; rw [if_pos h, List.length_zipWith]; omega
theorem lessL_length {a b : List Int} (h : a.length = b.length) : (lessL a b).length = a.length := by unfold lessL; rw [if_pos h, List.length_zipWith]; omega
theorem zip_getD {a b : List Int} (f : Int → Int → Int) (i : Nat) (h1 : i < a.length) (h2 : i < b.length) : (List.zipWith f a b).getD i 0 = f (a.getD i 0) (b.getD i 0) := by
 simp only [List.getD_eq_getElem?_getD, List.getElem?_zipWith, List.getElem?_eq_getElem h1, List.getElem?_eq_getElem h2]; rfl
theorem addL_getD {a b : List Int} (h : a.length = b.length) (i : Nat) (hi : i < a.length) : (addL a b).getD i 0 = wrap64 (a.getD i 0 + b.getD i 0) := by
 unfold addL; rw [if_pos h, zip_getD _ i hi (by omega)]
theorem lessL_getD {a b : List Int} (h : a.length = b.length) (i : Nat) (hi : i < a.length) : (lessL a b).getD i 0 = wrap64 (a.getD i 0 - b.getD i 0) := by
 unfold lessL; rw [if_pos h, zip_getD _ i hi (by omega)]
theorem In64_of_getD {l : List Int} (h : ∀ i, i < l.length → ∃ x, l.getD i 0 = wrap64 x) : In64 l := by
 intro x hx
 obtain ⟨i, hi, rfl⟩ := List.getElem_of_mem hx
 obtain ⟨y, hy⟩ := h i hi
 rw [List.getD_eq_getElem?_getD, List.getElem?_eq_getElem hi, Option.getD_some] at hy
 rw [hy]
 exact ⟨W_lo _, W_hi _⟩
theorem addL_in (a b : List Int) : In64 (addL a b) := by
 by_cases h : a.length = b.length
 · exact In64_of_getD fun i hi => ⟨_, addL_getD h i (by rwa [addL_length h] at hi)⟩
 · unfold addL; rw [if_neg h]; intro x hx; cases hx
theorem lessL_in (a b : List Int) : In64 (lessL a b) := by
 by_cases h : a.length = b.length
 · exact In64_of_getD fun i hi => ⟨_, lessL_getD h i (by rwa [lessL_length h] at hi)⟩
 · unfold lessL; rw [if_neg h]; intro x hx; cases hx
theorem turn_info : (Tryd.prog.info? 3).map (fun i => (i.zero, i.size, i.bytes)) = some (some (.int .i64 0), 1, 8) := by kernel_rfl
theorem own_free {W : World} {b g h cap : Nat} {xs : List Int} (HO : W.ownsRow b 3 1 (.slice (some ⟨g, 0, none⟩) h cap) h (nums .i64 xs)) (q : Nat) (hq : q < h) : (∃ y : Int, W.cell? ⟨g, q, none⟩ = some (.int .i64 y)) ∧ W.frozen? ⟨g, q, none⟩ = false := by
 have := own_at HO (q : Int) (by omega) (by omega)
 rw [Int.toNat_natCast] at this
 exact ⟨⟨_, this.1⟩, this.2⟩
theorem sp_ad {w : World} {A : Option Addr} {n : Nat} {xs : List Int} (h : (Kd.int .i64).C w A n xs) (hn : 0 < n) : ∃ ad, A = some ad ∧ ∀ j : Nat, j < n → w.cell? (ad.add j) = some (.int .i64 (xs.getD j 0)) := by
 obtain ⟨ad, ha, _⟩ := Kd.at_int h 0 (by omega) (by omega)
 refine ⟨ad, ha, fun j hj => ?_⟩
 obtain ⟨ad2, ha2, h2⟩ := Kd.at_int h (j : Int) (by omega) (by omega)
 rw [ha] at ha2
 obtain rfl := Option.some.inj ha2
 rw [Int.toNat_natCast] at h2
 rw [h2, rd, Int.toNat_natCast]
theorem sp_cell {w : World} {ad : Addr} {n : Nat} {xs : List Int} (h : (Kd.int .i64).C w (some ad) n xs) (j : Nat) (hj : j < n) : w.cell? (ad.add j) = some (.int .i64 (xs.getD j 0)) := by
 obtain ⟨ad2, ha, hw⟩ := sp_ad h (by omega)
 obtain rfl := Option.some.inj ha
 exact hw j hj
def mayB (n : Nat) : Bool := n == 4 || n == 8 || n == 16
theorem mayB_cases {n : Nat} (h : mayB n = true) : n = 4 ∨ n = 8 ∨ n = 16 := by
 simp only [mayB, Bool.or_eq_true, beq_iff_eq] at h; omega
def dctRow (k n : Nat) : List Int := (List.range n).map fun m : Nat => cosAt (((k : Int) * (2 * (m : Int) + 1) * ((16 / n : Nat) : Int)) % 64)
theorem dctRow_length (k n : Nat) : (dctRow k n).length = n := by simp [dctRow]
def dS (c x : List Int) : Nat → Int
 | 0 => 0
 | j + 1 => wrap64 (dS c x j + wrap64 (c.getD j 0 * x.getD j 0))
theorem dS_in (c x : List Int) (n : Nat) : -9223372036854775808 ≤ dS c x n ∧ dS c x n ≤ 9223372036854775807 := by
 cases n with
 | zero => exact ⟨show (-9223372036854775808 : Int) ≤ 0 by decide, show (0 : Int) ≤ 9223372036854775807 by decide⟩
 | succ n => exact ⟨W_lo _, W_hi _⟩
def rowMay (k n : Int) : Bool := mayB n.toNat && decide (0 ≤ k) && decide (k < n)
def rowF (k n : Int) : List Int := if rowMay k n = true then dctRow k.toNat n.toNat else []
def dct_Row.f (a0 a1 : Int) : Option (List Int) := some (rowF a0 a1)
theorem dct_cos {x : Int} (h0 : -9223372036854775808 ≤ x) (h1 : x ≤ 9223372036854775807) : circle_Cos.f x = some (cosAt (x % 64)) := by
 unfold circle_Cos.f; rw [if_pos]; simp [ci64b, h0, h1]
theorem dct_may_f (n : Int) : dct_may.f n = some (mayB n.toNat) := by
 unfold dct_may.f mayB
 by_cases h4 : n = 4
 · subst h4; rfl
 by_cases h8 : n = 8
 · subst h8; rfl
 by_cases h16 : n = 16
 · subst h16; rfl
 rw [if_neg h4, if_neg h8, if_neg h16]
 have e4 : (n.toNat == 4) = false := by simp; omega
 have e8 : (n.toNat == 8) = false := by simp; omega
 have e16 : (n.toNat == 16) = false := by simp; omega
 rw [e4, e8, e16]; rfl
set_option maxHeartbeats 8000000 in
theorem row_4 (k : Nat) (w : World) (hG : GlobA w) (hk : k < 4) :
  Calls Tryd.prog 20 #[.int .i64 (k : Int), .int .i64 4] w fun e w' => ∃ v0_ : Value, e = .returned v0_ ∧ Kd.R (Kd.int .i64) 3 w' w.heap.size (fun _ => True) v0_ (dctRow k 4) ∧ Below w.heap.size w w' := by
 have hmk := print_make 22 3 .i64 8 Tryd.underlying22 turn_info (by decide) 4 (by omega)
 simp only [Int.cast_ofNat_Int] at hmk
 have HG := Aside0.mk hG
 have HMY := Aside0.mk (by rw [dct_may_f]; rfl : dct_may.f 4 = some true)
 have HLV : Aside0 (∀ j, j < 4 → (dctRow k 4).getD j 0 = cosAt (((k : Int) * (2 * (j : Int) + 1) * ((16 / 4 : Nat) : Int)) % 64)) := ⟨fun j hj => getD_map_range 4 (fun m : Nat => cosAt (((k : Int) * (2 * (m : Int) + 1) * ((16 / 4 : Nat) : Int)) % 64)) j hj⟩
 clear hG
 go_enter Tryd.func20, Tryd.ntmps20
 go_wp2_with (go_at_call 44; (with_reducible refine (dct_may.calls _ _ _ HMY.out).mono ?_); rintro e w1 ⟨rfl, ⟨nd, rfl⟩⟩)
 go_loopw [23] (fun v wr => ∃ (t : Nat) (xs : List Int), t ≤ 4 ∧ v = .int .i64 (t : Int) ∧ Aside0 (xs.length = 4) ∧ Aside0 (∀ j, j < t → xs.getD j 0 = (dctRow k 4).getD j 0) ∧ Aside0 (wr.ownsRow w.heap.size 3 1 (.slice (some ⟨w.heap.size, 0, none⟩) 4 4) 4 (nums .i64 xs)) ∧ Aside0 (Below w.heap.size w wr)) (fun v _ => 4 - (intOf v).toNat)
 case atStart =>
  refine ⟨0, List.replicate 4 0, by omega, rfl, ⟨by simp⟩, ⟨fun j hj => by omega⟩, ⟨?_⟩, ⟨by repeat (first | exact Below.refl _ _ | apply below_alloc | apply pw_below_drewN)⟩⟩
  have := own_made (w.drewN nd) w.heap.size 3 .i64 4 (by simp) (by omega)
  simpa using this
 case round =>
  obtain ⟨t, xs, ht, rfl, HX, HJ, HO, HB⟩ := hrel
  by_cases hlt : t < 4
  ·
   obtain ⟨p, hp⟩ : ∃ p, (k : Int) * (2 * (t : Int) + 1) = p := ⟨_, rfl⟩
   have hp0 : 0 ≤ p := by rw [← hp]; exact Int.mul_nonneg (by omega) (by omega)
   have hp1 : p ≤ 1000 := by
    rw [← hp]
    exact Int.le_trans (Int.mul_le_mul_of_nonneg_right (show (k : Int) ≤ 15 by omega) (show (0 : Int) ≤ 2 * (t : Int) + 1 by omega)) (by omega)
   obtain ⟨z, hz⟩ : ∃ z, cosAt ((p * 4) % 64) = z := ⟨_, rfl⟩
   have HZ : Aside0 (circle_Cos.f (p * 4) = some z) := ⟨by rw [dct_cos (by omega) (by omega), hz]⟩
   have HV : Aside0 ((dctRow k 4).getD t 0 = z) := ⟨by rw [HLV.out t hlt, hp, ← hz]; congr 1 <;> omega⟩
   have HP := Aside0.mk hp0
   obtain ⟨⟨yy, hcz⟩, hfz⟩ := own_free HO.out t hlt
   clear hz
   go_wp2_with (go_at_call 45; (with_reducible refine (circle_Cos.calls _ _ _ (HG.out.below HB.out) HZ.out).mono ?_); rintro e w2 ⟨rfl, ⟨nd2, rfl⟩⟩)
   go_roundw
   case rel =>
    have HO2 := pw_own_below HO.out (pw_below_drewN (Below.refl _ _) nd2)
    have hst := own_store HO2 (t : Int) z
    rw [Int.toNat_natCast] at hst
    refine ⟨t + 1, _, by omega, by go_num, ⟨by rw [List.length_set, HX.out]⟩, ⟨?_⟩, ⟨hst.1⟩, ⟨Below.grown (pw_below_drewN HB.out nd2) hst.2 HB.out.size (fun k hk => by injection hk with hk; omega)⟩⟩
    intro j hj
    by_cases e : j = t
    ·
     subst e
     rw [HV.out, List.getD_eq_getElem?_getD, List.getElem?_set_self (by rw [HX.out]; exact hlt)]; rfl
    ·
     have := HJ.out j (by omega)
     rw [List.getD_eq_getElem?_getD] at this ⊢
     rw [List.getElem?_set_ne (fun h => e h.symm)]
     exact this
   case measure => simp [intOf]; omega
  ·
   obtain rfl : t = 4 := by omega
   go_wp2
   go_ret
   refine ⟨_, rfl, ?_, HB.out⟩
   have hU : xs = dctRow k 4 := row_ext (by rw [HX.out, dctRow_length]) (fun j hj => by rw [HX.out] at hj; exact HJ.out j hj)
   rw [← hU]
   exact Kd.R_of_own (enc := Value.int .i64) (h1 := fun _ => rfl) (ok := fun _ => True) (xs := xs) (by rw [HX.out]; exact HO.out) (fun _ _ => trivial)
set_option maxHeartbeats 8000000 in
theorem row_8 (k : Nat) (w : World) (hG : GlobA w) (hk : k < 8) :
  Calls Tryd.prog 20 #[.int .i64 (k : Int), .int .i64 8] w fun e w' => ∃ v0_ : Value, e = .returned v0_ ∧ Kd.R (Kd.int .i64) 3 w' w.heap.size (fun _ => True) v0_ (dctRow k 8) ∧ Below w.heap.size w w' := by
 have hmk := print_make 22 3 .i64 8 Tryd.underlying22 turn_info (by decide) 8 (by omega)
 simp only [Int.cast_ofNat_Int] at hmk
 have HG := Aside0.mk hG
 have HMY := Aside0.mk (by rw [dct_may_f]; rfl : dct_may.f 8 = some true)
 have HLV : Aside0 (∀ j, j < 8 → (dctRow k 8).getD j 0 = cosAt (((k : Int) * (2 * (j : Int) + 1) * ((16 / 8 : Nat) : Int)) % 64)) := ⟨fun j hj => getD_map_range 8 (fun m : Nat => cosAt (((k : Int) * (2 * (m : Int) + 1) * ((16 / 8 : Nat) : Int)) % 64)) j hj⟩
 clear hG
 go_enter Tryd.func20, Tryd.ntmps20
 go_wp2_with (go_at_call 44; (with_reducible refine (dct_may.calls _ _ _ HMY.out).mono ?_); rintro e w1 ⟨rfl, ⟨nd, rfl⟩⟩)
 go_loopw [23] (fun v wr => ∃ (t : Nat) (xs : List Int), t ≤ 8 ∧ v = .int .i64 (t : Int) ∧ Aside0 (xs.length = 8) ∧ Aside0 (∀ j, j < t → xs.getD j 0 = (dctRow k 8).getD j 0) ∧ Aside0 (wr.ownsRow w.heap.size 3 1 (.slice (some ⟨w.heap.size, 0, none⟩) 8 8) 8 (nums .i64 xs)) ∧ Aside0 (Below w.heap.size w wr)) (fun v _ => 8 - (intOf v).toNat)
 case atStart =>
  refine ⟨0, List.replicate 8 0, by omega, rfl, ⟨by simp⟩, ⟨fun j hj => by omega⟩, ⟨?_⟩, ⟨by repeat (first | exact Below.refl _ _ | apply below_alloc | apply pw_below_drewN)⟩⟩
  have := own_made (w.drewN nd) w.heap.size 3 .i64 8 (by simp) (by omega)
  simpa using this
 case round =>
  obtain ⟨t, xs, ht, rfl, HX, HJ, HO, HB⟩ := hrel
  by_cases hlt : t < 8
  ·
   obtain ⟨p, hp⟩ : ∃ p, (k : Int) * (2 * (t : Int) + 1) = p := ⟨_, rfl⟩
   have hp0 : 0 ≤ p := by rw [← hp]; exact Int.mul_nonneg (by omega) (by omega)
   have hp1 : p ≤ 1000 := by
    rw [← hp]
    exact Int.le_trans (Int.mul_le_mul_of_nonneg_right (show (k : Int) ≤ 15 by omega) (show (0 : Int) ≤ 2 * (t : Int) + 1 by omega)) (by omega)
   obtain ⟨z, hz⟩ : ∃ z, cosAt ((p * 2) % 64) = z := ⟨_, rfl⟩
   have HZ : Aside0 (circle_Cos.f (p * 2) = some z) := ⟨by rw [dct_cos (by omega) (by omega), hz]⟩
   have HV : Aside0 ((dctRow k 8).getD t 0 = z) := ⟨by rw [HLV.out t hlt, hp, ← hz]; congr 1 <;> omega⟩
   have HP := Aside0.mk hp0
   obtain ⟨⟨yy, hcz⟩, hfz⟩ := own_free HO.out t hlt
   clear hz
   go_wp2_with (go_at_call 45; (with_reducible refine (circle_Cos.calls _ _ _ (HG.out.below HB.out) HZ.out).mono ?_); rintro e w2 ⟨rfl, ⟨nd2, rfl⟩⟩)
   go_roundw
   case rel =>
    have HO2 := pw_own_below HO.out (pw_below_drewN (Below.refl _ _) nd2)
    have hst := own_store HO2 (t : Int) z
    rw [Int.toNat_natCast] at hst
    refine ⟨t + 1, _, by omega, by go_num, ⟨by rw [List.length_set, HX.out]⟩, ⟨?_⟩, ⟨hst.1⟩, ⟨Below.grown (pw_below_drewN HB.out nd2) hst.2 HB.out.size (fun k hk => by injection hk with hk; omega)⟩⟩
    intro j hj
    by_cases e : j = t
    ·
     subst e
     rw [HV.out, List.getD_eq_getElem?_getD, List.getElem?_set_self (by rw [HX.out]; exact hlt)]; rfl
    ·
     have := HJ.out j (by omega)
     rw [List.getD_eq_getElem?_getD] at this ⊢
     rw [List.getElem?_set_ne (fun h => e h.symm)]
     exact this
   case measure => simp [intOf]; omega
  ·
   obtain rfl : t = 8 := by omega
   go_wp2
   go_ret
   refine ⟨_, rfl, ?_, HB.out⟩
   have hU : xs = dctRow k 8 := row_ext (by rw [HX.out, dctRow_length]) (fun j hj => by rw [HX.out] at hj; exact HJ.out j hj)
   rw [← hU]
   exact Kd.R_of_own (enc := Value.int .i64) (h1 := fun _ => rfl) (ok := fun _ => True) (xs := xs) (by rw [HX.out]; exact HO.out) (fun _ _ => trivial)
set_option maxHeartbeats 8000000 in
theorem row_16 (k : Nat) (w : World) (hG : GlobA w) (hk : k < 16) :
  Calls Tryd.prog 20 #[.int .i64 (k : Int), .int .i64 16] w fun e w' => ∃ v0_ : Value, e = .returned v0_ ∧ Kd.R (Kd.int .i64) 3 w' w.heap.size (fun _ => True) v0_ (dctRow k 16) ∧ Below w.heap.size w w' := by
 have hmk := print_make 22 3 .i64 8 Tryd.underlying22 turn_info (by decide) 16 (by omega)
 simp only [Int.cast_ofNat_Int] at hmk
 have HG := Aside0.mk hG
 have HMY := Aside0.mk (by rw [dct_may_f]; rfl : dct_may.f 16 = some true)
 have HLV : Aside0 (∀ j, j < 16 → (dctRow k 16).getD j 0 = cosAt (((k : Int) * (2 * (j : Int) + 1) * ((16 / 16 : Nat) : Int)) % 64)) := ⟨fun j hj => getD_map_range 16 (fun m : Nat => cosAt (((k : Int) * (2 * (m : Int) + 1) * ((16 / 16 : Nat) : Int)) % 64)) j hj⟩
 clear hG
 go_enter Tryd.func20, Tryd.ntmps20
 go_wp2_with (go_at_call 44; (with_reducible refine (dct_may.calls _ _ _ HMY.out).mono ?_); rintro e w1 ⟨rfl, ⟨nd, rfl⟩⟩)
 go_loopw [23] (fun v wr => ∃ (t : Nat) (xs : List Int), t ≤ 16 ∧ v = .int .i64 (t : Int) ∧ Aside0 (xs.length = 16) ∧ Aside0 (∀ j, j < t → xs.getD j 0 = (dctRow k 16).getD j 0) ∧ Aside0 (wr.ownsRow w.heap.size 3 1 (.slice (some ⟨w.heap.size, 0, none⟩) 16 16) 16 (nums .i64 xs)) ∧ Aside0 (Below w.heap.size w wr)) (fun v _ => 16 - (intOf v).toNat)
 case atStart =>
  refine ⟨0, List.replicate 16 0, by omega, rfl, ⟨by simp⟩, ⟨fun j hj => by omega⟩, ⟨?_⟩, ⟨by repeat (first | exact Below.refl _ _ | apply below_alloc | apply pw_below_drewN)⟩⟩
  have := own_made (w.drewN nd) w.heap.size 3 .i64 16 (by simp) (by omega)
  simpa using this
 case round =>
  obtain ⟨t, xs, ht, rfl, HX, HJ, HO, HB⟩ := hrel
  by_cases hlt : t < 16
  ·
   obtain ⟨p, hp⟩ : ∃ p, (k : Int) * (2 * (t : Int) + 1) = p := ⟨_, rfl⟩
   have hp0 : 0 ≤ p := by rw [← hp]; exact Int.mul_nonneg (by omega) (by omega)
   have hp1 : p ≤ 1000 := by
    rw [← hp]
    exact Int.le_trans (Int.mul_le_mul_of_nonneg_right (show (k : Int) ≤ 15 by omega) (show (0 : Int) ≤ 2 * (t : Int) + 1 by omega)) (by omega)
   obtain ⟨z, hz⟩ : ∃ z, cosAt ((p) % 64) = z := ⟨_, rfl⟩
   have HZ : Aside0 (circle_Cos.f (p) = some z) := ⟨by rw [dct_cos (by omega) (by omega), hz]⟩
   have HV : Aside0 ((dctRow k 16).getD t 0 = z) := ⟨by rw [HLV.out t hlt, hp, ← hz]; congr 1 <;> omega⟩
   have HP := Aside0.mk hp0
   obtain ⟨⟨yy, hcz⟩, hfz⟩ := own_free HO.out t hlt
   clear hz
   go_wp2_with (go_at_call 45; (with_reducible refine (circle_Cos.calls _ _ _ (HG.out.below HB.out) HZ.out).mono ?_); rintro e w2 ⟨rfl, ⟨nd2, rfl⟩⟩)
   go_roundw
   case rel =>
    have HO2 := pw_own_below HO.out (pw_below_drewN (Below.refl _ _) nd2)
    have hst := own_store HO2 (t : Int) z
    rw [Int.toNat_natCast] at hst
    refine ⟨t + 1, _, by omega, by go_num, ⟨by rw [List.length_set, HX.out]⟩, ⟨?_⟩, ⟨hst.1⟩, ⟨Below.grown (pw_below_drewN HB.out nd2) hst.2 HB.out.size (fun k hk => by injection hk with hk; omega)⟩⟩
    intro j hj
    by_cases e : j = t
    ·
     subst e
     rw [HV.out, List.getD_eq_getElem?_getD, List.getElem?_set_self (by rw [HX.out]; exact hlt)]; rfl
    ·
     have := HJ.out j (by omega)
     rw [List.getD_eq_getElem?_getD] at this ⊢
     rw [List.getElem?_set_ne (fun h => e h.symm)]
     exact this
   case measure => simp [intOf]; omega
  ·
   obtain rfl : t = 16 := by omega
   go_wp2
   go_ret
   refine ⟨_, rfl, ?_, HB.out⟩
   have hU : xs = dctRow k 16 := row_ext (by rw [HX.out, dctRow_length]) (fun j hj => by rw [HX.out] at hj; exact HJ.out j hj)
   rw [← hU]
   exact Kd.R_of_own (enc := Value.int .i64) (h1 := fun _ => rfl) (ok := fun _ => True) (xs := xs) (by rw [HX.out]; exact HO.out) (fun _ _ => trivial)
theorem row_no (a0 a1 : Int) (w : World) (hm : rowMay a0 a1 = false) :
  Calls Tryd.prog 20 #[.int .i64 a0, .int .i64 a1] w fun e w' => ∃ v0_ : Value, e = .returned v0_ ∧ Kd.R (Kd.int .i64) 3 w' w.heap.size (fun _ => True) v0_ [] ∧ Below w.heap.size w w' := by
 have HMY := Aside0.mk (dct_may_f a1)
 have hc : mayB a1.toNat = false ∨ mayB a1.toNat = true ∧ decide (a0 < 0) = true ∨ mayB a1.toNat = true ∧ decide (a0 < 0) = false ∧ decide (a1 ≤ a0) = true := by
  unfold rowMay at hm
  cases hb : mayB a1.toNat
  · exact .inl rfl
  ·
   rw [hb, Bool.true_and] at hm
   refine .inr ?_
   by_cases c1 : a0 < 0
   · exact .inl ⟨rfl, decide_eq_true c1⟩
   ·
    refine .inr ⟨rfl, decide_eq_false c1, decide_eq_true ?_⟩
    rw [decide_eq_true (show 0 ≤ a0 by omega), Bool.true_and, decide_eq_false_iff_not] at hm
    omega
 clear hm
 rcases hc with c | ⟨c, c2⟩ | ⟨c, c2, c3⟩
 all_goals
  rw [c] at HMY
  clear c
  go_enter Tryd.func20, Tryd.ntmps20
  go_wp2_with (go_at_call 44; (with_reducible refine (dct_may.calls _ _ _ HMY.out).mono ?_); rintro e w1 ⟨rfl, ⟨nd, rfl⟩⟩)
  go_ret
  exact ⟨_, rfl, Kd.R_nil _ _ _ _ _, by repeat (first | exact Below.refl _ _ | apply below_alloc | apply pw_below_drewN)⟩
theorem dct_Row.calls (a0 a1 : Int) (r : List Int) (w : World) (hG : GlobA w) (h : dct_Row.f a0 a1 = some r) :
  Calls Tryd.prog 20 #[.int .i64 a0, .int .i64 a1] w fun e w' => ∃ v0_ : Value, e = .returned v0_ ∧ Kd.R (Kd.int .i64) 3 w' w.heap.size (fun _ => True) v0_ r ∧ Below w.heap.size w w' := by
 obtain rfl := Option.some.inj h
 unfold rowF
 by_cases h : rowMay a0 a1 = true
 ·
  rw [if_pos h]
  simp only [rowMay, Bool.and_eq_true, decide_eq_true_eq] at h
  obtain ⟨k, rfl⟩ := Int.eq_ofNat_of_zero_le h.1.2
  obtain ⟨n, rfl⟩ := Int.eq_ofNat_of_zero_le (show 0 ≤ a1 by omega)
  simp only [Int.toNat_natCast] at h ⊢
  rcases mayB_cases h.1.1 with rfl | rfl | rfl
  · exact row_4 k w hG (by omega)
  · exact row_8 k w hG (by omega)
  · exact row_16 k w hG (by omega)
 ·
  rw [if_neg h]
  exact row_no a0 a1 w (by simpa using h)
theorem rowF_yes {k n : Nat} (hm : mayB n = true) (hk : k < n) : rowF (k : Int) (n : Int) = dctRow k n := by
 unfold rowF rowMay
 rw [if_pos]
 · simp
 · simp only [Int.toNat_natCast, hm, Bool.true_and, Bool.and_eq_true, decide_eq_true_eq]; omega
end Go.Proofs.YtmhacdnnnebpdaaDoor.PFrontStream
