-- Written by a program of this work (wip/tools) for this claim; Lean checks it.
import Derived.Test.YtphmfecabbellaaDoorPSpinTurnsx0
import Derived.Test.YtphmfecabbellaaDoorPSpinTurnsx1
import Derived.Test.YtphmfecabbellaaDoorPSpinTurnsx2
namespace Go.Proofs.YtphmfecabbellaaDoor.PSpinTurns
open Go.RowKit Go.Proofs.YtphmfecabbellaaDoorW.PrintWords Go.Proofs.YtphmfecabbellaaDoorW.PrintLast Go.Proofs.YtphmfecabbellaaDoorW.PrintMore
attribute [local go_sem] max2_int min2_int max_two min_two max_three min_three max_four min_four   -- for this text's walks alone
set_option linter.unusedVariables false
set_option linter.unusedSimpArgs false

/-! ### spin_Add: function 20 -/
theorem add_one (x y : Int) (w : World) : Calls Tryd.prog 38 #[.int .i64 x, .int .i64 y] w fun e w' => e = .returned (.int .i64 (wrap64 (x + y))) ∧ w = w' := by
  go_enter Tryd.func38, Tryd.ntmps38
  go_wp2
  go_ret
  exact ⟨rfl, rfl⟩
set_option maxHeartbeats 8000000 in
theorem each_add (A0 A1 : Option Addr) (n c0 m c1 : Nat) (l0 l1 : List Int) (w : World) (hl0 : l0.length = n) (hr0 : Kd.C (Kd.int .i64) w A0 n l0) (hl1 : l1.length = m) (hr1 : Kd.C (Kd.int .i64) w A1 m l1) (hn : n ≤ 1000000) (hm : m ≤ 1000000) :
    Calls Tryd.prog 37 #[.slice A0 n c0, .slice A1 m c1, .func (.func 38) #[] #[]] w fun e w' => ∃ v0_ : Value, e = .returned v0_ ∧ Kd.R (Kd.int .i64) 3 w' w.heap.size (fun _ => True) v0_ (addL l0 l1) ∧ Below w.heap.size w w' := by
  have hmk := print_make 22 3 .i64 8 Tryd.underlying22 turn_info (by decide) n (by omega)
  have HL0 := Aside0.mk hl0
  have HL1 := Aside0.mk hl1
  have HC0 := Aside0.mk hr0
  have HC1 := Aside0.mk hr1
  by_cases hnm : n = m
  · have HU : Aside0 (∀ xs : List Int, xs.length = n → (∀ j, j < n → xs.getD j 0 = wrap64 (l0.getD j 0 + l1.getD j 0)) → xs = addL l0 l1) := ⟨fun xs hx hj => by
      have e : l0.length = l1.length := by omega
      refine row_ext (by rw [addL_length e, hx, hl0]) (fun i hi => ?_)
      rw [hj i (by omega), addL_getD e i (by omega)]⟩
    subst hnm
    clear hl0 hl1 hr0 hr1
    go_enter Tryd.func37, Tryd.ntmps37
    go_wp2
    go_loopw [20] (fun v wr => ∃ (i : Nat) (xs : List Int), i ≤ n ∧ v = .int .i64 (i : Int) ∧ Aside0 (xs.length = n) ∧ Aside0 (∀ j, j < i → xs.getD j 0 = wrap64 (l0.getD j 0 + l1.getD j 0)) ∧ Aside0 (wr.ownsRow w.heap.size 3 1 (.slice (some ⟨w.heap.size, 0, none⟩) n n) n (nums .i64 xs)) ∧ Aside0 (Below w.heap.size w wr)) (fun v _ => n - (intOf v).toNat)
    case atStart =>
      refine ⟨0, List.replicate n 0, by omega, rfl, ⟨by simp⟩, ⟨fun j hj => by omega⟩, ⟨?_⟩, ⟨by repeat (first | exact Below.refl _ _ | apply below_alloc | apply pw_below_drewN)⟩⟩
      exact own_made w w.heap.size 3 .i64 n (Nat.le_refl _) (by omega)
    case round =>
      obtain ⟨i, xs, hi, rfl, HX, HJ, HO, HB⟩ := hrel
      by_cases hlt : i < n
      · obtain ⟨ad, rfl, hcs⟩ := sp_ad HC0.out (by omega)
        obtain ⟨ad1, rfl, hcs1⟩ := sp_ad HC1.out (by omega)
        have hcell := sp_cell (Kd.C_below HC0.out HB.out) i hlt
        have hcell1 := sp_cell (Kd.C_below HC1.out HB.out) i hlt
        obtain ⟨⟨y, hy⟩, hfr⟩ := own_free HO.out i hlt
        obtain ⟨x0, hx0⟩ : ∃ x, l0.getD i 0 = x := ⟨_, rfl⟩
        obtain ⟨x1, hx1⟩ : ∃ x, l1.getD i 0 = x := ⟨_, rfl⟩
        rw [hx0] at hcell
        rw [hx1] at hcell1
        have HX0 := Aside0.mk hx0
        have HX1 := Aside0.mk hx1
        clear hcs hcs1 hx0 hx1
        go_wp2_with (go_at_call 38; (with_reducible refine (add_one x0 x1 _).mono ?_); rintro e w' ⟨rfl, rfl⟩)
        go_roundw
        case rel =>
          have hst := own_store HO.out (i : Int) (wrap64 (x0 + x1))
          rw [Int.toNat_natCast] at hst
          refine ⟨i + 1, _, by omega, by go_num, ⟨by rw [List.length_set, HX.out]⟩, ⟨?_⟩, ⟨hst.1⟩, ⟨Below.grown HB.out hst.2 HB.out.size (fun k hk => by injection hk with hk; omega)⟩⟩
          intro j hj
          by_cases e : j = i
          · subst e
            rw [List.getD_eq_getElem?_getD, List.getElem?_set_self (by rw [HX.out]; exact hlt), HX0.out, HX1.out]; rfl
          · have := HJ.out j (by omega)
            rw [List.getD_eq_getElem?_getD] at this ⊢
            rw [List.getElem?_set_ne (fun h => e h.symm)]
            exact this
        case measure => simp [intOf]; omega
      · obtain rfl : n = i := by omega
        go_wp2
        go_ret
        refine ⟨_, rfl, ?_, HB.out⟩
        rw [← HU.out xs HX.out HJ.out]
        exact Kd.R_of_own (enc := Value.int .i64) (h1 := fun _ => rfl) (ok := fun _ => True) (xs := xs) (by rw [HX.out]; exact HO.out) (fun _ _ => trivial)
  · have hd : ((n : Int) != (m : Int)) = true := by simp; omega
    have HE : Aside0 (addL l0 l1 = []) := ⟨by unfold addL; rw [if_neg (by omega)]⟩
    clear hnm hl0 hl1 hr0 hr1
    go_enter Tryd.func37, Tryd.ntmps37
    go_wp2
    go_ret
    exact ⟨_, rfl, by rw [HE.out]; exact Kd.R_nil _ _ _ _ _, by repeat (first | exact Below.refl _ _ | apply below_alloc | apply pw_below_drewN)⟩
def addGo (h : Nat) : List (List Int) → List Int → List Int
  | [], o => o
  | v :: vs, o => if (addL o v).length = h then addGo h vs (addL o v) else []
def addAll : List (List Int) → List Int
  | [] => []
  | v :: vs => addGo v.length (v :: vs) (List.replicate v.length 0)
theorem row_at {w : World} {A : Option Addr} {n e : Nat} {vs : List (List Int)} (h : (Kd.slice e (Kd.int .i64)).C w A n vs) (j : Nat) (hj : j < n) :
    ∃ ad B c, A = some ad ∧ w.cell? (ad.add j) = some (.slice B (vs.getD j []).length c) ∧ (vs.getD j []).length ≤ c ∧ (Kd.int .i64).C w B (vs.getD j []).length (vs.getD j []) := by
  obtain ⟨ad, c, ha, hs, ⟨B, cp, hc, hle, hC⟩, hcell⟩ := ReadsRow.get_ h [] (j : Int) (by omega) (by omega)
  rw [Int.toNat_natCast] at hc hle hC hcell
  refine ⟨ad, B, cp, ha, ?_, hle, hC⟩
  have := hcell 0 (.slice B (vs.getD j []).length cp) (by rw [hc]; rfl)
  rwa [show j * (Kd.slice e (Kd.int .i64)).sz + 0 = j from by show j * 1 + 0 = j; omega] at this
def add_ok (vs : List (List Int)) : Bool := decide (vs.length ≤ 1000000) && vs.all fun v => decide (v.length ≤ 1000000)
def spin_Add.f (l0 : List (List Int)) : Option (List Int) := if add_ok l0 = true then some (addAll l0) else none
set_option maxHeartbeats 8000000 in
theorem add_go (A0 : Option Addr) (m c0 : Nat) (vs : List (List Int)) (w : World) (hl : vs.length = m) (hr0 : Kd.C (Kd.slice 3 (Kd.int .i64)) w A0 m vs) (hm : m ≤ 1000000) (hv : ∀ v ∈ vs, v.length ≤ 1000000) :
    Calls Tryd.prog 20 #[.slice A0 m c0] w fun e w' => ∃ v0_ : Value, e = .returned v0_ ∧ Kd.R (Kd.int .i64) 3 w' w.heap.size (fun _ => True) v0_ (addAll vs) ∧ Below w.heap.size w w' := by
  rcases Nat.eq_zero_or_pos m with h0 | h0
  · subst h0
    have HE : Aside0 (addAll vs = []) := ⟨by rw [List.eq_nil_of_length_eq_zero hl]; rfl⟩
    clear hl hr0 hv
    go_enter Tryd.func20, Tryd.ntmps20
    go_wp2
    go_ret
    exact ⟨_, rfl, by rw [HE.out]; exact Kd.R_nil _ _ _ _ _, by repeat (first | exact Below.refl _ _ | apply below_alloc | apply pw_below_drewN)⟩
  · obtain ⟨ad, B0, b0, rfl, hc0, _, _⟩ := row_at hr0 0 h0
    obtain ⟨h, hh⟩ : ∃ h, (vs.getD 0 []).length = h := ⟨_, rfl⟩
    rw [hh] at hc0
    have hmem : ∀ j, j < m → (vs.getD j []).length ≤ 1000000 := fun j hj => by
      rw [List.getD_eq_getElem?_getD, List.getElem?_eq_getElem (by omega)]
      exact hv _ (List.getElem_mem _)
    have hh1 : h ≤ 1000000 := by rw [← hh]; exact hmem 0 h0
    have hst : addGo h vs (List.replicate h 0) = addAll vs := by
      cases vs with
      | nil => simp at hl; omega
      | cons v vs => rw [← hh]; rfl
    have hmk := print_make 22 3 .i64 8 Tryd.underlying22 turn_info (by decide) h (by omega)
    have HL := Aside0.mk hl
    have HC := Aside0.mk hr0
    have HM := Aside0.mk hmem
    have HST := Aside0.mk hst
    rw [show ad.add 0 = ad by simp [Addr.add]] at hc0
    have HC0 := Aside0.mk hc0
    have hm0 : ((m : Int) == 0) = false := by simp; omega
    clear hl hr0 hv hmem hst hh
    go_enter Tryd.func20, Tryd.ntmps20
    go_wp2
    clear hc0
    go_loopw [3, 16] (fun v3 v wr => ∃ (i : Nat) (o : List Int), i ≤ m ∧ v = .int .i64 (i : Int) ∧ Aside0 (o.length = h) ∧ Aside0 (addGo h (vs.drop i) o = addAll vs) ∧ Aside0 (Kd.R (Kd.int .i64) 3 wr w.heap.size (fun _ => True) v3 o) ∧ Aside0 (Below w.heap.size w wr)) (fun _ v _ => m - (intOf v).toNat)
    case atStart =>
      refine ⟨0, List.replicate h 0, by omega, rfl, ⟨by simp⟩, HST, ⟨?_⟩, ⟨by repeat (first | exact Below.refl _ _ | apply below_alloc | apply pw_below_drewN)⟩⟩
      have := own_made w w.heap.size 3 .i64 h (Nat.le_refl _) (by omega)
      exact Kd.R_of_own (enc := Value.int .i64) (h1 := fun _ => rfl) (ok := fun _ => True) (xs := List.replicate h 0) (by rw [List.length_replicate]; exact this) (fun _ _ => trivial)
    case round =>
      obtain ⟨i, o, hi, rfl, HO, HG, HR, HB⟩ := hrel
      by_cases hlt : i < m
      · obtain ⟨ad', B, b, he, hcell, _, hCB⟩ := row_at (Kd.C_below HC.out HB.out) i hlt
        obtain rfl := Option.some.inj he
        obtain ⟨v, hvv⟩ : ∃ v, vs.getD i [] = v := ⟨_, rfl⟩
        have hvl := HM.out i hlt
        rw [hvv] at hcell hCB hvl
        have hdrop : vs.drop i = v :: vs.drop (i + 1) := by
          rw [List.drop_eq_getElem_cons (by rw [HL.out]; exact hlt), ← hvv, List.getD_eq_getElem?_getD, List.getElem?_eq_getElem (by rw [HL.out]; exact hlt)]
          rfl
        obtain ⟨q, hq⟩ : ∃ q, v.length = q := ⟨_, rfl⟩
        rw [hq] at hcell hCB hvl
        obtain ⟨A3, c3, rfl, _, hC3⟩ := Kd.R_reads HR.out
        rw [HO.out] at hC3 ⊢
        have HC3 := Aside0.mk hC3
        have HCB := Aside0.mk hCB
        have HQ := Aside0.mk hq
        have HD := Aside0.mk hdrop
        clear hvv hdrop hq hC3 hCB he
        by_cases hz : (addL o v).length = h
        · have HZ := Aside0.mk hz
          clear hz
          go_wp2_with (go_at_call 37; (with_reducible refine (each_add A3 B h c3 q b o v _ HO.out HC3.out HQ.out HCB.out hh1 hvl).mono ?_); rintro e w2 ⟨v4, rfl, hR, hb⟩; obtain ⟨A4, c4, rfl, _, _⟩ := Kd.R_reads hR; have HR4 := Aside0.mk (Kd.R_lower hR HB.out.size); have HB4 := Aside0.mk (below_step HB.out hb); clear hR hb; have hc1 := pw_cell_below HB4.out HC0.out; rw [HZ.out] at HR4 ⊢)
          go_roundw
          case rel => exact ⟨i + 1, _, by omega, by go_num, HZ, ⟨by rw [← HG.out, HD.out, addGo, if_pos HZ.out]⟩, HR4, HB4⟩
          case measure => simp [intOf]; omega
        · obtain ⟨z, hz2⟩ : ∃ z, (addL o v).length = z := ⟨_, rfl⟩
          rw [hz2] at hz
          have HE : Aside0 (addAll vs = []) := ⟨by rw [← HG.out, HD.out, addGo, if_neg (by rw [hz2]; exact hz)]⟩
          have hd : ((z : Int) != (h : Int)) = true := by simp; omega
          have HZ := Aside0.mk hz2
          clear hz hz2
          go_wp2_with (go_at_call 37; (with_reducible refine (each_add A3 B h c3 q b o v _ HO.out HC3.out HQ.out HCB.out hh1 hvl).mono ?_); rintro e w2 ⟨v4, rfl, hR, hb⟩; obtain ⟨A4, c4, rfl, _, _⟩ := Kd.R_reads hR; have HB4 := Aside0.mk (below_step HB.out hb); clear hR hb; have hc1 := pw_cell_below HB4.out HC0.out; rw [HZ.out])
          go_ret
          exact ⟨_, rfl, by rw [HE.out]; exact Kd.R_nil _ _ _ _ _, HB4.out⟩
      · obtain rfl : m = i := by omega
        go_wp2
        go_ret
        refine ⟨_, rfl, ?_, HB.out⟩
        have hg := HG.out
        rw [← HL.out, List.drop_length, addGo] at hg
        rw [← hg]
        exact HR.out
theorem spin_Add.calls (A0 : Option Addr) (c0 : Nat) (l0 : List (List Int)) (r : List Int) (w : World) (hr0 : Kd.C (Kd.slice 3 (Kd.int .i64)) w A0 l0.length l0) (hc0 : l0.length ≤ c0) (h : spin_Add.f l0 = some r) :
    Calls Tryd.prog 20 #[.slice A0 l0.length c0] w fun e w' => ∃ v0_ : Value, e = .returned v0_ ∧ Kd.R (Kd.int .i64) 3 w' w.heap.size (fun _ => True) v0_ r ∧ Below w.heap.size w w' := by
  unfold spin_Add.f at h
  split at h
  case isFalse => cases h
  rename_i hz
  obtain rfl := Option.some.inj h
  simp only [add_ok, Bool.and_eq_true, decide_eq_true_eq, List.all_eq_true] at hz
  exact add_go A0 _ c0 l0 w rfl hr0 hz.1 hz.2

/-! ### earshotlaw09_SpinTurns: function 4 -/
-- PURE intro l0 a b _ h8 hw ha hb; unfold earshotlaw09_SpinTurns.f; rw [if_pos]; simp only [Bool.and_eq_true, decide_eq_true_eq, List.all_eq_true]; exact ⟨⟨⟨⟨⟨by omega, fun x hx => wf_i64 (hw x hx)⟩, (wf_i64 ha).1⟩, (wf_i64 ha).2⟩, (wf_i64 hb).1⟩, (wf_i64 hb).2⟩
/-! ### The parts of spins -/
theorem S_turn (F : Int → Int) (h : Nat) (hF : ∀ p, wrap64 (F (p + h)) = wrap64 (F p)) : ∀ k : Nat, wrap64 (S h (fun j => F ((j : Int) + (k : Int)))) = wrap64 (S h (fun j => F (j : Int)))
  | 0 => by simp
  | k + 1 => by
    rw [← S_turn F h hF k]
    have e1 := S_front h (fun j => F ((j : Int) + (k : Int)))
    have e2 : S (h + 1) (fun j => F ((j : Int) + (k : Int))) = S h (fun j => F ((j : Int) + (k : Int))) + F ((h : Int) + k) := rfl
    have e3 : S h (fun i => F (((i + 1 : Nat) : Int) + (k : Int))) = S h (fun j => F ((j : Int) + ((k + 1 : Nat) : Int))) := S_congr (fun i _ => by congr 1; omega)
    have e4 := hF (k : Int)
    rw [show (k : Int) + h = (h : Int) + k by omega] at e4
    rw [← e3]
    have e5 : S h (fun i => F (((i + 1 : Nat) : Int) + (k : Int))) = S h (fun j => F ((j : Int) + (k : Int))) + F ((h : Int) + k) - F (k : Int) := by
      have : F ((0 : Nat) + (k : Int)) = F (k : Int) := by simp
      omega
    rw [e5, ← W_W_sub, ← W_add_W, e4, W_add_W, W_W_sub]
    congr 1; omega
theorem sp_sum_S (l : List Int) (T : Int → Int) (s : Nat) : ∀ n, sp_sum l T s n = wrap64 (S n (fun j => l.getD j 0 * T ((j : Int) * (s : Int))))
  | 0 => (W_in (a := 0) (by decide) (by decide)).symm
  | n + 1 => by rw [sp_sum, sp_sum_S l T s n, W_W_add, W_add_W]; rfl
theorem T_per {T : Int → Int} (hT : ∀ x, T (x + 32) = -T x) (x : Int) (k : Nat) : T (x + 64 * (k : Int)) = T x := by
  induction k with
  | zero => simp
  | succ k ih => rw [show x + 64 * ((k + 1 : Nat) : Int) = x + 64 * (k : Int) + 32 + 32 by omega, hT, hT, ih]; omega
theorem T_mod {T : Int → Int} (hT : ∀ x, T (x + 32) = -T x) {x y : Int} (h : x % 64 = y % 64) : T x = T y := by
  have key : ∀ z : Int, T z = T (z % 64) := fun z => by
    rcases Int.le_total 0 (z / 64) with h0 | h0
    · obtain ⟨k, hk⟩ := Int.eq_ofNat_of_zero_le h0
      have := T_per hT (z % 64) k
      rw [← this]; congr 1; omega
    · obtain ⟨k, hk⟩ := Int.eq_ofNat_of_zero_le (show 0 ≤ -(z / 64) by omega)
      have := T_per hT z k
      rw [← this]; congr 1; omega
  rw [key x, key y, h]
theorem may_s {h : Nat} (hm : sp_may h = true) : 0 < h ∧ (h : Int) * ((32 / h : Nat) : Int) = 32 ∧ h ≤ 32 := by
  rcases sp_may_cases hm with rfl | rfl | rfl | rfl | rfl | rfl <;> decide
theorem part_turn (v : List Int) (hv : In64 v) (T : Int → Int) (hT : ∀ x, T (x + 32) = -T x) (hm : sp_may v.length = true) (k : Int) :
    sp_part (turnL v k) T = wrap64 (S v.length (fun j => v.getD j 0 * T (((j : Int) + k) * ((32 / v.length : Nat) : Int)))) := by
  obtain ⟨h0, hs, _⟩ := may_s hm
  unfold sp_part
  rw [turnL_length, if_pos hm, sp_sum_S]
  generalize hss : ((32 / v.length : Nat) : Int) = s at hs
  have e0 : S v.length (fun j => (turnL v k).getD j 0 * T ((j : Int) * s)) = S v.length (fun j => ext v ((j : Int) - k) * T ((j : Int) * s)) := S_congr (fun i hi => by rw [turnL_getD _ _ _ hi])
  have hF : ∀ p : Int, wrap64 (ext v (p + (v.length : Int) - k) * T ((p + (v.length : Int)) * s)) = wrap64 (ext v (p - k) * T (p * s)) := fun p => by
    rw [show p + (v.length : Int) - k = p - k + v.length by omega, ext_half v hv, Int.add_mul, hs, hT, W_W_mul, Int.neg_mul_neg]
  have hk0 := Int.emod_nonneg k (show 2 * (v.length : Int) ≠ 0 by omega)
  obtain ⟨K, hK⟩ := Int.eq_ofNat_of_zero_le hk0
  have hsh := S_turn (fun p => ext v (p - k) * T (p * s)) v.length hF K
  rw [e0, ← hsh]
  congr 1
  refine S_congr (fun i hi => ?_)
  have ek : k = 2 * (v.length : Int) * (k / (2 * (v.length : Int))) + (K : Int) := by rw [← hK]; exact (Int.mul_ediv_add_emod k _).symm
  obtain ⟨z, hz⟩ : ∃ z, k / (2 * (v.length : Int)) = z := ⟨_, rfl⟩
  rw [hz] at ek
  have e1 : ext v ((i : Int) + (K : Int) - k) = v.getD i 0 := by
    rw [← ext_low v i hi]
    refine ext_mod ?_
    rw [show (i : Int) + (K : Int) - k = (i : Int) + 2 * (v.length : Int) * (-z) by rw [Int.mul_neg]; omega, Int.add_mul_emod_self_left]
  have e2 : T (((i : Int) + (K : Int)) * s) = T (((i : Int) + k) * s) := by
    refine T_mod hT ?_
    have e4 : 2 * (v.length : Int) * z * s = 64 * z := by
      rw [Int.mul_right_comm, Int.mul_assoc 2, hs]; omega
    have e3 : ((i : Int) + k) * s = ((i : Int) + (K : Int)) * s + 64 * z := by
      rw [ek, ← e4, ← Int.add_mul]
      congr 1
      omega
    rw [e3, Int.add_mul_emod_self_left]
  rw [e1, e2]
theorem part_S (v : List Int) (T : Int → Int) (hm : sp_may v.length = true) : sp_part v T = wrap64 (S v.length (fun j => v.getD j 0 * T ((j : Int) * ((32 / v.length : Nat) : Int)))) := by
  unfold sp_part
  rw [if_pos hm, sp_sum_S]
theorem cos_fin : ∀ r : Fin 64, cosT ((r.1 : Nat) : Int) = cosT ((r.1 : Nat) : Int) ∧ cosT (((r.1 : Nat) : Int) + 32) = -cosT ((r.1 : Nat) : Int) ∧ cosT (((r.1 : Nat) : Int) + 16) = -sinT ((r.1 : Nat) : Int) ∧ sinT (((r.1 : Nat) : Int) + 16) = cosT ((r.1 : Nat) : Int) ∧ sinT (((r.1 : Nat) : Int) + 32) = -sinT ((r.1 : Nat) : Int) ∧ cosT (-((r.1 : Nat) : Int)) = cosT ((r.1 : Nat) : Int) ∧ sinT (-((r.1 : Nat) : Int)) = -sinT ((r.1 : Nat) : Int) := by decide +kernel
theorem cosT_mod {x y : Int} (h : x % 64 = y % 64) : cosT x = cosT y := by unfold cosT; rw [h]
theorem sinT_mod {x y : Int} (h : x % 64 = y % 64) : sinT x = sinT y := by unfold sinT; rw [h]
theorem T_all (x : Int) : cosT (x + 32) = -cosT x ∧ cosT (x + 16) = -sinT x ∧ sinT (x + 16) = cosT x ∧ sinT (x + 32) = -sinT x ∧ cosT (-x) = cosT x ∧ sinT (-x) = -sinT x := by
  have m0 := Int.emod_nonneg x (show (64 : Int) ≠ 0 by decide)
  have m1 := Int.emod_lt_of_pos x (show (0 : Int) < 64 by decide)
  obtain ⟨n, hn⟩ := Int.eq_ofNat_of_zero_le m0
  have h := cos_fin ⟨n, by omega⟩
  simp only at h
  rw [← hn] at h
  obtain ⟨_, h1, h2, h3, h4, h5, h6⟩ := h
  rw [cosT_mod (x := x + 32) (y := x % 64 + 32) (by omega), cosT_mod (x := x + 16) (y := x % 64 + 16) (by omega), sinT_mod (x := x + 16) (y := x % 64 + 16) (by omega), sinT_mod (x := x + 32) (y := x % 64 + 32) (by omega), cosT_mod (x := -x) (y := -(x % 64)) (by omega), sinT_mod (x := -x) (y := -(x % 64)) (by omega), cosT_mod (x := x) (y := x % 64) (by omega), sinT_mod (x := x) (y := x % 64) (by omega)]
  exact ⟨h1, h2, h3, h4, h5, h6⟩
theorem cos_half (x : Int) : cosT (x + 32) = -cosT x := (T_all x).1
theorem sin_half (x : Int) : sinT (x + 32) = -sinT x := (T_all x).2.2.2.1
theorem neg_S (n : Nat) (g f : Nat → Int) (h : ∀ i, i < n → g i = -f i) : S n g = -S n f := by rw [← S_neg]; exact S_congr h
theorem part_half (v : List Int) (hv : In64 v) (T : Int → Int) (hT : ∀ x, T (x + 32) = -T x) (hm : sp_may v.length = true) : sp_part (turnL v v.length) T = wrap64 (-(sp_part v T)) := by
  rw [part_turn v hv T hT hm, part_S v T hm, W_neg_W]
  congr 1
  refine neg_S _ _ _ (fun i _ => ?_)
  rw [Int.add_mul, (may_s hm).2.1, hT, Int.mul_neg]
theorem part_add (a b : List Int) (T : Int → Int) (h : a.length = b.length) : sp_part (addL a b) T = wrap64 (sp_part a T + sp_part b T) := by
  by_cases hm : sp_may a.length = true
  · rw [part_S _ T (by rw [addL_length h]; exact hm), part_S a T hm, part_S b T (by rw [← h]; exact hm), addL_length h, ← h, W_W_add, W_add_W, ← S_add, ← W_S]
    rw [← W_S _ (fun i => a.getD i 0 * T (↑i * ↑(32 / a.length)) + b.getD i 0 * T (↑i * ↑(32 / a.length)))]
    congr 1
    refine S_congr (fun i hi => ?_)
    rw [addL_getD h i hi, W_W_mul, Int.add_mul]
  · unfold sp_part
    rw [addL_length h, ← h, if_neg hm, if_neg hm, if_neg hm]
    exact (W_in (a := 0) (by decide) (by decide)).symm
theorem part_less (a b : List Int) (T : Int → Int) (h : a.length = b.length) : sp_part (lessL a b) T = wrap64 (sp_part a T - sp_part b T) := by
  by_cases hm : sp_may a.length = true
  · rw [part_S _ T (by rw [lessL_length h]; exact hm), part_S a T hm, part_S b T (by rw [← h]; exact hm), lessL_length h, ← h, W_W_sub, W_sub_W, ← S_sub, ← W_S]
    rw [← W_S _ (fun i => a.getD i 0 * T (↑i * ↑(32 / a.length)) - b.getD i 0 * T (↑i * ↑(32 / a.length)))]
    congr 1
    refine S_congr (fun i hi => ?_)
    rw [lessL_getD h i hi, W_W_mul, Int.sub_mul]
  · unfold sp_part
    rw [lessL_length h, ← h, if_neg hm, if_neg hm, if_neg hm]
    exact (W_in (a := 0) (by decide) (by decide)).symm

/-- A call's result is a row that reads as xs; the world is as it was, but for what is new. -/
def CRes (w0 W : World) (h : Nat) (xs : List Int) (e : Ending) (w' : World) : Prop :=
  ∃ A c, e = .returned (.slice A h c) ∧ h ≤ c ∧ Aside0 ((Kd.int .i64).C w' A h xs) ∧ Aside0 (Below w0.heap.size w0 w') ∧ Aside0 (Below W.heap.size W w')
theorem cres_of {w0 W w' : World} {h : Nat} {xs : List Int} {v : Value} {t b : Nat} {ok : Nat → Prop} (hB : Below w0.heap.size w0 W) (hR : (Kd.int .i64).R t w' b ok v xs) (hl : xs.length = h) (hb : Below W.heap.size W w') : CRes w0 W h xs (.returned v) w' := by
  subst hl
  obtain ⟨A, c, rfl, h1, h2⟩ := Kd.R_reads hR
  exact ⟨A, c, rfl, h1, ⟨h2⟩, ⟨below_step hB hb⟩, ⟨hb⟩⟩
theorem same_go (l : List Int) (hl : l.length ≤ 100000000) (d : Nat) : ∀ (k i : Nat), i ≤ l.length → l.length - i = d → d < k → earshotref04_Same.l0 k l l (i : Int) = some true := by
  induction d with
  | zero =>
    intro k i h0 hd hk
    obtain ⟨k, rfl⟩ : ∃ m, k = m + 1 := ⟨k - 1, by omega⟩
    simp only [earshotref04_Same.l0]
    rw [if_neg (by omega)]
  | succ d ih =>
    intro k i h0 hd hk
    obtain ⟨k, rfl⟩ : ∃ m, k = m + 1 := ⟨k - 1, by omega⟩
    simp only [earshotref04_Same.l0]
    have hw : wrap64 ((i : Int) + 1) = ((i + 1 : Nat) : Int) := by unfold wrap64; omega
    rw [if_pos (by omega), if_pos (by omega), if_pos (by omega), if_pos trivial, hw]
    exact ih k (i + 1) (by omega) (by omega) (by omega)
theorem same_f (l : List Int) (hl : l.length ≤ 100000000) : earshotref04_Same.f (l.length + 1) l l = some true := by
  unfold earshotref04_Same.f
  rw [if_pos rfl]
  exact same_go l hl l.length _ 0 (by omega) (by omega) (by omega)
/-- Two rows that read the same. -/
theorem same_c {w0 : World} (A1 : Option Addr) (h c1 : Nat) (A2 : Option Addr) (c2 : Nat) (l1 l2 : List Int) (W : World) (hB : Below w0.heap.size w0 W) (hl : l1.length = h) (he : l1 = l2) (hC1 : (Kd.int .i64).C W A1 h l1) (hC2 : (Kd.int .i64).C W A2 h l2) (h1 : h ≤ c1) (h2 : h ≤ c2) (hh : h ≤ 1000000) :
    Calls Tryd.prog 19 #[.slice A1 h c1, .slice A2 h c2] W fun e w' => e = .returned (.bool true) ∧ Aside0 (Below w0.heap.size w0 w') ∧ Aside0 (Below W.heap.size W w') := by
  subst he
  subst hl
  exact (earshotref04_Same.calls _ A1 c1 l1 A2 c2 l1 true W hC1 h1 hC2 h2 (same_f l1 (by omega))).mono fun e w' ⟨a, ⟨n, b⟩⟩ => by
    subst b
    exact ⟨a, ⟨pw_below_drewN hB n⟩, ⟨pw_below_drewN (Below.refl _ _) n⟩⟩
theorem zeros_c (X : World) (g n : Nat) (hg : g = X.heap.size) (hn : n ≤ 1000000) : (Kd.int .i64).C (X.alloc (.cells (madeCells #[.int .i64 0] n) 3)) (some ⟨g, 0, none⟩) n (List.replicate n 0) := by
  subst hg
  have h := own_made X X.heap.size 3 .i64 n (Nat.le_refl _) (by omega)
  have hR := Kd.R_of_own (enc := Value.int .i64) (h1 := fun _ => rfl) (ok := fun _ => True) (xs := List.replicate n 0) (by rw [List.length_replicate]; exact h) (fun _ _ => trivial)
  obtain ⟨A, c, he, _, h2⟩ := Kd.R_reads hR
  rw [List.length_replicate] at he h2
  injection he with e1 e2 e3
  rw [e1]
  exact h2
/-- A callee that draws only, in a region that is walked once, in a world that has drawn before. -/
theorem quiet_add {P : Program} {f : FuncId} {args : Array Value} {W : World} {K x : Nat} {v : Value} (h : Calls P f args (W.drewN (K + x)) fun e w' => e = .returned v ∧ Drawn0 (W.drewN (K + x)) w') :
    Calls P f args (W.drewN (K + x)) fun e w'' => e = .returned v ∧ ∃ n, w'' = W.drewN (K + n) :=
  h.mono fun _ _ ⟨he, ⟨m, hm⟩⟩ => ⟨he, x + m, by rw [hm, World.drewN_drewN, Nat.add_assoc]⟩

theorem q_awake : earshotlaw09_awake.f 10 = some true := by decide +kernel
theorem turn_c {w0 : World} (A : Option Addr) (h c : Nat) (l : List Int) (k : Int) (W : World) (hB : Below w0.heap.size w0 W) (hl : l.length = h) (hC : (Kd.int .i64).C W A h l) (hh : h ≤ 1000000) (k0 : -9223372036854775808 ≤ k) (k1 : k ≤ 9223372036854775807) :
    Calls Tryd.prog 15 #[.slice A h c, .int .i64 k] W (CRes w0 W h (turnL l k)) :=
  (turn_go A h c l k W hl hC hh k0 k1).mono fun e w' ⟨v, he, hR, hb⟩ => by subst he; exact cres_of hB hR (by rw [turnL_length, hl]) hb
theorem awake_d {w0 : World} (W : World) (hB : Below w0.heap.size w0 W) (hG : GlobA W) : Calls Tryd.prog 13 #[] W fun e w' => e = .returned (.bool true) ∧ Aside0 (Below w0.heap.size w0 w') ∧ Aside0 (Below W.heap.size W w') :=
  (earshotlaw09_awake.calls 10 true W hG q_awake).mono fun e w' ⟨a, b⟩ => ⟨a, ⟨below_step hB b⟩, ⟨b⟩⟩

theorem rows_one {W : World} {A : Option Addr} {h c : Nat} {l : List Int} {g j : Nat} (hl : l.length = h) (hC : (Kd.int .i64).C W A h l) (hc : h ≤ c) (hcell : W.cell? ⟨g, j, none⟩ = some (.slice A h c)) :
    ∃ cs : List Value, cs.length = (Kd.slice 3 (Kd.int .i64)).sz ∧ (Kd.slice 3 (Kd.int .i64)).K W l cs ∧ ∀ i u, cs[i]? = some u → W.cell? ((⟨g, 0, none⟩ : Addr).add (j * (Kd.slice 3 (Kd.int .i64)).sz + i)) = some u := by
  subst hl
  refine ⟨[.slice A l.length c], rfl, ⟨A, c, rfl, hc, hC⟩, fun i u hu => ?_⟩
  cases i with
  | zero =>
    have hu' : Value.slice A l.length c = u := by simpa using hu
    subst hu'
    rw [show j * (Kd.slice 3 (Kd.int .i64)).sz + 0 = j from by show j * 1 + 0 = j; omega, add_plain]
    exact hcell
  | succ i => simp at hu
theorem add1_c {w0 : World} (g : Nat) (A1 : Option Addr) (h c1 : Nat) (l1 L : List Int) (W : World) (hB : Below w0.heap.size w0 W) (hg : W.heap[g]? = some (.cells #[.slice A1 h c1] 22 (0, 0))) (hl1 : l1.length = h) (hC1 : (Kd.int .i64).C W A1 h l1) (h1 : h ≤ c1) (hh : h ≤ 1000000) (hL : addAll [l1] = L) (hLl : L.length = h) :
    Calls Tryd.prog 20 #[.slice (some ⟨g, 0, none⟩) 1 1] W (CRes w0 W h L) := by
  have hC : (Kd.slice 3 (Kd.int .i64)).C W (some ⟨g, 0, none⟩) 1 [l1] := ⟨rfl, by decide, fun _ => ⟨⟨g, 0, none⟩, rfl, fun j p hj => by
    match j, hj with
    | 0, hj =>
      obtain rfl : l1 = p := by simpa using hj
      exact rows_one hl1 hC1 h1 ((blk_cell hg 0).trans rfl)⟩⟩
  refine (add_go (some ⟨g, 0, none⟩) 1 1 [l1] W rfl hC (by decide) (fun v hv => by rw [List.mem_singleton.1 hv]; omega)).mono fun e w' ⟨v, he, hR, hb⟩ => ?_
  subst he
  rw [hL] at hR
  exact cres_of hB hR hLl hb
theorem add2_c {w0 : World} (g : Nat) (A1 A2 : Option Addr) (h c1 h' c2 k : Nat) (l1 l2 L : List Int) (W : World) (hB : Below w0.heap.size w0 W) (hg : W.heap[g]? = some (.cells #[.slice A1 h c1, .slice A2 h' c2] 22 (0, 0))) (hl1 : l1.length = h) (hl2 : l2.length = h') (hC1 : (Kd.int .i64).C W A1 h l1) (hC2 : (Kd.int .i64).C W A2 h' l2) (h1 : h ≤ c1) (h2 : h' ≤ c2) (hh : h ≤ 1000000) (hh' : h' ≤ 1000000) (hL : addAll [l1, l2] = L) (hLl : L.length = k) :
    Calls Tryd.prog 20 #[.slice (some ⟨g, 0, none⟩) 2 2] W (CRes w0 W k L) := by
  have hC : (Kd.slice 3 (Kd.int .i64)).C W (some ⟨g, 0, none⟩) 2 [l1, l2] := ⟨rfl, by decide, fun _ => ⟨⟨g, 0, none⟩, rfl, fun j p hj => by
    match j, hj with
    | 0, hj =>
      obtain rfl : l1 = p := by simpa using hj
      exact rows_one hl1 hC1 h1 ((blk_cell hg 0).trans rfl)
    | 1, hj =>
      obtain rfl : l2 = p := by simpa using hj
      exact rows_one hl2 hC2 h2 ((blk_cell hg 1).trans rfl)⟩⟩
  refine (add_go (some ⟨g, 0, none⟩) 2 2 [l1, l2] W rfl hC (by decide) (fun v hv => by
    rcases List.mem_cons.1 hv with rfl | hv
    · omega
    · rw [List.mem_singleton.1 hv]; omega)).mono fun e w' ⟨v, he, hR, hb⟩ => ?_
  subst he
  rw [hL] at hR
  exact cres_of hB hR hLl hb
theorem add3_c {w0 : World} (g : Nat) (A1 A2 A3 : Option Addr) (h c1 h' c2 h'' c3 k : Nat) (l1 l2 l3 L : List Int) (W : World) (hB : Below w0.heap.size w0 W) (hg : W.heap[g]? = some (.cells #[.slice A1 h c1, .slice A2 h' c2, .slice A3 h'' c3] 22 (0, 0))) (hl1 : l1.length = h) (hl2 : l2.length = h') (hl3 : l3.length = h'') (hC1 : (Kd.int .i64).C W A1 h l1) (hC2 : (Kd.int .i64).C W A2 h' l2) (hC3 : (Kd.int .i64).C W A3 h'' l3) (h1 : h ≤ c1) (h2 : h' ≤ c2) (h3 : h'' ≤ c3) (hh : h ≤ 1000000) (hh' : h' ≤ 1000000) (hh'' : h'' ≤ 1000000) (hL : addAll [l1, l2, l3] = L) (hLl : L.length = k) :
    Calls Tryd.prog 20 #[.slice (some ⟨g, 0, none⟩) 3 3] W (CRes w0 W k L) := by
  have hC : (Kd.slice 3 (Kd.int .i64)).C W (some ⟨g, 0, none⟩) 3 [l1, l2, l3] := ⟨rfl, by decide, fun _ => ⟨⟨g, 0, none⟩, rfl, fun j p hj => by
    match j, hj with
    | 0, hj =>
      obtain rfl : l1 = p := by simpa using hj
      exact rows_one hl1 hC1 h1 ((blk_cell hg 0).trans rfl)
    | 1, hj =>
      obtain rfl : l2 = p := by simpa using hj
      exact rows_one hl2 hC2 h2 ((blk_cell hg 1).trans rfl)
    | 2, hj =>
      obtain rfl : l3 = p := by simpa using hj
      exact rows_one hl3 hC3 h3 ((blk_cell hg 2).trans rfl)⟩⟩
  refine (add_go (some ⟨g, 0, none⟩) 3 3 [l1, l2, l3] W rfl hC (by decide) (fun v hv => by
    rcases List.mem_cons.1 hv with rfl | hv
    · omega
    rcases List.mem_cons.1 hv with rfl | hv
    · omega
    · rw [List.mem_singleton.1 hv]; omega)).mono fun e w' ⟨v, he, hR, hb⟩ => ?_
  subst he
  rw [hL] at hR
  exact cres_of hB hR hLl hb
theorem add_zero_l (a : List Int) (ha : In64 a) : addL (List.replicate a.length 0) a = a := by
  refine row_ext (by rw [addL_length (by simp)]; simp) (fun i hi => ?_)
  rw [addL_length (by simp), List.length_replicate] at hi
  rw [addL_getD (by simp) i (by simpa using hi)]
  have : (List.replicate a.length (0 : Int)).getD i 0 = 0 := by rw [List.getD_eq_getElem?_getD, List.getElem?_replicate, if_pos hi]; rfl
  rw [this, Int.zero_add, ha.getD]
theorem addAll_one (a : List Int) (ha : In64 a) : addAll [a] = a := by
  show addGo a.length [a] (List.replicate a.length 0) = a
  rw [addGo, add_zero_l a ha, if_pos rfl, addGo]
theorem addAll_two (a b : List Int) (ha : In64 a) : addAll [a, b] = addL a b := by
  show addGo a.length [a, b] (List.replicate a.length 0) = _
  rw [addGo, add_zero_l a ha, if_pos rfl, addGo, addGo]
  split
  · rfl
  · rename_i h
    unfold addL at h ⊢
    split at h
    · rename_i e
      rw [List.length_zipWith] at h; omega
    · rw [if_neg ‹_›]
theorem addAll_three (a b c : List Int) (ha : In64 a) (hb : a.length = b.length) (hc : a.length = c.length) : addAll [a, b, c] = addL (addL a b) c := by
  show addGo a.length [a, b, c] (List.replicate a.length 0) = _
  rw [addGo, add_zero_l a ha, if_pos rfl, addGo, if_pos (addL_length hb), addGo, if_pos, addGo]
  rw [addL_length (by rw [addL_length hb, hc]), addL_length hb]
theorem half_zero (v : List Int) (hv : In64 v) : addL (turnL v v.length) v = List.replicate v.length 0 := by
  refine row_ext (by rw [addL_length (by simp [turnL_length]), turnL_length]; simp) (fun i hi => ?_)
  rw [addL_length (by simp [turnL_length]), turnL_length] at hi
  rw [addL_getD (by simp [turnL_length]) i (by rw [turnL_length]; exact hi), turn_half_getD v hv i hi, W_W_add]
  have : (List.replicate v.length (0 : Int)).getD i 0 = 0 := by rw [List.getD_eq_getElem?_getD, List.getElem?_replicate, if_pos hi]; rfl
  rw [this, show -(v.getD i 0) + v.getD i 0 = 0 by omega]
  exact W_in (by decide) (by decide)

def earshotlaw09_SpinTurns.f (l0 : List Int) (a1_0 a1_1 : Int) : Option (Bool) := if decide (l0.length ≤ 4000000000000000000) && l0.all (fun x => decide (-9223372036854775808 ≤ x) && decide (x ≤ 9223372036854775807)) && decide (-9223372036854775808 ≤ a1_0) && decide (a1_0 ≤ 9223372036854775807) && decide (-9223372036854775808 ≤ a1_1) && decide (a1_1 ≤ 9223372036854775807) then some true else none
set_option maxHeartbeats 16000000 in
set_option maxRecDepth 100000 in
theorem turns_go (A0 : Option Addr) (m c0 : Nat) (v : List Int) (q0 q1 : Int) (w : World) (hG : GlobA w) (n : Nat) (hmin : min 40 m = n) (hl : v.length = n) (hC : Kd.C (Kd.int .i64) w A0 n v) (hv : In64 v) (hmc : m ≤ c0) (a0 : -9223372036854775808 ≤ q0) (a1 : q0 ≤ 9223372036854775807) (b0 : -9223372036854775808 ≤ q1) (b1 : q1 ≤ 9223372036854775807) :
    Calls Tryd.prog 4 #[.slice A0 m c0, .agg #[.int .i64 q0, .int .i64 q1]] w fun e w' => e = .returned (.bool true) ∧ Below w.heap.size w w' := by
  have HG := Aside0.mk hG
  have HA := Aside0.mk q_awake
  have HC := Aside0.mk hC
  have HL := Aside0.mk hl
  have HV := Aside0.mk hv
  have HM := Aside0.mk hmin
  have hn40 : n ≤ 40 := by omega
  have hmk := print_make 22 3 .i64 8 Tryd.underlying22 turn_info (by decide) n (by omega)
  obtain ⟨a, ha⟩ : ∃ a, q0 / 8 = a := ⟨_, rfl⟩
  obtain ⟨b, hb⟩ : ∃ b, q1 / 8 = b := ⟨_, rfl⟩
  have x0 : -1152921504606846976 ≤ a := by omega
  have x1 : a ≤ 1152921504606846975 := by omega
  have y0 : -1152921504606846976 ≤ b := by omega
  have y1 : b ≤ 1152921504606846975 := by omega
  have hu27 := Tryd.underlying27
  have HT1 : Aside0 ((turnL v a).length = n) := ⟨by rw [turnL_length, hl]⟩
  have HT2 : Aside0 ((turnL (turnL v a) b).length = n) := ⟨by rw [turnL_length, turnL_length, hl]⟩
  have HT3 : Aside0 ((turnL v (2 * (n : Int))).length = n) := ⟨by rw [turnL_length, hl]⟩
  have HE1 : Aside0 (turnL (turnL v a) b = turnL v (a + b)) := ⟨turn_turn v hv a b⟩
  have HE2 : Aside0 (turnL v (2 * (n : Int)) = v) := ⟨by rw [← hl]; exact turn_whole v⟩
  have HT4 : Aside0 ((turnL v (n : Int)).length = n) := ⟨by rw [turnL_length, hl]⟩
  have HT5 : Aside0 ((List.replicate n (0 : Int)).length = n) := ⟨List.length_replicate⟩
  have HE3 : Aside0 (addAll [turnL v (n : Int), v] = List.replicate n 0) := ⟨by rw [addAll_two _ _ (turnL_in v hv _), ← hl]; exact half_zero v hv⟩
  have HT6 : Aside0 ((turnL (turnL v a) (-a)).length = n) := ⟨by rw [turnL_length, turnL_length, hl]⟩
  have HE4 : Aside0 (turnL (turnL v a) (-a) = v) := ⟨by rw [turn_turn v hv, show a + -a = 0 by omega, turn_zero]⟩
  have hnc : n ≤ c0 := by omega
  clear hG hC hl hv hmin a0 a1 b0 b1
  go_enter Tryd.func4, Tryd.ntmps4
  go_wp2_with (first
    | ((with_reducible refine gate_dst (N := 3) rfl ?_); refine box_event ?hg (N := 3) ?hd (cs := #[.int .i64 q0, .int .i64 q1]) (t := 27) ?hr ?_; (case hd => rfl); (case hg => first | rfl | exact wanted_on rfl rfl rfl (by first | assumption | rfl | (simp [*]; done))); (case hr => first | (go_simp; done) | (go_simp; rfl)); intro gb hgb wb hbox hb; subst hgb; have BK := Aside0.mk hbox; have HB := Aside0.mk hb; clear hbox hb)
    | (go_at_call 13; (with_reducible refine (earshotlaw09_awake.calls 10 true _ (HG.out.below HB.out) HA.out).mono ?_); rintro e w2 ⟨rfl, hb⟩; have BK2 := Aside0.mk (blk_below BK.out hb); have HB2 := Aside0.mk (below_step HB.out hb); have q0c := blk_cell BK2.out 0; have q1c := blk_cell BK2.out 1; clear hb)
    | (go_at_call 18; (with_reducible refine (few_go A0 m c0 _ hmc).mono ?_); rintro e w' ⟨rfl, rfl⟩; rw [HM.out])
    | (go_at_call 15; (with_reducible refine (turn_c (w0 := w) A0 n c0 v a _ HB2.out HL.out (Kd.C_below HC.out HB2.out) (by omega) (by omega) (by omega)).mono ?_); rintro e w3 ⟨A3, c3, rfl, l3, C3, HB3, S3⟩; clear q0c q1c HB2)
    | (go_at_call 15; (with_reducible refine (turn_c (w0 := w) A3 n c3 (turnL v a) b _ HB3.out HT1.out C3.out (by omega) (by omega) (by omega)).mono ?_); rintro e w4 ⟨A4, c4, rfl, l4, C4, HB4, S4⟩; clear C3 HB3)
    | (go_at_call 15; (with_reducible refine (turn_c (w0 := w) A0 n c0 v (a + b) _ HB4.out HL.out (Kd.C_below HC.out HB4.out) (by omega) (by omega) (by omega)).mono ?_); rintro e w5 ⟨A5, c5, rfl, l5, C5, HB5, S5⟩; have C6 := Aside0.mk (Kd.C_below C4.out S5.out); clear C4 HB4)
    | (go_at_call 19; (with_reducible refine (same_c (w0 := w) A4 n c4 A5 c5 _ _ _ HB5.out HT2.out HE1.out C6.out C5.out l4 l5 (by omega)).mono ?_); rintro e w7 ⟨rfl, HB7, S7⟩; clear C5 C6 HB5)
    | (go_at_call 15; (with_reducible refine (turn_c (w0 := w) A0 n c0 v (2 * (n : Int)) _ HB7.out HL.out (Kd.C_below HC.out HB7.out) (by omega) (by omega) (by omega)).mono ?_); rintro e w8 ⟨A8, c8, rfl, l8, C8, HB8, S8⟩; clear HB7)
    | (go_at_call 19; (with_reducible refine (same_c (w0 := w) A8 n c8 A0 c0 _ _ _ HB8.out HT3.out HE2.out C8.out (Kd.C_below HC.out HB8.out) l8 hnc (by omega)).mono ?_); rintro e w9 ⟨rfl, HB9, S9⟩; clear C8 HB8))
  go_region_with (first
    | (go_at_call 15; (with_reducible refine (turn_c (w0 := w) A0 n c0 v (n : Int) _ (by repeat (first | exact HB9.out | apply below_alloc | apply pw_below_drewN | apply below_drew1)) HL.out (Kd.C_below HC.out (by repeat (first | exact HB9.out | apply below_alloc | apply pw_below_drewN | apply below_drew1))) (by omega) (by omega) (by omega)).mono ?_); rintro e w10 ⟨A10, c10, rfl, l10, C10, HB10, S10⟩)
    | (go_at_call 20; (with_reducible refine (add2_c (w0 := w) _ A10 A0 n c10 n c0 n (turnL v n) v (List.replicate n 0) _ (by repeat (first | exact HB10.out | apply below_alloc | apply pw_below_drewN | apply below_drew1)) (by first | exact heap_alloc_new _ _ | (rw [Below.heap_alloc _ _ _ (by simp)]; exact heap_alloc_new _ _) | (simpa using heap_alloc_new (w10.alloc _) _)) HT4.out HL.out (by repeat (first | exact C10.out | refine Kd.C_alloc ?_ _)) (Kd.C_below HC.out (by repeat (first | exact HB10.out | apply below_alloc | apply pw_below_drewN | apply below_drew1))) l10 hnc (by omega) (by omega) HE3.out HT5.out).mono ?_); rintro e w11 ⟨A11, c11, rfl, l11, C11, HB11, S11⟩)
    | (go_at_call 19; (with_reducible refine (same_c (w0 := w) A11 n c11 _ n (List.replicate n 0) (List.replicate n 0) _ (by repeat (first | exact HB11.out | apply below_alloc | apply pw_below_drewN | apply below_drew1)) HT5.out rfl (by repeat (first | exact C11.out | refine Kd.C_alloc ?_ _)) (by repeat (first | exact zeros_c _ _ _ (by simp) (by omega) | refine Kd.C_below ?_ S11.out | refine Kd.C_below ?_ S10.out | refine Kd.C_alloc ?_ _ | refine Kd.C_drew ?_)) l11 (Nat.le_refl _) (by omega)).mono ?_); rintro e w12 ⟨rfl, HB12, S12⟩))
  all_goals
    clear HB9 HB10 HB11 C10 C11 S10 S11
    go_wp2_with (first
      | (go_at_call 15; (with_reducible refine (turn_c (w0 := w) A0 n c0 v a _ HB12.out HL.out (Kd.C_below HC.out HB12.out) (by omega) (by omega) (by omega)).mono ?_); rintro e w13 ⟨A13, c13, rfl, l13, C13, HB13, S13⟩; clear HB12)
      | (go_at_call 15; (with_reducible refine (turn_c (w0 := w) A13 n c13 (turnL v a) (-a) _ HB13.out HT1.out C13.out (by omega) (by omega) (by omega)).mono ?_); rintro e w14 ⟨A14, c14, rfl, l14, C14, HB14, S14⟩; clear C13 HB13)
      | (go_at_call 19; (with_reducible refine (same_c (w0 := w) A14 n c14 A0 c0 _ _ _ HB14.out HT6.out HE4.out C14.out (Kd.C_below HC.out HB14.out) l14 hnc (by omega)).mono ?_); rintro e w15 ⟨rfl, HB15, S15⟩; clear C14 HB14))
    go_ret
    exact ⟨rfl, HB15.out⟩
theorem earshotlaw09_SpinTurns.calls (A0 : Option Addr) (c0 : Nat) (l0 : List Int) (a1_0 a1_1 : Int) (r : Bool) (w : World) (hG : GlobA w) (hr0 : Kd.C (Kd.int .i64) w A0 l0.length l0) (hc0 : l0.length ≤ c0) (h : earshotlaw09_SpinTurns.f l0 a1_0 a1_1 = some r) :
    Calls Tryd.prog 4 #[.slice A0 l0.length c0, .agg #[.int .i64 a1_0, .int .i64 a1_1]] w fun e w' => e = .returned (.bool r) ∧ Below w.heap.size w w' := by
  unfold earshotlaw09_SpinTurns.f at h
  split at h
  case isFalse => cases h
  rename_i hz
  obtain rfl := Option.some.inj h
  simp only [Bool.and_eq_true, decide_eq_true_eq, List.all_eq_true] at hz
  have hT := Kd.C_take hr0 (m := min 40 l0.length) (by omega)
  have e : (l0.take (min 40 l0.length)).length = min 40 l0.length := by rw [List.length_take]; omega
  rw [e] at hT
  exact turns_go A0 l0.length c0 _ a1_0 a1_1 w hG _ rfl e hT (fun x hx => hz.1.1.1.1.2 x (List.mem_of_mem_take hx)) hc0 hz.1.1.1.2 hz.1.1.2 hz.1.2 hz.2

/-- THE ONE PURE STATEMENT of earshotlaw09_SpinTurns: yours. -/
def earshotlaw09_SpinTurns.Pure : Prop := ∀ (l0 : List Int) (a1_0 : Int) (a1_1 : Int), l0.length ≤ maxLen → l0.length * 8 ≤ 140737488351232 → (∀ x ∈ l0, (Lit.int .i64 x).wf = true) → (Lit.int .i64 a1_0).wf = true → (Lit.int .i64 a1_1).wf = true → earshotlaw09_SpinTurns.f l0 a1_0 a1_1 = some true
theorem earshotlaw09_SpinTurns.walk (P : earshotlaw09_SpinTurns.Pure) (a0 : Option Addr) (len0 cap0 : Nat) (z0 : List Int) (a1_0 : Int) (a1_1 : Int) (w : World) (w0 : (a0 = none ∧ len0 = 0 ∧ cap0 = 0 ∧ z0 = []) ∨ ∃ x, a0 = some x ∧ len0 ≤ cap0 ∧ cap0 ≤ maxLen ∧ z0.length = cap0 ∧ (∀ i, i < z0.length → w.cell? (x.add i) = some (.int .i64 (z0.getD i 0))) ∧ ∀ n ∈ z0, (Lit.int .i64 n).wf = true) (y0 : len0 * 8 ≤ 140737488351232) (w1_0 : (Lit.int .i64 a1_0).wf = true) (w1_1 : (Lit.int .i64 a1_1).wf = true) (hG : GlobA w) :
    Calls Tryd.prog 4 #[.slice a0 len0 cap0, .agg #[.int .i64 a1_0, .int .i64 a1_1]] w fun e w' => e = .returned (.bool true) ∧ Below w.heap.size w w' := by
  obtain ⟨l0, rfl, hr0, hm0, hw0, hc0⟩ := ReadsInt.ofRowC w0
  have h := P l0 a1_0 a1_1 hm0 y0 hw0 w1_0 w1_1
  refine (earshotlaw09_SpinTurns.calls _ _ l0 a1_0 a1_1 true w hG (Kd.C_of_reads (d := (0 : Int)) (h1 := fun _ => rfl) hr0) hc0 h).mono ?_
  rintro e w' ⟨rfl, hd⟩
  exact ⟨rfl, hd⟩

end Go.Proofs.YtphmfecabbellaaDoor.PSpinTurns
