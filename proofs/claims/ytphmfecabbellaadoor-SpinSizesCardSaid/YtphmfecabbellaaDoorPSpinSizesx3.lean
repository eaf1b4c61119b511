-- Written by a program of this work (wip/tools) for this claim; Lean checks it.
import Derived.Test.YtphmfecabbellaaDoorPSpinSizesx0
import Derived.Test.YtphmfecabbellaaDoorPSpinSizesx1
namespace Go.Proofs.YtphmfecabbellaaDoor.PSpinSizes
open Go.RowKit Go.Proofs.YtphmfecabbellaaDoorW.PrintWords Go.Proofs.YtphmfecabbellaaDoorW.PrintLast Go.Proofs.YtphmfecabbellaaDoorW.PrintMore
attribute [local go_sem] max2_int min2_int max_two min_two max_three min_three max_four min_four   -- for this text's walks alone
set_option linter.unusedVariables false
set_option linter.unusedSimpArgs false

/-! ### spin_Add: function 20 -/
theorem add_one (x y : Int) (w : World) : Calls Tryd.prog 38 #[.int .i64 x, .int .i64 y] w fun e w' => e = .returned (.int .i64 (wrap64 (x + y))) ∧ w = w' := by
  go_enter Tryd.func38, Tryd.ntmps38
  go_wp2
  go_ret
  exact ⟨rfl, rfl⟩
set_option maxHeartbeats 8000000 in
theorem each_add (A0 A1 : Option Addr) (n c0 m c1 : Nat) (l0 l1 : List Int) (w : World) (hl0 : l0.length = n) (hr0 : Kd.C (Kd.int .i64) w A0 n l0) (hl1 : l1.length = m) (hr1 : Kd.C (Kd.int .i64) w A1 m l1) (hn : n ≤ 1000000) (hm : m ≤ 1000000) :
    Calls Tryd.prog 37 #[.slice A0 n c0, .slice A1 m c1, .func (.func 38) #[] #[]] w fun e w' => ∃ v0_ : Value, e = .returned v0_ ∧ Kd.R (Kd.int .i64) 3 w' w.heap.size (fun _ => True) v0_ (addL l0 l1) ∧ Below w.heap.size w w' := by
  have hmk := print_make 22 3 .i64 8 Tryd.underlying22 turn_info (by decide) n (by omega)
  have HL0 := Aside0.mk hl0
  have HL1 := Aside0.mk hl1
  have HC0 := Aside0.mk hr0
  have HC1 := Aside0.mk hr1
  by_cases hnm : n = m
  · have HU : Aside0 (∀ xs : List Int, xs.length = n → (∀ j, j < n → xs.getD j 0 = wrap64 (l0.getD j 0 + l1.getD j 0)) → xs = addL l0 l1) := ⟨fun xs hx hj => by
      have e : l0.length = l1.length := by omega
      refine row_ext (by rw [addL_length e, hx, hl0]) (fun i hi => ?_)
      rw [hj i (by omega), addL_getD e i (by omega)]⟩
    subst hnm
    clear hl0 hl1 hr0 hr1
    go_enter Tryd.func37, Tryd.ntmps37
    go_wp2
    go_loopw [20] (fun v wr => ∃ (i : Nat) (xs : List Int), i ≤ n ∧ v = .int .i64 (i : Int) ∧ Aside0 (xs.length = n) ∧ Aside0 (∀ j, j < i → xs.getD j 0 = wrap64 (l0.getD j 0 + l1.getD j 0)) ∧ Aside0 (wr.ownsRow w.heap.size 3 1 (.slice (some ⟨w.heap.size, 0, none⟩) n n) n (nums .i64 xs)) ∧ Aside0 (Below w.heap.size w wr)) (fun v _ => n - (intOf v).toNat)
    case atStart =>
      refine ⟨0, List.replicate n 0, by omega, rfl, ⟨by simp⟩, ⟨fun j hj => by omega⟩, ⟨?_⟩, ⟨by repeat (first | exact Below.refl _ _ | apply below_alloc | apply pw_below_drewN)⟩⟩
      exact own_made w w.heap.size 3 .i64 n (Nat.le_refl _) (by omega)
    case round =>
      obtain ⟨i, xs, hi, rfl, HX, HJ, HO, HB⟩ := hrel
      by_cases hlt : i < n
      · obtain ⟨ad, rfl, hcs⟩ := sp_ad HC0.out (by omega)
        obtain ⟨ad1, rfl, hcs1⟩ := sp_ad HC1.out (by omega)
        have hcell := sp_cell (Kd.C_below HC0.out HB.out) i hlt
        have hcell1 := sp_cell (Kd.C_below HC1.out HB.out) i hlt
        obtain ⟨⟨y, hy⟩, hfr⟩ := own_free HO.out i hlt
        obtain ⟨x0, hx0⟩ : ∃ x, l0.getD i 0 = x := ⟨_, rfl⟩
        obtain ⟨x1, hx1⟩ : ∃ x, l1.getD i 0 = x := ⟨_, rfl⟩
        rw [hx0] at hcell
        rw [hx1] at hcell1
        have HX0 := Aside0.mk hx0
        have HX1 := Aside0.mk hx1
        clear hcs hcs1 hx0 hx1
        go_wp2_with (go_at_call 38; (with_reducible refine (add_one x0 x1 _).mono ?_); rintro e w' ⟨rfl, rfl⟩)
        go_roundw
        case rel =>
          have hst := own_store HO.out (i : Int) (wrap64 (x0 + x1))
          rw [Int.toNat_natCast] at hst
          refine ⟨i + 1, _, by omega, by go_num, ⟨by rw [List.length_set, HX.out]⟩, ⟨?_⟩, ⟨hst.1⟩, ⟨Below.grown HB.out hst.2 HB.out.size (fun k hk => by injection hk with hk; omega)⟩⟩
          intro j hj
          by_cases e : j = i
          · subst e
            rw [List.getD_eq_getElem?_getD, List.getElem?_set_self (by rw [HX.out]; exact hlt), HX0.out, HX1.out]; rfl
          · have := HJ.out j (by omega)
            rw [List.getD_eq_getElem?_getD] at this ⊢
            rw [List.getElem?_set_ne (fun h => e h.symm)]
            exact this
        case measure => simp [intOf]; omega
      · obtain rfl : n = i := by omega
        go_wp2
        go_ret
        refine ⟨_, rfl, ?_, HB.out⟩
        rw [← HU.out xs HX.out HJ.out]
        exact Kd.R_of_own (enc := Value.int .i64) (h1 := fun _ => rfl) (ok := fun _ => True) (xs := xs) (by rw [HX.out]; exact HO.out) (fun _ _ => trivial)
  · have hd : ((n : Int) != (m : Int)) = true := by simp; omega
    have HE : Aside0 (addL l0 l1 = []) := ⟨by unfold addL; rw [if_neg (by omega)]⟩
    clear hnm hl0 hl1 hr0 hr1
    go_enter Tryd.func37, Tryd.ntmps37
    go_wp2
    go_ret
    exact ⟨_, rfl, by rw [HE.out]; exact Kd.R_nil _ _ _ _ _, by repeat (first | exact Below.refl _ _ | apply below_alloc | apply pw_below_drewN)⟩
def addGo (h : Nat) : List (List Int) → List Int → List Int
  | [], o => o
  | v :: vs, o => if (addL o v).length = h then addGo h vs (addL o v) else []
def addAll : List (List Int) → List Int
  | [] => []
  | v :: vs => addGo v.length (v :: vs) (List.replicate v.length 0)
theorem row_at {w : World} {A : Option Addr} {n e : Nat} {vs : List (List Int)} (h : (Kd.slice e (Kd.int .i64)).C w A n vs) (j : Nat) (hj : j < n) :
    ∃ ad B c, A = some ad ∧ w.cell? (ad.add j) = some (.slice B (vs.getD j []).length c) ∧ (vs.getD j []).length ≤ c ∧ (Kd.int .i64).C w B (vs.getD j []).length (vs.getD j []) := by
  obtain ⟨ad, c, ha, hs, ⟨B, cp, hc, hle, hC⟩, hcell⟩ := ReadsRow.get_ h [] (j : Int) (by omega) (by omega)
  rw [Int.toNat_natCast] at hc hle hC hcell
  refine ⟨ad, B, cp, ha, ?_, hle, hC⟩
  have := hcell 0 (.slice B (vs.getD j []).length cp) (by rw [hc]; rfl)
  rwa [show j * (Kd.slice e (Kd.int .i64)).sz + 0 = j from by show j * 1 + 0 = j; omega] at this
def add_ok (vs : List (List Int)) : Bool := decide (vs.length ≤ 1000000) && vs.all fun v => decide (v.length ≤ 1000000)
def spin_Add.f (l0 : List (List Int)) : Option (List Int) := if add_ok l0 = true then some (addAll l0) else none
set_option maxHeartbeats 8000000 in
theorem add_go (A0 : Option Addr) (m c0 : Nat) (vs : List (List Int)) (w : World) (hl : vs.length = m) (hr0 : Kd.C (Kd.slice 3 (Kd.int .i64)) w A0 m vs) (hm : m ≤ 1000000) (hv : ∀ v ∈ vs, v.length ≤ 1000000) :
    Calls Tryd.prog 20 #[.slice A0 m c0] w fun e w' => ∃ v0_ : Value, e = .returned v0_ ∧ Kd.R (Kd.int .i64) 3 w' w.heap.size (fun _ => True) v0_ (addAll vs) ∧ Below w.heap.size w w' := by
  rcases Nat.eq_zero_or_pos m with h0 | h0
  · subst h0
    have HE : Aside0 (addAll vs = []) := ⟨by rw [List.eq_nil_of_length_eq_zero hl]; rfl⟩
    clear hl hr0 hv
    go_enter Tryd.func20, Tryd.ntmps20
    go_wp2
    go_ret
    exact ⟨_, rfl, by rw [HE.out]; exact Kd.R_nil _ _ _ _ _, by repeat (first | exact Below.refl _ _ | apply below_alloc | apply pw_below_drewN)⟩
  · obtain ⟨ad, B0, b0, rfl, hc0, _, _⟩ := row_at hr0 0 h0
    obtain ⟨h, hh⟩ : ∃ h, (vs.getD 0 []).length = h := ⟨_, rfl⟩
    rw [hh] at hc0
    have hmem : ∀ j, j < m → (vs.getD j []).length ≤ 1000000 := fun j hj => by
      rw [List.getD_eq_getElem?_getD, List.getElem?_eq_getElem (by omega)]
      exact hv _ (List.getElem_mem _)
    have hh1 : h ≤ 1000000 := by rw [← hh]; exact hmem 0 h0
    have hst : addGo h vs (List.replicate h 0) = addAll vs := by
      cases vs with
      | nil => simp at hl; omega
      | cons v vs => rw [← hh]; rfl
    have hmk := print_make 22 3 .i64 8 Tryd.underlying22 turn_info (by decide) h (by omega)
    have HL := Aside0.mk hl
    have HC := Aside0.mk hr0
    have HM := Aside0.mk hmem
    have HST := Aside0.mk hst
    rw [show ad.add 0 = ad by simp [Addr.add]] at hc0
    have HC0 := Aside0.mk hc0
    have hm0 : ((m : Int) == 0) = false := by simp; omega
    clear hl hr0 hv hmem hst hh
    go_enter Tryd.func20, Tryd.ntmps20
    go_wp2
    clear hc0
    go_loopw [3, 16] (fun v3 v wr => ∃ (i : Nat) (o : List Int), i ≤ m ∧ v = .int .i64 (i : Int) ∧ Aside0 (o.length = h) ∧ Aside0 (addGo h (vs.drop i) o = addAll vs) ∧ Aside0 (Kd.R (Kd.int .i64) 3 wr w.heap.size (fun _ => True) v3 o) ∧ Aside0 (Below w.heap.size w wr)) (fun _ v _ => m - (intOf v).toNat)
    case atStart =>
      refine ⟨0, List.replicate h 0, by omega, rfl, ⟨by simp⟩, HST, ⟨?_⟩, ⟨by repeat (first | exact Below.refl _ _ | apply below_alloc | apply pw_below_drewN)⟩⟩
      have := own_made w w.heap.size 3 .i64 h (Nat.le_refl _) (by omega)
      exact Kd.R_of_own (enc := Value.int .i64) (h1 := fun _ => rfl) (ok := fun _ => True) (xs := List.replicate h 0) (by rw [List.length_replicate]; exact this) (fun _ _ => trivial)
    case round =>
      obtain ⟨i, o, hi, rfl, HO, HG, HR, HB⟩ := hrel
      by_cases hlt : i < m
      · obtain ⟨ad', B, b, he, hcell, _, hCB⟩ := row_at (Kd.C_below HC.out HB.out) i hlt
        obtain rfl := Option.some.inj he
        obtain ⟨v, hvv⟩ : ∃ v, vs.getD i [] = v := ⟨_, rfl⟩
        have hvl := HM.out i hlt
        rw [hvv] at hcell hCB hvl
        have hdrop : vs.drop i = v :: vs.drop (i + 1) := by
          rw [List.drop_eq_getElem_cons (by rw [HL.out]; exact hlt), ← hvv, List.getD_eq_getElem?_getD, List.getElem?_eq_getElem (by rw [HL.out]; exact hlt)]
          rfl
        obtain ⟨q, hq⟩ : ∃ q, v.length = q := ⟨_, rfl⟩
        rw [hq] at hcell hCB hvl
        obtain ⟨A3, c3, rfl, _, hC3⟩ := Kd.R_reads HR.out
        rw [HO.out] at hC3 ⊢
        have HC3 := Aside0.mk hC3
        have HCB := Aside0.mk hCB
        have HQ := Aside0.mk hq
        have HD := Aside0.mk hdrop
        clear hvv hdrop hq hC3 hCB he
        by_cases hz : (addL o v).length = h
        · have HZ := Aside0.mk hz
          clear hz
          go_wp2_with (go_at_call 37; (with_reducible refine (each_add A3 B h c3 q b o v _ HO.out HC3.out HQ.out HCB.out hh1 hvl).mono ?_); rintro e w2 ⟨v4, rfl, hR, hb⟩; obtain ⟨A4, c4, rfl, _, _⟩ := Kd.R_reads hR; have HR4 := Aside0.mk (Kd.R_lower hR HB.out.size); have HB4 := Aside0.mk (below_step HB.out hb); clear hR hb; have hc1 := pw_cell_below HB4.out HC0.out; rw [HZ.out] at HR4 ⊢)
          go_roundw
          case rel => exact ⟨i + 1, _, by omega, by go_num, HZ, ⟨by rw [← HG.out, HD.out, addGo, if_pos HZ.out]⟩, HR4, HB4⟩
          case measure => simp [intOf]; omega
        · obtain ⟨z, hz2⟩ : ∃ z, (addL o v).length = z := ⟨_, rfl⟩
          rw [hz2] at hz
          have HE : Aside0 (addAll vs = []) := ⟨by rw [← HG.out, HD.out, addGo, if_neg (by rw [hz2]; exact hz)]⟩
          have hd : ((z : Int) != (h : Int)) = true := by simp; omega
          have HZ := Aside0.mk hz2
          clear hz hz2
          go_wp2_with (go_at_call 37; (with_reducible refine (each_add A3 B h c3 q b o v _ HO.out HC3.out HQ.out HCB.out hh1 hvl).mono ?_); rintro e w2 ⟨v4, rfl, hR, hb⟩; obtain ⟨A4, c4, rfl, _, _⟩ := Kd.R_reads hR; have HB4 := Aside0.mk (below_step HB.out hb); clear hR hb; have hc1 := pw_cell_below HB4.out HC0.out; rw [HZ.out])
          go_ret
          exact ⟨_, rfl, by rw [HE.out]; exact Kd.R_nil _ _ _ _ _, HB4.out⟩
      · obtain rfl : m = i := by omega
        go_wp2
        go_ret
        refine ⟨_, rfl, ?_, HB.out⟩
        have hg := HG.out
        rw [← HL.out, List.drop_length, addGo] at hg
        rw [← hg]
        exact HR.out
theorem spin_Add.calls (A0 : Option Addr) (c0 : Nat) (l0 : List (List Int)) (r : List Int) (w : World) (hr0 : Kd.C (Kd.slice 3 (Kd.int .i64)) w A0 l0.length l0) (hc0 : l0.length ≤ c0) (h : spin_Add.f l0 = some r) :
    Calls Tryd.prog 20 #[.slice A0 l0.length c0] w fun e w' => ∃ v0_ : Value, e = .returned v0_ ∧ Kd.R (Kd.int .i64) 3 w' w.heap.size (fun _ => True) v0_ r ∧ Below w.heap.size w w' := by
  unfold spin_Add.f at h
  split at h
  case isFalse => cases h
  rename_i hz
  obtain rfl := Option.some.inj h
  simp only [add_ok, Bool.and_eq_true, decide_eq_true_eq, List.all_eq_true] at hz
  exact add_go A0 _ c0 l0 w rfl hr0 hz.1 hz.2

-- NOT PRINTED: function 44 (spin_Less_1)

/-! ### spin_Less: function 22 -/
theorem less_one (x y : Int) (w : World) : Calls Tryd.prog 44 #[.int .i64 x, .int .i64 y] w fun e w' => e = .returned (.int .i64 (wrap64 (x - y))) ∧ w = w' := by
  go_enter Tryd.func44, Tryd.ntmps44
  go_wp2
  go_ret
  exact ⟨rfl, rfl⟩
set_option maxHeartbeats 8000000 in
theorem each_less (A0 A1 : Option Addr) (n c0 m c1 : Nat) (l0 l1 : List Int) (w : World) (hl0 : l0.length = n) (hr0 : Kd.C (Kd.int .i64) w A0 n l0) (hl1 : l1.length = m) (hr1 : Kd.C (Kd.int .i64) w A1 m l1) (hn : n ≤ 1000000) (hm : m ≤ 1000000) :
    Calls Tryd.prog 37 #[.slice A0 n c0, .slice A1 m c1, .func (.func 44) #[] #[]] w fun e w' => ∃ v0_ : Value, e = .returned v0_ ∧ Kd.R (Kd.int .i64) 3 w' w.heap.size (fun _ => True) v0_ (lessL l0 l1) ∧ Below w.heap.size w w' := by
  have hmk := print_make 22 3 .i64 8 Tryd.underlying22 turn_info (by decide) n (by omega)
  have HL0 := Aside0.mk hl0
  have HL1 := Aside0.mk hl1
  have HC0 := Aside0.mk hr0
  have HC1 := Aside0.mk hr1
  by_cases hnm : n = m
  · have HU : Aside0 (∀ xs : List Int, xs.length = n → (∀ j, j < n → xs.getD j 0 = wrap64 (l0.getD j 0 - l1.getD j 0)) → xs = lessL l0 l1) := ⟨fun xs hx hj => by
      have e : l0.length = l1.length := by omega
      refine row_ext (by rw [lessL_length e, hx, hl0]) (fun i hi => ?_)
      rw [hj i (by omega), lessL_getD e i (by omega)]⟩
    subst hnm
    clear hl0 hl1 hr0 hr1
    go_enter Tryd.func37, Tryd.ntmps37
    go_wp2
    go_loopw [20] (fun v wr => ∃ (i : Nat) (xs : List Int), i ≤ n ∧ v = .int .i64 (i : Int) ∧ Aside0 (xs.length = n) ∧ Aside0 (∀ j, j < i → xs.getD j 0 = wrap64 (l0.getD j 0 - l1.getD j 0)) ∧ Aside0 (wr.ownsRow w.heap.size 3 1 (.slice (some ⟨w.heap.size, 0, none⟩) n n) n (nums .i64 xs)) ∧ Aside0 (Below w.heap.size w wr)) (fun v _ => n - (intOf v).toNat)
    case atStart =>
      refine ⟨0, List.replicate n 0, by omega, rfl, ⟨by simp⟩, ⟨fun j hj => by omega⟩, ⟨?_⟩, ⟨by repeat (first | exact Below.refl _ _ | apply below_alloc | apply pw_below_drewN)⟩⟩
      exact own_made w w.heap.size 3 .i64 n (Nat.le_refl _) (by omega)
    case round =>
      obtain ⟨i, xs, hi, rfl, HX, HJ, HO, HB⟩ := hrel
      by_cases hlt : i < n
      · obtain ⟨ad, rfl, hcs⟩ := sp_ad HC0.out (by omega)
        obtain ⟨ad1, rfl, hcs1⟩ := sp_ad HC1.out (by omega)
        have hcell := sp_cell (Kd.C_below HC0.out HB.out) i hlt
        have hcell1 := sp_cell (Kd.C_below HC1.out HB.out) i hlt
        obtain ⟨⟨y, hy⟩, hfr⟩ := own_free HO.out i hlt
        obtain ⟨x0, hx0⟩ : ∃ x, l0.getD i 0 = x := ⟨_, rfl⟩
        obtain ⟨x1, hx1⟩ : ∃ x, l1.getD i 0 = x := ⟨_, rfl⟩
        rw [hx0] at hcell
        rw [hx1] at hcell1
        have HX0 := Aside0.mk hx0
        have HX1 := Aside0.mk hx1
        clear hcs hcs1 hx0 hx1
        go_wp2_with (go_at_call 44; (with_reducible refine (less_one x0 x1 _).mono ?_); rintro e w' ⟨rfl, rfl⟩)
        go_roundw
        case rel =>
          have hst := own_store HO.out (i : Int) (wrap64 (x0 - x1))
          rw [Int.toNat_natCast] at hst
          refine ⟨i + 1, _, by omega, by go_num, ⟨by rw [List.length_set, HX.out]⟩, ⟨?_⟩, ⟨hst.1⟩, ⟨Below.grown HB.out hst.2 HB.out.size (fun k hk => by injection hk with hk; omega)⟩⟩
          intro j hj
          by_cases e : j = i
          · subst e
            rw [List.getD_eq_getElem?_getD, List.getElem?_set_self (by rw [HX.out]; exact hlt), HX0.out, HX1.out]; rfl
          · have := HJ.out j (by omega)
            rw [List.getD_eq_getElem?_getD] at this ⊢
            rw [List.getElem?_set_ne (fun h => e h.symm)]
            exact this
        case measure => simp [intOf]; omega
      · obtain rfl : n = i := by omega
        go_wp2
        go_ret
        refine ⟨_, rfl, ?_, HB.out⟩
        rw [← HU.out xs HX.out HJ.out]
        exact Kd.R_of_own (enc := Value.int .i64) (h1 := fun _ => rfl) (ok := fun _ => True) (xs := xs) (by rw [HX.out]; exact HO.out) (fun _ _ => trivial)
  · have hd : ((n : Int) != (m : Int)) = true := by simp; omega
    have HE : Aside0 (lessL l0 l1 = []) := ⟨by unfold lessL; rw [if_neg (by omega)]⟩
    clear hnm hl0 hl1 hr0 hr1
    go_enter Tryd.func37, Tryd.ntmps37
    go_wp2
    go_ret
    exact ⟨_, rfl, by rw [HE.out]; exact Kd.R_nil _ _ _ _ _, by repeat (first | exact Below.refl _ _ | apply below_alloc | apply pw_below_drewN)⟩
def spin_Less.f (l0 l1 : List Int) : Option (List Int) := if decide (l0.length ≤ 1000000) && decide (l1.length ≤ 1000000) then some (lessL l0 l1) else none
theorem less_go (A0 A1 : Option Addr) (n c0 m c1 : Nat) (l0 l1 : List Int) (w : World) (hl0 : l0.length = n) (hr0 : Kd.C (Kd.int .i64) w A0 n l0) (hl1 : l1.length = m) (hr1 : Kd.C (Kd.int .i64) w A1 m l1) (hn : n ≤ 1000000) (hm : m ≤ 1000000) :
    Calls Tryd.prog 22 #[.slice A0 n c0, .slice A1 m c1] w fun e w' => ∃ v0_ : Value, e = .returned v0_ ∧ Kd.R (Kd.int .i64) 3 w' w.heap.size (fun _ => True) v0_ (lessL l0 l1) ∧ Below w.heap.size w w' := by
  have HL0 := Aside0.mk hl0
  have HL1 := Aside0.mk hl1
  have HC0 := Aside0.mk hr0
  have HC1 := Aside0.mk hr1
  clear hl0 hl1 hr0 hr1
  go_enter Tryd.func22, Tryd.ntmps22
  go_wp2_with (go_at_call 37; (with_reducible refine (each_less A0 A1 n c0 m c1 l0 l1 _ HL0.out HC0.out HL1.out HC1.out hn hm).mono ?_); rintro e w2 ⟨v4, rfl, hR, hb⟩; have HR := Aside0.mk hR; have HB := Aside0.mk hb; clear hR hb)
  go_ret
  exact ⟨_, rfl, HR.out, HB.out⟩
theorem spin_Less.calls (A0 : Option Addr) (c0 : Nat) (l0 : List Int) (A1 : Option Addr) (c1 : Nat) (l1 : List Int) (r : List Int) (w : World) (hr0 : Kd.C (Kd.int .i64) w A0 l0.length l0) (hc0 : l0.length ≤ c0) (hr1 : Kd.C (Kd.int .i64) w A1 l1.length l1) (hc1 : l1.length ≤ c1) (h : spin_Less.f l0 l1 = some r) :
    Calls Tryd.prog 22 #[.slice A0 l0.length c0, .slice A1 l1.length c1] w fun e w' => ∃ v0_ : Value, e = .returned v0_ ∧ Kd.R (Kd.int .i64) 3 w' w.heap.size (fun _ => True) v0_ r ∧ Below w.heap.size w w' := by
  unfold spin_Less.f at h
  split at h
  case isFalse => cases h
  rename_i hz
  obtain rfl := Option.some.inj h
  simp only [Bool.and_eq_true, decide_eq_true_eq] at hz
  exact less_go A0 A1 _ c0 _ c1 l0 l1 w rfl hr0 rfl hr1 hz.1 hz.2

/-! ### earshotref09_May: function 23 -/
def earshotref09_May.f (a0 : Int) : Option (Bool) := if a0 = 1 then (some true) else (if a0 = 2 then (some true) else (if a0 = 4 then (some true) else (if a0 = 8 then (some true) else (if a0 = 16 then (some true) else (some (a0 == 32))))))
set_option maxHeartbeats 8000000 in
set_option maxRecDepth 100000 in
theorem earshotref09_May.calls (a0 : Int) (r : Bool) (w : World) (h : earshotref09_May.f a0 = some r) :
    Calls Tryd.prog 23 #[.int .i64 a0] w fun e w' => e = .returned (.bool r) ∧ Drawn0 w w' := by
  have H : (if a0 = 1 then (some true) else (if a0 = 2 then (some true) else (if a0 = 4 then (some true) else (if a0 = 8 then (some true) else (if a0 = 16 then (some true) else (some (a0 == 32))))))) = some r := h
  clear h
  by_cases c2 : a0 = 1
  · rw [if_pos c2] at H
    have c2b0 : (a0 == 1) = true := beq_iff_eq.mpr c2
    have c2b1 : (a0 != 1) = false := bne_eq_false_iff_eq.mpr c2
    clear c2
    obtain rfl := Option.some.inj H
    go_enter Tryd.func23, Tryd.ntmps23
    go_wp2
    go_ret
    exact ⟨by first | rfl | (simp; done) | (simp [*]; done), by repeat (first | exact Drawn0.refl _ | apply Drawn0.step)⟩
  · rw [if_neg c2] at H
    have c2b0 : (a0 == 1) = false := beq_eq_false_iff_ne.mpr c2
    have c2b1 : (a0 != 1) = true := bne_iff_ne.mpr c2
    by_cases c3 : a0 = 2
    · rw [if_pos c3] at H
      have c3b0 : (a0 == 2) = true := beq_iff_eq.mpr c3
      have c3b1 : (a0 != 2) = false := bne_eq_false_iff_eq.mpr c3
      clear c3
      obtain rfl := Option.some.inj H
      go_enter Tryd.func23, Tryd.ntmps23
      go_wp2
      go_ret
      exact ⟨by first | rfl | (simp; done) | (simp [*]; done), by repeat (first | exact Drawn0.refl _ | apply Drawn0.step)⟩
    · rw [if_neg c3] at H
      have c3b0 : (a0 == 2) = false := beq_eq_false_iff_ne.mpr c3
      have c3b1 : (a0 != 2) = true := bne_iff_ne.mpr c3
      by_cases c4 : a0 = 4
      · rw [if_pos c4] at H
        have c4b0 : (a0 == 4) = true := beq_iff_eq.mpr c4
        have c4b1 : (a0 != 4) = false := bne_eq_false_iff_eq.mpr c4
        clear c4
        obtain rfl := Option.some.inj H
        go_enter Tryd.func23, Tryd.ntmps23
        go_wp2
        go_ret
        exact ⟨by first | rfl | (simp; done) | (simp [*]; done), by repeat (first | exact Drawn0.refl _ | apply Drawn0.step)⟩
      · rw [if_neg c4] at H
        have c4b0 : (a0 == 4) = false := beq_eq_false_iff_ne.mpr c4
        have c4b1 : (a0 != 4) = true := bne_iff_ne.mpr c4
        by_cases c5 : a0 = 8
        · rw [if_pos c5] at H
          have c5b0 : (a0 == 8) = true := beq_iff_eq.mpr c5
          have c5b1 : (a0 != 8) = false := bne_eq_false_iff_eq.mpr c5
          clear c5
          obtain rfl := Option.some.inj H
          go_enter Tryd.func23, Tryd.ntmps23
          go_wp2
          go_ret
          exact ⟨by first | rfl | (simp; done) | (simp [*]; done), by repeat (first | exact Drawn0.refl _ | apply Drawn0.step)⟩
        · rw [if_neg c5] at H
          have c5b0 : (a0 == 8) = false := beq_eq_false_iff_ne.mpr c5
          have c5b1 : (a0 != 8) = true := bne_iff_ne.mpr c5
          by_cases c6 : a0 = 16
          · rw [if_pos c6] at H
            have c6b0 : (a0 == 16) = true := beq_iff_eq.mpr c6
            have c6b1 : (a0 != 16) = false := bne_eq_false_iff_eq.mpr c6
            clear c6
            obtain rfl := Option.some.inj H
            go_enter Tryd.func23, Tryd.ntmps23
            go_wp2
            go_ret
            exact ⟨by first | rfl | (simp; done) | (simp [*]; done), by repeat (first | exact Drawn0.refl _ | apply Drawn0.step)⟩
          · rw [if_neg c6] at H
            have c6b0 : (a0 == 16) = false := beq_eq_false_iff_ne.mpr c6
            have c6b1 : (a0 != 16) = true := bne_iff_ne.mpr c6
            obtain rfl := Option.some.inj H
            go_enter Tryd.func23, Tryd.ntmps23
            go_wp2
            go_ret
            exact ⟨by first | rfl | (simp; done) | (simp [*]; done), by repeat (first | exact Drawn0.refl _ | apply Drawn0.step)⟩

end Go.Proofs.YtphmfecabbellaaDoor.PSpinSizes
