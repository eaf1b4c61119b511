-- Written by a program of this work (wip/tools) for this claim; Lean checks it.
import Derived.Test.YtmhacdnnnebpdaaDoorPDctTurnedx0
import Derived.Test.YtmhacdnnnebpdaaDoorPDctTurnedx1
import Derived.Test.YtmhacdnnnebpdaaDoorPDctTurnedx2
namespace Go.Proofs.YtmhacdnnnebpdaaDoor.PDctTurned
open Go.RowKit Go.Proofs.YtmhacdnnnebpdaaDoorW.PrintWords Go.Proofs.YtmhacdnnnebpdaaDoorW.PrintLast Go.Proofs.YtmhacdnnnebpdaaDoorW.PrintMore
attribute [local go_sem] max2_int min2_int max_two min_two max_three min_three max_four min_four   -- for this text's walks alone
set_option linter.unusedVariables false
set_option linter.unusedSimpArgs false

/-! ### dct_Dct: function 21 -/




def dctV (l : List Int) (k : Nat) : Int := divR (dS (dctRow k l.length) l l.length) 16384
def dctL (c : Nat) (l : List Int) : List Int := (List.range c).map (dctV l)
def dctMay (c : Int) (n : Nat) : Bool := mayB n && decide (1 ≤ c) && decide (c ≤ (n : Int))
def dctF (c : Int) (l : List Int) : List Int := if dctMay c l.length = true then dctL c.toNat l else []
theorem dct_half {x : Int} (h : -9223372036854775808 ≤ x ∧ x ≤ 9223372036854775807) : round_Half.f x 14 = some (divR x 16384) := by
  unfold round_Half.f round_Div.f
  have e : shl .i64 1 14 = 16384 := by decide
  rw [if_neg (by decide), if_neg (by decide), if_pos (by decide), e, if_pos (i64b_mk h.1 h.2), if_pos (by decide)]
  rfl

def dct_Dct.f (a0 : Int) (l1 : List Int) : Option (List Int) := if decide (l1.length ≤ 1000000) then some (dctF a0 l1) else none
theorem row_c (k n : Nat) (W : World) (hG : GlobA W) (hm : mayB n = true) (hk : k < n) :
    Calls Tryd.prog 20 #[.int .i64 (k : Int), .int .i64 (n : Int)] W fun e w' => ∃ A c, e = .returned (.slice A n c) ∧ n ≤ c ∧ Aside0 ((Kd.int .i64).C w' A n (dctRow k n)) ∧ Aside0 (Below W.heap.size W w') :=
  (dct_Row.calls _ _ _ W hG (show dct_Row.f (k : Int) (n : Int) = some (dctRow k n) by unfold dct_Row.f; rw [rowF_yes hm hk])).mono fun e w' ⟨v, he, hR, hb⟩ => by
    obtain ⟨A, c, hv, h1, h2⟩ := Kd.R_reads hR
    rw [dctRow_length] at hv h1 h2
    exact ⟨A, c, by rw [he, hv], h1, ⟨h2⟩, ⟨hb⟩⟩
theorem half_c (x r : Int) (W : World) (h : -9223372036854775808 ≤ x ∧ x ≤ 9223372036854775807) (hr : divR x 16384 = r) :
    Calls Tryd.prog 47 #[.int .i64 x, .int .i64 14] W fun e w' => e = .returned (.int .i64 r) ∧ Aside0 (Below W.heap.size W w') := by
  subst hr
  exact (round_Half.calls _ _ _ W (dct_half h)).mono fun e w' ⟨a, b⟩ => ⟨a, ⟨b⟩⟩
set_option maxHeartbeats 8000000 in
theorem coef_c (k g n c : Nat) (A : Option Addr) (l : List Int) (w : World) (hG : GlobA w) (hg : w.heap[g]? = some (.cells #[.slice A n c] 22 (0, 0))) (hl : l.length = n) (hC : (Kd.int .i64).C w A n l) (hm : mayB n = true) (hk : k < n) :
    Calls Tryd.prog 46 #[.int .i64 (k : Int), .pointer (some ⟨g, 0, none⟩)] w fun e w' => e = .returned (.int .i64 (dctV l k)) ∧ Aside0 (Below w.heap.size w w') := by
  have hc := cell_of_one hg
  have HG := Aside0.mk hG
  have HBX := Aside0.mk hg
  have HC := Aside0.mk hC
  have HL := Aside0.mk hl
  have HM := Aside0.mk hm
  have hn16 : n ≤ 16 := by rcases mayB_cases hm with rfl | rfl | rfl <;> omega
  have hB0 : Aside0 (Below w.heap.size w w) := ⟨Below.refl _ _⟩
  clear hG hg hC hl hm
  go_enter Tryd.func46, Tryd.ntmps46
  go_wp2_with (go_at_call 20; (with_reducible refine (row_c k n _ HG.out HM.out hk).mono ?_); rintro e w1 ⟨Ar, cr, rfl, hcr, CR0, HB0⟩)
  go_loopw [4, 12] (fun v4 v12 wr => ∃ (j : Nat), j ≤ n ∧ v12 = .int .i64 (j : Int) ∧ v4 = .int .i64 (dS (dctRow k n) l j) ∧ Aside0 ((Kd.int .i64).C wr Ar n (dctRow k n)) ∧ Aside0 (Below w.heap.size w wr)) (fun _ v _ => n - (intOf v).toNat)
  case atStart => exact ⟨0, by omega, rfl, rfl, CR0, HB0⟩
  case round =>
    clear CR0 HB0 hc
    obtain ⟨j, hj, rfl, rfl, CR, HB⟩ := hrel
    have hc := cell_of_one (blk_grown HBX.out (grown_of_below HB.out none) (by simp))
    by_cases hlt : j < n
    · obtain ⟨adr, rfl, hcs⟩ := sp_ad CR.out (by omega)
      have hC1 := Kd.C_below HC.out HB.out
      obtain ⟨ad, rfl, hcs1⟩ := sp_ad hC1 (by omega)
      have k0 := sp_cell CR.out j hlt
      have k1 := sp_cell hC1 j hlt
      obtain ⟨x, hx⟩ : ∃ x, (dctRow k n).getD j 0 = x := ⟨_, rfl⟩
      obtain ⟨y, hy⟩ : ∃ y, l.getD j 0 = y := ⟨_, rfl⟩
      obtain ⟨s, hs⟩ : ∃ s, dS (dctRow k n) l j = s := ⟨_, rfl⟩
      have HN : Aside0 (dS (dctRow k n) l (j + 1) = wrap64 (s + wrap64 (x * y))) := ⟨by rw [dS, hs, hx, hy]⟩
      rw [hx] at k0
      rw [hy] at k1
      rw [hs]
      clear hcs hcs1 hC1 hx hy hs
      go_wp2
      go_roundw
      case rel => exact ⟨j + 1, by omega, by go_num, by rw [HN.out], CR, HB⟩
      case measure => simp [intOf]; omega
    · obtain rfl : n = j := by omega
      obtain ⟨s, hs⟩ : ∃ s, dS (dctRow k n) l n = s := ⟨_, rfl⟩
      have hb := dS_in (dctRow k n) l n
      obtain ⟨z, hz⟩ : ∃ z, divR s 16384 = z := ⟨_, rfl⟩
      have HV : Aside0 (dctV l k = z) := ⟨by unfold dctV; rw [HL.out, hs, hz]⟩
      rw [hs] at hb ⊢
      have HI := Aside0.mk hb
      have HZ := Aside0.mk hz
      clear hs hb hz
      go_wp2_with (go_at_call 47; (with_reducible refine (half_c s z _ HI.out HZ.out).mono ?_); rintro e w2 ⟨rfl, HB2⟩)
      go_ret
      exact ⟨by rw [HV.out]; rfl, ⟨below_then HB.out HB.out.size HB2.out⟩⟩
set_option maxHeartbeats 8000000 in
theorem dct_yes (K n c1 : Nat) (A : Option Addr) (l : List Int) (w : World) (hG : GlobA w) (hl : l.length = n) (hC : (Kd.int .i64).C w A n l) (hm : mayB n = true) (h1 : 1 ≤ K) (hK : K ≤ n) :
    Calls Tryd.prog 21 #[.int .i64 (K : Int), .slice A n c1] w fun e w' => ∃ v0_ : Value, e = .returned v0_ ∧ Kd.R (Kd.int .i64) 3 w' w.heap.size (fun _ => True) v0_ (dctL K l) ∧ Below w.heap.size w w' := by
  have hmf : ∀ (fn : Fn) (first cap : Array Value) (w : World), (Instr.makeFunc fn first cap).run Tryd.prog w = .ok (.func fn first cap) w := fun _ _ _ _ => rfl
  have hn16 : n ≤ 16 := by rcases mayB_cases hm with rfl | rfl | rfl <;> omega
  have hd1 : decide ((K : Int) < 1) = false := decide_eq_false (by omega)
  have hd2 : decide (n < K) = false := decide_eq_false (by omega)
  have hd3 : decide ((n : Int) < (K : Int)) = false := decide_eq_false (by omega)
  have hmk := print_make 22 3 .i64 8 Tryd.underlying22 turn_info (by decide) K (by omega)
  have HMY := Aside0.mk (by rw [dct_may_f, Int.toNat_natCast, hm] : dct_may.f (n : Int) = some true)
  have HG := Aside0.mk hG
  have HC := Aside0.mk hC
  have HL := Aside0.mk hl
  have HM := Aside0.mk hm
  have HLN : Aside0 ((dctL K l).length = K) := ⟨by simp [dctL]⟩
  have HLV : Aside0 (∀ j, j < K → (dctL K l).getD j 0 = dctV l j) := ⟨fun j hj => getD_map_range K (dctV l) j hj⟩
  clear hG hC hl hm
  go_enter Tryd.func21, Tryd.ntmps21
  go_wp2_with (go_at_call 44; (with_reducible refine (dct_may.calls _ _ _ HMY.out).mono ?_); rintro e w1 ⟨rfl, ⟨nd, rfl⟩⟩)
  have hlt0 : w.heap.size < w.heap.size + 1 := by omega
  go_loopw [27] (fun v wr => ∃ (t : Nat) (xs : List Int), t ≤ K ∧ v = .int .i64 (t : Int) ∧ Aside0 (xs.length = K) ∧ Aside0 (∀ j, j < t → xs.getD j 0 = (dctL K l).getD j 0) ∧ Aside0 (wr.heap[w.heap.size]? = some (.cells #[.slice A n c1] 22 (0, 0))) ∧ Aside0 (wr.ownsRow w.heap.size 3 1 (.slice (some ⟨w.heap.size + 1, 0, none⟩) K K) K (nums .i64 xs)) ∧ Aside0 (Below w.heap.size w wr)) (fun v _ => K - (intOf v).toNat)
  case atStart =>
    refine ⟨0, List.replicate K 0, by omega, rfl, ⟨by simp⟩, ⟨fun j hj => by omega⟩, ⟨?_⟩, ⟨?_⟩, ⟨by repeat (first | exact Below.refl _ _ | apply below_alloc | apply pw_below_drewN)⟩⟩
    · rw [Below.heap_alloc _ _ _ (by simp)]
      exact heap_alloc_new w _
    · have := own_made ((w.alloc (.cells #[.slice A n c1] 22)).drewN nd) w.heap.size 3 .i64 K (by simp) (by omega)
      simpa using this
  case round =>
    obtain ⟨t, xs, ht, rfl, HX, HJ, HBX, HO, HB⟩ := hrel
    by_cases hlt : t < K
    · go_wp2_with (go_at_call 46; refine (coef_c t w.heap.size n c1 A l _ (HG.out.below HB.out) HBX.out HL.out (Kd.C_below HC.out HB.out) HM.out (by omega)).mono ?_; rintro e w2 ⟨rfl, hb⟩; have HO2 := Aside0.mk (pw_own_below HO.out hb.out); have HBX2 := Aside0.mk (blk_grown HBX.out (grown_of_below hb.out none) (by simp)); have HB2 := Aside0.mk (below_then HB.out HB.out.size hb.out); obtain ⟨⟨yy, hcz⟩, hfz⟩ := own_free HO2.out t hlt)
      go_roundw
      case rel =>
        have hst := own_store HO2.out (t : Int) (dctV l t)
        rw [Int.toNat_natCast] at hst
        refine ⟨t + 1, _, by omega, by go_num, ⟨by rw [List.length_set, HX.out]⟩, ⟨?_⟩, ⟨blk_grown HBX2.out hst.2 (by simp)⟩, ⟨hst.1⟩, ⟨Below.grown HB2.out hst.2 HB2.out.size (fun k hk => by injection hk with hk; omega)⟩⟩
        intro j hj
        by_cases e : j = t
        · subst e
          rw [HLV.out j hlt, List.getD_eq_getElem?_getD, List.getElem?_set_self (by rw [HX.out]; exact hlt)]; rfl
        · have := HJ.out j (by omega)
          rw [List.getD_eq_getElem?_getD] at this ⊢
          rw [List.getElem?_set_ne (fun h => e h.symm)]
          exact this
      case measure => simp [intOf]; omega
    · obtain rfl : K = t := by omega
      go_wp2
      go_ret
      refine ⟨_, rfl, ?_, HB.out⟩
      have hU : xs = dctL K l := row_ext (by rw [HX.out, HLN.out]) (fun j hj => by rw [HX.out] at hj; exact HJ.out j hj)
      rw [← hU]
      exact Kd.R_of_own (enc := Value.int .i64) (h1 := fun _ => rfl) (ok := fun _ => True) (xs := xs) (by rw [HX.out]; exact HO.out) (fun _ _ => trivial)
theorem dct_no (a0 : Int) (n c1 : Nat) (A : Option Addr) (w : World) (hm : dctMay a0 n = false) (hn : n ≤ 1000000) :
    Calls Tryd.prog 21 #[.int .i64 a0, .slice A n c1] w fun e w' => ∃ v0_ : Value, e = .returned v0_ ∧ Kd.R (Kd.int .i64) 3 w' w.heap.size (fun _ => True) v0_ [] ∧ Below w.heap.size w w' := by
  have HMY := Aside0.mk (by rw [dct_may_f, Int.toNat_natCast] : dct_may.f (n : Int) = some (mayB n))
  have hc : mayB n = false ∨ mayB n = true ∧ decide (a0 < 1) = true ∨ mayB n = true ∧ decide (a0 < 1) = false ∧ decide ((n : Int) < a0) = true := by
    unfold dctMay at hm
    cases hb : mayB n
    · exact .inl rfl
    · rw [hb, Bool.true_and] at hm
      refine .inr ?_
      by_cases c1 : a0 < 1
      · exact .inl ⟨rfl, decide_eq_true c1⟩
      · refine .inr ⟨rfl, decide_eq_false c1, decide_eq_true ?_⟩
        rw [decide_eq_true (show 1 ≤ a0 by omega), Bool.true_and, decide_eq_false_iff_not] at hm
        omega
  clear hm
  rcases hc with c | ⟨c, c2⟩ | ⟨c, c2, c3⟩
  all_goals
    rw [c] at HMY
    clear c
    go_enter Tryd.func21, Tryd.ntmps21
    go_wp2_with (go_at_call 44; (with_reducible refine (dct_may.calls _ _ _ HMY.out).mono ?_); rintro e w1 ⟨rfl, ⟨nd, rfl⟩⟩)
    go_ret
    exact ⟨_, rfl, Kd.R_nil _ _ _ _ _, by repeat (first | exact Below.refl _ _ | apply below_alloc | apply pw_below_drewN)⟩
theorem dct_go (a0 : Int) (n c1 : Nat) (A : Option Addr) (l : List Int) (w : World) (hG : GlobA w) (hl : l.length = n) (hC : (Kd.int .i64).C w A n l) (hn : n ≤ 1000000) :
    Calls Tryd.prog 21 #[.int .i64 a0, .slice A n c1] w fun e w' => ∃ v0_ : Value, e = .returned v0_ ∧ Kd.R (Kd.int .i64) 3 w' w.heap.size (fun _ => True) v0_ (dctF a0 l) ∧ Below w.heap.size w w' := by
  unfold dctF
  rw [hl]
  by_cases h : dctMay a0 n = true
  · rw [if_pos h]
    simp only [dctMay, Bool.and_eq_true, decide_eq_true_eq] at h
    obtain ⟨K, rfl⟩ := Int.eq_ofNat_of_zero_le (show 0 ≤ a0 by omega)
    exact dct_yes K n c1 A l w hG hl hC h.1.1 (by omega) (by omega)
  · rw [if_neg h]
    exact dct_no a0 n c1 A w (by simpa using h) hn
theorem dct_Dct.calls (a0 : Int) (A1 : Option Addr) (c1 : Nat) (l1 : List Int) (r : List Int) (w : World) (hG : GlobA w) (hr1 : Kd.C (Kd.int .i64) w A1 l1.length l1) (hc1 : l1.length ≤ c1) (h : dct_Dct.f a0 l1 = some r) :
    Calls Tryd.prog 21 #[.int .i64 a0, .slice A1 l1.length c1] w fun e w' => ∃ v0_ : Value, e = .returned v0_ ∧ Kd.R (Kd.int .i64) 3 w' w.heap.size (fun _ => True) v0_ r ∧ Below w.heap.size w w' := by
  unfold dct_Dct.f at h
  split at h
  case isFalse => cases h
  rename_i hz
  obtain rfl := Option.some.inj h
  exact dct_go a0 _ c1 A1 l1 w hG rfl hr1 (of_decide_eq_true hz)

/-! ### earshotlaw12_awake: function 14 -/
def earshotlaw12_awake.f (k : Nat)  : Option (Bool) := (dct_Logs.f k (([0, 1, 7, (-5)] : List Int))).bind fun t117 => ((earshotref04_Same.f k t117 (([0, 256, 768, 0] : List Int))).bind fun t123 => ((dct_Dct.f 2 (([3, 3, 3, 3] : List Int))).bind fun t127 => ((earshotref04_Same.f k t127 (([12, 0] : List Int))).bind fun t133 => (if t123 = true then (some t133) else (some false)))))
theorem earshotlaw12_awake.mono : ∀ k, LeO (earshotlaw12_awake.f k ) (earshotlaw12_awake.f (k + 1) ) := by
  intro  k
  unfold earshotlaw12_awake.f
  repeat' first
      | (with_reducible exact dct_Logs.mono _ _)
      | (with_reducible exact earshotref04_Same.mono _ _ _)
      | (with_reducible exact LeO.refl _)
      | (with_reducible exact LeO.none _)
      | (with_reducible refine LeO.ite ?_ ?_)
      | (with_reducible refine LeO.bind ?_ (fun _ => ?_))
      | exact dct_Logs.mono _ _
      | exact earshotref04_Same.mono _ _ _
      | exact LeO.none _
      | refine LeO.ite ?_ ?_
      | refine LeO.bind ?_ (fun _ => ?_)
set_option maxHeartbeats 8000000 in
set_option maxRecDepth 100000 in
theorem earshotlaw12_awake.calls (k : Nat)  (r : Bool) (w : World) (hG : GlobA w) (h : earshotlaw12_awake.f k  = some r) :
    Calls Tryd.prog 14 #[] w fun e w' => e = .returned (.bool r) ∧ Below w.heap.size w w' := by
  have HB := Aside0.mk (Below.refl w.heap.size w)
  have HG := Aside0.mk hG
  clear hG
  have H : ((dct_Logs.f k (([0, 1, 7, (-5)] : List Int))).bind fun t117 => ((earshotref04_Same.f k t117 (([0, 256, 768, 0] : List Int))).bind fun t123 => ((dct_Dct.f 2 (([3, 3, 3, 3] : List Int))).bind fun t127 => ((earshotref04_Same.f k t127 (([12, 0] : List Int))).bind fun t133 => (if t123 = true then (some t133) else (some false)))))) = some r := h
  clear h
  obtain ⟨y114, hy114⟩ : ∃ y_ : List Int, y_ = (([0, 1, 7, (-5)] : List Int)) := ⟨_, rfl⟩
  replace H : ((dct_Logs.f k y114).bind fun t117 => ((earshotref04_Same.f k t117 (([0, 256, 768, 0] : List Int))).bind fun t123 => ((dct_Dct.f 2 (([3, 3, 3, 3] : List Int))).bind fun t127 => ((earshotref04_Same.f k t127 (([12, 0] : List Int))).bind fun t133 => (if t123 = true then (some t133) else (some false)))))) = some r := by first | (rw [hy114]; with_reducible exact H) | (have H2_ := (Option.bind_some _ _).symm.trans H; rw [hy114]; with_reducible exact H2_) | (have H2_ := (Option.bind_some _ _).symm.trans H; with_reducible exact H2_) | with_reducible exact H | (rw [hy114]; exact H) | exact H
  have Ny114 := Aside0.mk hy114
  clear hy114
  replace H := Option.bind_eq_some_iff.mp H
  obtain ⟨t117, A10, H⟩ := H
  replace H : ((earshotref04_Same.f k t117 (([0, 256, 768, 0] : List Int))).bind fun t123 => ((dct_Dct.f 2 (([3, 3, 3, 3] : List Int))).bind fun t127 => ((earshotref04_Same.f k t127 (([12, 0] : List Int))).bind fun t133 => (if t123 = true then (some t133) else (some false))))) = some r := H
  have A1 := Aside0.mk A10
  clear A10
  obtain ⟨y120, hy120⟩ : ∃ y_ : List Int, y_ = (([0, 256, 768, 0] : List Int)) := ⟨_, rfl⟩
  replace H : ((earshotref04_Same.f k t117 y120).bind fun t123 => ((dct_Dct.f 2 (([3, 3, 3, 3] : List Int))).bind fun t127 => ((earshotref04_Same.f k t127 (([12, 0] : List Int))).bind fun t133 => (if t123 = true then (some t133) else (some false))))) = some r := by first | (rw [hy120]; with_reducible exact H) | (have H2_ := (Option.bind_some _ _).symm.trans H; rw [hy120]; with_reducible exact H2_) | (have H2_ := (Option.bind_some _ _).symm.trans H; with_reducible exact H2_) | with_reducible exact H | (rw [hy120]; exact H) | exact H
  have Ny120 := Aside0.mk hy120
  clear hy120
  replace H := Option.bind_eq_some_iff.mp H
  obtain ⟨t123, A20, H⟩ := H
  replace H : ((dct_Dct.f 2 (([3, 3, 3, 3] : List Int))).bind fun t127 => ((earshotref04_Same.f k t127 (([12, 0] : List Int))).bind fun t133 => (if t123 = true then (some t133) else (some false)))) = some r := H
  have A2 := Aside0.mk A20
  clear A20
  obtain ⟨y124, hy124⟩ : ∃ y_ : List Int, y_ = (([3, 3, 3, 3] : List Int)) := ⟨_, rfl⟩
  replace H : ((dct_Dct.f 2 y124).bind fun t127 => ((earshotref04_Same.f k t127 (([12, 0] : List Int))).bind fun t133 => (if t123 = true then (some t133) else (some false)))) = some r := by first | (rw [hy124]; with_reducible exact H) | (have H2_ := (Option.bind_some _ _).symm.trans H; rw [hy124]; with_reducible exact H2_) | (have H2_ := (Option.bind_some _ _).symm.trans H; with_reducible exact H2_) | with_reducible exact H | (rw [hy124]; exact H) | exact H
  have Ny124 := Aside0.mk hy124
  clear hy124
  replace H := Option.bind_eq_some_iff.mp H
  obtain ⟨t127, A30, H⟩ := H
  replace H : ((earshotref04_Same.f k t127 (([12, 0] : List Int))).bind fun t133 => (if t123 = true then (some t133) else (some false))) = some r := H
  have A3 := Aside0.mk A30
  clear A30
  obtain ⟨y130, hy130⟩ : ∃ y_ : List Int, y_ = (([12, 0] : List Int)) := ⟨_, rfl⟩
  replace H : ((earshotref04_Same.f k t127 y130).bind fun t133 => (if t123 = true then (some t133) else (some false))) = some r := by first | (rw [hy130]; with_reducible exact H) | (have H2_ := (Option.bind_some _ _).symm.trans H; rw [hy130]; with_reducible exact H2_) | (have H2_ := (Option.bind_some _ _).symm.trans H; with_reducible exact H2_) | with_reducible exact H | (rw [hy130]; exact H) | exact H
  have Ny130 := Aside0.mk hy130
  clear hy130
  replace H := Option.bind_eq_some_iff.mp H
  obtain ⟨t133, A40, H⟩ := H
  replace H : (if t123 = true then (some t133) else (some false)) = some r := H
  have A4 := Aside0.mk A40
  clear A40
  by_cases c5 : t123 = true
  · subst c5
    have H1 : (some t133) = some r := by rw [if_pos rfl] at H; exact H
    clear H
    have H := H1
    clear H1
    obtain rfl := Option.some.inj H
    go_enter Tryd.func14, Tryd.ntmps14
    go_wp2_with (first | ((with_reducible refine gate_dst (N := 3) rfl ?_); refine Kd.R_lit (Kd.int .i64) _ 3 ?hg (N := 3) ?hd (xs := ([0, 1, 7, (-5)] : List Int)) (inner := [.int .i64 0, .int .i64 1, .int .i64 7, .int .i64 (-5)]) (ok := fun _ => True) (okp := fun _ => True) ?hr ?hp (fun _ hk => hk) trivial (Below.refl _ _) (Nat.le_refl _) (by simp) ?_; (case hd => rfl); (case hg => first | rfl | exact wanted_on rfl rfl rfl (by first | assumption | rfl | (simp [*]; done))); (case hr => first | (go_simp; done) | (go_simp; rfl)); (case hp => exact (Reps.one (show Kd.M (Kd.int .i64) _ _ _ 0 [.int .i64 0] from rfl) (Reps.one (show Kd.M (Kd.int .i64) _ _ _ 1 [.int .i64 1] from rfl) (Reps.one (show Kd.M (Kd.int .i64) _ _ _ 7 [.int .i64 7] from rfl) (Reps.one (show Kd.M (Kd.int .i64) _ _ _ (-5) [.int .i64 (-5)] from rfl) (Reps.none _ _)))))); intro v115 w6 ho7 hb hg_ hnew_; clear hg_ hnew_; (first | rw [← Ny114.out] at ho7 | (simp only [Int.reduceToNat] at ho7; rw [← Ny114.out] at ho7)); have n0_ := Aside0.mk (Kd.R_lower ho7 (below_size (by repeat (first | (with_reducible first | exact HB.out | apply below_alloc | apply pw_below_drewN | apply below_drew1) | exact HB.out)))); have n1_ := Aside0.mk (below_step (by repeat (first | (with_reducible first | exact HB.out | apply below_alloc | apply pw_below_drewN | apply below_drew1) | exact HB.out)) hb); clear HB; have HO116 := n0_; have HB := n1_; clear n0_ n1_; clear hb ho7; obtain ⟨Ao8, co8, eo8⟩ := Kd.R_slice HO116.out; subst eo8) | ((with_reducible refine gate_callee (f := 17) rfl ?_); refine goesL_ (some 4) rfl rfl Tryd.func17 (by kernel_rfl) rfl #[.slice Ao8 y114.length co8] rfl (by (try simp only [List.map_toArray, List.map_cons, List.map_nil]); first | done | rfl | (simp only [List.length_drop, List.length_take]; rfl)) ?_; (with_reducible refine (dct_Logs.calls k _ _ y114 t117 _ ?side1 ?side2 A1.out).mono ?_); (case side1 => repeat (first | exact (Kd.R_reads' HO116.out).2.2 | (with_reducible refine Kd.C_alloc ?_ _) | (with_reducible refine Kd.C_drewN ?_ _) | (with_reducible refine Kd.C_drew ?_))); (case side2 => exact (Kd.R_reads' HO116.out).2.1); rintro e w9 ⟨v118, rfl, ho0, hb⟩; refine ⟨_, rfl, ?_⟩; have n0_ := Aside0.mk (Kd.R_elder' (by (with_reducible repeat (first | apply Kd.R_alloc | apply Kd.R_drewN | apply Kd.R_drew)); (first | exact HO116.out | exact Kd.R_mono HO116.out (fun _ _ => trivial) | exact Kd.R_mono HO116.out (fun _ hk => hk.1))) (Kd.R_base ho0) hb); have n1_ := Aside0.mk (Kd.R_lower (Kd.R_new' ho0 (Kd.R_lt (by (with_reducible repeat (first | apply Kd.R_alloc | apply Kd.R_drewN | apply Kd.R_drew)); (first | exact HO116.out | exact Kd.R_mono HO116.out (fun _ _ => trivial) | exact Kd.R_mono HO116.out (fun _ hk => hk.1))))) (below_size (by repeat (first | (with_reducible first | exact HB.out | apply below_alloc | apply pw_below_drewN | apply below_drew1) | exact HB.out)))); have n2_ := Aside0.mk (below_step (by repeat (first | (with_reducible first | exact HB.out | apply below_alloc | apply pw_below_drewN | apply below_drew1) | exact HB.out)) hb); clear HO116; clear HB; have HO116 := n0_; have HO119 := n1_; have HB := n2_; clear n0_ n1_ n2_; (try clear hb); (try clear hb2); (try clear hk); (try clear hi); (try clear ho0)) | ((with_reducible refine gate_dst (N := 5) rfl ?_); refine Kd.R_lit (Kd.int .i64) _ 3 ?hg (N := 5) ?hd (xs := ([0, 256, 768, 0] : List Int)) (inner := [.int .i64 0, .int .i64 256, .int .i64 768, .int .i64 0]) (ok := fun _ => True) (okp := fun _ => True) ?hr ?hp (fun _ hk => hk) trivial (Below.refl _ _) (Nat.le_refl _) (by simp) ?_; (case hd => rfl); (case hg => first | rfl | exact wanted_on rfl rfl rfl (by first | assumption | rfl | (simp [*]; done))); (case hr => first | (go_simp; done) | (go_simp; rfl)); (case hp => exact (Reps.one (show Kd.M (Kd.int .i64) _ _ _ 0 [.int .i64 0] from rfl) (Reps.one (show Kd.M (Kd.int .i64) _ _ _ 256 [.int .i64 256] from rfl) (Reps.one (show Kd.M (Kd.int .i64) _ _ _ 768 [.int .i64 768] from rfl) (Reps.one (show Kd.M (Kd.int .i64) _ _ _ 0 [.int .i64 0] from rfl) (Reps.none _ _)))))); intro v121 w10 ho11 hb hg_ hnew_; clear hg_ hnew_; (first | rw [← Ny120.out] at ho11 | (simp only [Int.reduceToNat] at ho11; rw [← Ny120.out] at ho11)); have n0_ := Aside0.mk (Kd.R_elder' (by (with_reducible repeat (first | apply Kd.R_alloc | apply Kd.R_drewN | apply Kd.R_drew)); (first | exact HO116.out | exact Kd.R_mono HO116.out (fun _ _ => trivial) | exact Kd.R_mono HO116.out (fun _ hk => hk.1))) (Kd.R_base ho11) hb); have n1_ := Aside0.mk (Kd.R_elder' (by (with_reducible repeat (first | apply Kd.R_alloc | apply Kd.R_drewN | apply Kd.R_drew)); (first | exact HO119.out | exact Kd.R_mono HO119.out (fun _ _ => trivial) | exact Kd.R_mono HO119.out (fun _ hk => hk.1))) (Kd.R_base ho11) hb); have n2_ := Aside0.mk (Kd.R_lower (Kd.R_new' (Kd.R_new' ho11 (Kd.R_lt (by (with_reducible repeat (first | apply Kd.R_alloc | apply Kd.R_drewN | apply Kd.R_drew)); (first | exact HO116.out | exact Kd.R_mono HO116.out (fun _ _ => trivial) | exact Kd.R_mono HO116.out (fun _ hk => hk.1))))) (Kd.R_lt (by (with_reducible repeat (first | apply Kd.R_alloc | apply Kd.R_drewN | apply Kd.R_drew)); (first | exact HO119.out | exact Kd.R_mono HO119.out (fun _ _ => trivial) | exact Kd.R_mono HO119.out (fun _ hk => hk.1))))) (below_size (by repeat (first | (with_reducible first | exact HB.out | apply below_alloc | apply pw_below_drewN | apply below_drew1) | exact HB.out)))); have n3_ := Aside0.mk (below_step (by repeat (first | (with_reducible first | exact HB.out | apply below_alloc | apply pw_below_drewN | apply below_drew1) | exact HB.out)) hb); clear HO116; clear HO119; clear HB; have HO116 := n0_; have HO119 := n1_; have HO122 := n2_; have HB := n3_; clear n0_ n1_ n2_ n3_; clear hb ho11; obtain ⟨Ao12, co12, eo12⟩ := Kd.R_slice HO119.out; subst eo12; obtain ⟨Ao13, co13, eo13⟩ := Kd.R_slice HO122.out; subst eo13) | ((with_reducible refine gate_callee (f := 16) rfl ?_); refine goesL_ (some 6) rfl rfl Tryd.func16 (by kernel_rfl) rfl #[.slice Ao12 t117.length co12, .slice Ao13 y120.length co13] rfl (by (try simp only [List.map_toArray, List.map_cons, List.map_nil]); first | done | rfl | (simp only [List.length_drop, List.length_take]; rfl)) ?_; (with_reducible refine (earshotref04_Same.calls k _ _ t117 _ _ y120 true _ ?side1 ?side2 ?side3 ?side4 A2.out).mono ?_); (case side1 => repeat (first | exact (Kd.R_reads' HO119.out).2.2 | (with_reducible refine Kd.C_alloc ?_ _) | (with_reducible refine Kd.C_drewN ?_ _) | (with_reducible refine Kd.C_drew ?_))); (case side2 => exact (Kd.R_reads' HO119.out).2.1); (case side3 => repeat (first | exact (Kd.R_reads' HO122.out).2.2 | (with_reducible refine Kd.C_alloc ?_ _) | (with_reducible refine Kd.C_drewN ?_ _) | (with_reducible refine Kd.C_drew ?_))); (case side4 => exact (Kd.R_reads' HO122.out).2.1); rintro e w' ⟨rfl, ⟨nd, rfl⟩⟩; refine ⟨_, rfl, ?_⟩) | ((with_reducible refine gate_dst (N := 7) rfl ?_); refine Kd.R_lit (Kd.int .i64) _ 3 ?hg (N := 7) ?hd (xs := ([3, 3, 3, 3] : List Int)) (inner := [.int .i64 3, .int .i64 3, .int .i64 3, .int .i64 3]) (ok := fun _ => True) (okp := fun _ => True) ?hr ?hp (fun _ hk => hk) trivial (Below.refl _ _) (Nat.le_refl _) (by simp) ?_; (case hd => rfl); (case hg => first | rfl | exact wanted_on rfl rfl rfl (by first | assumption | rfl | (simp [*]; done))); (case hr => first | (go_simp; done) | (go_simp; rfl)); (case hp => exact (Reps.one (show Kd.M (Kd.int .i64) _ _ _ 3 [.int .i64 3] from rfl) (Reps.one (show Kd.M (Kd.int .i64) _ _ _ 3 [.int .i64 3] from rfl) (Reps.one (show Kd.M (Kd.int .i64) _ _ _ 3 [.int .i64 3] from rfl) (Reps.one (show Kd.M (Kd.int .i64) _ _ _ 3 [.int .i64 3] from rfl) (Reps.none _ _)))))); intro v125 w14 ho15 hb hg_ hnew_; clear hg_ hnew_; (first | rw [← Ny124.out] at ho15 | (simp only [Int.reduceToNat] at ho15; rw [← Ny124.out] at ho15)); have n0_ := Aside0.mk (Kd.R_elder' (by (with_reducible repeat (first | apply Kd.R_alloc | apply Kd.R_drewN | apply Kd.R_drew)); (first | exact HO116.out | exact Kd.R_mono HO116.out (fun _ _ => trivial) | exact Kd.R_mono HO116.out (fun _ hk => hk.1))) (Kd.R_base ho15) hb); have n1_ := Aside0.mk (Kd.R_elder' (by (with_reducible repeat (first | apply Kd.R_alloc | apply Kd.R_drewN | apply Kd.R_drew)); (first | exact HO119.out | exact Kd.R_mono HO119.out (fun _ _ => trivial) | exact Kd.R_mono HO119.out (fun _ hk => hk.1))) (Kd.R_base ho15) hb); have n2_ := Aside0.mk (Kd.R_elder' (by (with_reducible repeat (first | apply Kd.R_alloc | apply Kd.R_drewN | apply Kd.R_drew)); (first | exact HO122.out | exact Kd.R_mono HO122.out (fun _ _ => trivial) | exact Kd.R_mono HO122.out (fun _ hk => hk.1))) (Kd.R_base ho15) hb); have n3_ := Aside0.mk (Kd.R_lower (Kd.R_new' (Kd.R_new' (Kd.R_new' ho15 (Kd.R_lt (by (with_reducible repeat (first | apply Kd.R_alloc | apply Kd.R_drewN | apply Kd.R_drew)); (first | exact HO116.out | exact Kd.R_mono HO116.out (fun _ _ => trivial) | exact Kd.R_mono HO116.out (fun _ hk => hk.1))))) (Kd.R_lt (by (with_reducible repeat (first | apply Kd.R_alloc | apply Kd.R_drewN | apply Kd.R_drew)); (first | exact HO119.out | exact Kd.R_mono HO119.out (fun _ _ => trivial) | exact Kd.R_mono HO119.out (fun _ hk => hk.1))))) (Kd.R_lt (by (with_reducible repeat (first | apply Kd.R_alloc | apply Kd.R_drewN | apply Kd.R_drew)); (first | exact HO122.out | exact Kd.R_mono HO122.out (fun _ _ => trivial) | exact Kd.R_mono HO122.out (fun _ hk => hk.1))))) (below_size (by repeat (first | (with_reducible first | exact HB.out | apply below_alloc | apply pw_below_drewN | apply below_drew1) | exact HB.out)))); have n4_ := Aside0.mk (below_step (by repeat (first | (with_reducible first | exact HB.out | apply below_alloc | apply pw_below_drewN | apply below_drew1) | exact HB.out)) hb); clear HO116; clear HO119; clear HO122; clear HB; have HO116 := n0_; have HO119 := n1_; have HO122 := n2_; have HO126 := n3_; have HB := n4_; clear n0_ n1_ n2_ n3_ n4_; clear hb ho15; obtain ⟨Ao16, co16, eo16⟩ := Kd.R_slice HO126.out; subst eo16) | ((with_reducible refine gate_callee (f := 21) rfl ?_); refine goesL_ (some 8) rfl rfl Tryd.func21 (by kernel_rfl) rfl #[.int .i64 2, .slice Ao16 y124.length co16] rfl (by (try simp only [List.map_toArray, List.map_cons, List.map_nil]); first | done | rfl | (simp only [List.length_drop, List.length_take]; rfl)) ?_; (with_reducible refine (dct_Dct.calls 2 _ _ y124 t127 _ ?side1 ?side2 ?side3 A3.out).mono ?_); (case side1 => exact GlobA.below HG.out (by repeat (first | (with_reducible first | exact HB.out | apply below_alloc | apply pw_below_drewN | apply below_drew1) | exact HB.out))); (case side2 => repeat (first | exact (Kd.R_reads' HO126.out).2.2 | (with_reducible refine Kd.C_alloc ?_ _) | (with_reducible refine Kd.C_drewN ?_ _) | (with_reducible refine Kd.C_drew ?_))); (case side3 => exact (Kd.R_reads' HO126.out).2.1); rintro e w17 ⟨v128, rfl, ho0, hb⟩; refine ⟨_, rfl, ?_⟩; have n0_ := Aside0.mk (Kd.R_elder' (by (with_reducible repeat (first | apply Kd.R_alloc | apply Kd.R_drewN | apply Kd.R_drew)); (first | exact HO116.out | exact Kd.R_mono HO116.out (fun _ _ => trivial) | exact Kd.R_mono HO116.out (fun _ hk => hk.1))) (Kd.R_base ho0) hb); have n1_ := Aside0.mk (Kd.R_elder' (by (with_reducible repeat (first | apply Kd.R_alloc | apply Kd.R_drewN | apply Kd.R_drew)); (first | exact HO119.out | exact Kd.R_mono HO119.out (fun _ _ => trivial) | exact Kd.R_mono HO119.out (fun _ hk => hk.1))) (Kd.R_base ho0) hb); have n2_ := Aside0.mk (Kd.R_elder' (by (with_reducible repeat (first | apply Kd.R_alloc | apply Kd.R_drewN | apply Kd.R_drew)); (first | exact HO122.out | exact Kd.R_mono HO122.out (fun _ _ => trivial) | exact Kd.R_mono HO122.out (fun _ hk => hk.1))) (Kd.R_base ho0) hb); have n3_ := Aside0.mk (Kd.R_elder' (by (with_reducible repeat (first | apply Kd.R_alloc | apply Kd.R_drewN | apply Kd.R_drew)); (first | exact HO126.out | exact Kd.R_mono HO126.out (fun _ _ => trivial) | exact Kd.R_mono HO126.out (fun _ hk => hk.1))) (Kd.R_base ho0) hb); have n4_ := Aside0.mk (Kd.R_lower (Kd.R_new' (Kd.R_new' (Kd.R_new' (Kd.R_new' ho0 (Kd.R_lt (by (with_reducible repeat (first | apply Kd.R_alloc | apply Kd.R_drewN | apply Kd.R_drew)); (first | exact HO116.out | exact Kd.R_mono HO116.out (fun _ _ => trivial) | exact Kd.R_mono HO116.out (fun _ hk => hk.1))))) (Kd.R_lt (by (with_reducible repeat (first | apply Kd.R_alloc | apply Kd.R_drewN | apply Kd.R_drew)); (first | exact HO119.out | exact Kd.R_mono HO119.out (fun _ _ => trivial) | exact Kd.R_mono HO119.out (fun _ hk => hk.1))))) (Kd.R_lt (by (with_reducible repeat (first | apply Kd.R_alloc | apply Kd.R_drewN | apply Kd.R_drew)); (first | exact HO122.out | exact Kd.R_mono HO122.out (fun _ _ => trivial) | exact Kd.R_mono HO122.out (fun _ hk => hk.1))))) (Kd.R_lt (by (with_reducible repeat (first | apply Kd.R_alloc | apply Kd.R_drewN | apply Kd.R_drew)); (first | exact HO126.out | exact Kd.R_mono HO126.out (fun _ _ => trivial) | exact Kd.R_mono HO126.out (fun _ hk => hk.1))))) (below_size (by repeat (first | (with_reducible first | exact HB.out | apply below_alloc | apply pw_below_drewN | apply below_drew1) | exact HB.out)))); have n5_ := Aside0.mk (below_step (by repeat (first | (with_reducible first | exact HB.out | apply below_alloc | apply pw_below_drewN | apply below_drew1) | exact HB.out)) hb); clear HO116; clear HO119; clear HO122; clear HO126; clear HB; have HO116 := n0_; have HO119 := n1_; have HO122 := n2_; have HO126 := n3_; have HO129 := n4_; have HB := n5_; clear n0_ n1_ n2_ n3_ n4_ n5_; (try clear hb); (try clear hb2); (try clear hk); (try clear hi); (try clear ho0)) | ((with_reducible refine gate_dst (N := 9) rfl ?_); refine Kd.R_lit (Kd.int .i64) _ 3 ?hg (N := 9) ?hd (xs := ([12, 0] : List Int)) (inner := [.int .i64 12, .int .i64 0]) (ok := fun _ => True) (okp := fun _ => True) ?hr ?hp (fun _ hk => hk) trivial (Below.refl _ _) (Nat.le_refl _) (by simp) ?_; (case hd => rfl); (case hg => first | rfl | exact wanted_on rfl rfl rfl (by first | assumption | rfl | (simp [*]; done))); (case hr => first | (go_simp; done) | (go_simp; rfl)); (case hp => exact (Reps.one (show Kd.M (Kd.int .i64) _ _ _ 12 [.int .i64 12] from rfl) (Reps.one (show Kd.M (Kd.int .i64) _ _ _ 0 [.int .i64 0] from rfl) (Reps.none _ _)))); intro v131 w18 ho19 hb hg_ hnew_; clear hg_ hnew_; (first | rw [← Ny130.out] at ho19 | (simp only [Int.reduceToNat] at ho19; rw [← Ny130.out] at ho19)); have n0_ := Aside0.mk (Kd.R_elder' (by (with_reducible repeat (first | apply Kd.R_alloc | apply Kd.R_drewN | apply Kd.R_drew)); (first | exact HO116.out | exact Kd.R_mono HO116.out (fun _ _ => trivial) | exact Kd.R_mono HO116.out (fun _ hk => hk.1))) (Kd.R_base ho19) hb); have n1_ := Aside0.mk (Kd.R_elder' (by (with_reducible repeat (first | apply Kd.R_alloc | apply Kd.R_drewN | apply Kd.R_drew)); (first | exact HO119.out | exact Kd.R_mono HO119.out (fun _ _ => trivial) | exact Kd.R_mono HO119.out (fun _ hk => hk.1))) (Kd.R_base ho19) hb); have n2_ := Aside0.mk (Kd.R_elder' (by (with_reducible repeat (first | apply Kd.R_alloc | apply Kd.R_drewN | apply Kd.R_drew)); (first | exact HO122.out | exact Kd.R_mono HO122.out (fun _ _ => trivial) | exact Kd.R_mono HO122.out (fun _ hk => hk.1))) (Kd.R_base ho19) hb); have n3_ := Aside0.mk (Kd.R_elder' (by (with_reducible repeat (first | apply Kd.R_alloc | apply Kd.R_drewN | apply Kd.R_drew)); (first | exact HO126.out | exact Kd.R_mono HO126.out (fun _ _ => trivial) | exact Kd.R_mono HO126.out (fun _ hk => hk.1))) (Kd.R_base ho19) hb); have n4_ := Aside0.mk (Kd.R_elder' (by (with_reducible repeat (first | apply Kd.R_alloc | apply Kd.R_drewN | apply Kd.R_drew)); (first | exact HO129.out | exact Kd.R_mono HO129.out (fun _ _ => trivial) | exact Kd.R_mono HO129.out (fun _ hk => hk.1))) (Kd.R_base ho19) hb); have n5_ := Aside0.mk (Kd.R_lower (Kd.R_new' (Kd.R_new' (Kd.R_new' (Kd.R_new' (Kd.R_new' ho19 (Kd.R_lt (by (with_reducible repeat (first | apply Kd.R_alloc | apply Kd.R_drewN | apply Kd.R_drew)); (first | exact HO116.out | exact Kd.R_mono HO116.out (fun _ _ => trivial) | exact Kd.R_mono HO116.out (fun _ hk => hk.1))))) (Kd.R_lt (by (with_reducible repeat (first | apply Kd.R_alloc | apply Kd.R_drewN | apply Kd.R_drew)); (first | exact HO119.out | exact Kd.R_mono HO119.out (fun _ _ => trivial) | exact Kd.R_mono HO119.out (fun _ hk => hk.1))))) (Kd.R_lt (by (with_reducible repeat (first | apply Kd.R_alloc | apply Kd.R_drewN | apply Kd.R_drew)); (first | exact HO122.out | exact Kd.R_mono HO122.out (fun _ _ => trivial) | exact Kd.R_mono HO122.out (fun _ hk => hk.1))))) (Kd.R_lt (by (with_reducible repeat (first | apply Kd.R_alloc | apply Kd.R_drewN | apply Kd.R_drew)); (first | exact HO126.out | exact Kd.R_mono HO126.out (fun _ _ => trivial) | exact Kd.R_mono HO126.out (fun _ hk => hk.1))))) (Kd.R_lt (by (with_reducible repeat (first | apply Kd.R_alloc | apply Kd.R_drewN | apply Kd.R_drew)); (first | exact HO129.out | exact Kd.R_mono HO129.out (fun _ _ => trivial) | exact Kd.R_mono HO129.out (fun _ hk => hk.1))))) (below_size (by repeat (first | (with_reducible first | exact HB.out | apply below_alloc | apply pw_below_drewN | apply below_drew1) | exact HB.out)))); have n6_ := Aside0.mk (below_step (by repeat (first | (with_reducible first | exact HB.out | apply below_alloc | apply pw_below_drewN | apply below_drew1) | exact HB.out)) hb); clear HO116; clear HO119; clear HO122; clear HO126; clear HO129; clear HB; have HO116 := n0_; have HO119 := n1_; have HO122 := n2_; have HO126 := n3_; have HO129 := n4_; have HO132 := n5_; have HB := n6_; clear n0_ n1_ n2_ n3_ n4_ n5_ n6_; clear hb ho19; obtain ⟨Ao20, co20, eo20⟩ := Kd.R_slice HO129.out; subst eo20; obtain ⟨Ao21, co21, eo21⟩ := Kd.R_slice HO132.out; subst eo21) | ((with_reducible refine gate_callee (f := 16) rfl ?_); refine goesL_ (some 10) rfl rfl Tryd.func16 (by kernel_rfl) rfl #[.slice Ao20 t127.length co20, .slice Ao21 y130.length co21] rfl (by (try simp only [List.map_toArray, List.map_cons, List.map_nil]); first | done | rfl | (simp only [List.length_drop, List.length_take]; rfl)) ?_; (with_reducible refine (earshotref04_Same.calls k _ _ t127 _ _ y130 t133 _ ?side1 ?side2 ?side3 ?side4 A4.out).mono ?_); (case side1 => repeat (first | exact (Kd.R_reads' HO129.out).2.2 | (with_reducible refine Kd.C_alloc ?_ _) | (with_reducible refine Kd.C_drewN ?_ _) | (with_reducible refine Kd.C_drew ?_))); (case side2 => exact (Kd.R_reads' HO129.out).2.1); (case side3 => repeat (first | exact (Kd.R_reads' HO132.out).2.2 | (with_reducible refine Kd.C_alloc ?_ _) | (with_reducible refine Kd.C_drewN ?_ _) | (with_reducible refine Kd.C_drew ?_))); (case side4 => exact (Kd.R_reads' HO132.out).2.1); rintro e w' ⟨rfl, ⟨nd, rfl⟩⟩; refine ⟨_, rfl, ?_⟩))
    go_ret
    exact ⟨by first | rfl | (simp [errW_none, errW_some] <;> rfl) | (simp [*, errW_none, errW_some] <;> rfl), by repeat (first | (with_reducible first | exact HB.out | apply below_alloc | apply pw_below_drewN | apply below_drew1) | exact HB.out)⟩
  · replace c5 := Bool.eq_false_iff.mpr c5
    subst c5
    have H1 : (some false) = some r := by rw [if_neg (show ¬ (false = true) by decide)] at H; exact H
    clear H
    have H := H1
    clear H1
    obtain rfl := Option.some.inj H
    go_enter Tryd.func14, Tryd.ntmps14
    go_wp2_with (first | ((with_reducible refine gate_dst (N := 3) rfl ?_); refine Kd.R_lit (Kd.int .i64) _ 3 ?hg (N := 3) ?hd (xs := ([0, 1, 7, (-5)] : List Int)) (inner := [.int .i64 0, .int .i64 1, .int .i64 7, .int .i64 (-5)]) (ok := fun _ => True) (okp := fun _ => True) ?hr ?hp (fun _ hk => hk) trivial (Below.refl _ _) (Nat.le_refl _) (by simp) ?_; (case hd => rfl); (case hg => first | rfl | exact wanted_on rfl rfl rfl (by first | assumption | rfl | (simp [*]; done))); (case hr => first | (go_simp; done) | (go_simp; rfl)); (case hp => exact (Reps.one (show Kd.M (Kd.int .i64) _ _ _ 0 [.int .i64 0] from rfl) (Reps.one (show Kd.M (Kd.int .i64) _ _ _ 1 [.int .i64 1] from rfl) (Reps.one (show Kd.M (Kd.int .i64) _ _ _ 7 [.int .i64 7] from rfl) (Reps.one (show Kd.M (Kd.int .i64) _ _ _ (-5) [.int .i64 (-5)] from rfl) (Reps.none _ _)))))); intro v115 w22 ho23 hb hg_ hnew_; clear hg_ hnew_; (first | rw [← Ny114.out] at ho23 | (simp only [Int.reduceToNat] at ho23; rw [← Ny114.out] at ho23)); have n0_ := Aside0.mk (Kd.R_lower ho23 (below_size (by repeat (first | (with_reducible first | exact HB.out | apply below_alloc | apply pw_below_drewN | apply below_drew1) | exact HB.out)))); have n1_ := Aside0.mk (below_step (by repeat (first | (with_reducible first | exact HB.out | apply below_alloc | apply pw_below_drewN | apply below_drew1) | exact HB.out)) hb); clear HB; have HO116 := n0_; have HB := n1_; clear n0_ n1_; clear hb ho23; obtain ⟨Ao24, co24, eo24⟩ := Kd.R_slice HO116.out; subst eo24) | ((with_reducible refine gate_callee (f := 17) rfl ?_); refine goesL_ (some 4) rfl rfl Tryd.func17 (by kernel_rfl) rfl #[.slice Ao24 y114.length co24] rfl (by (try simp only [List.map_toArray, List.map_cons, List.map_nil]); first | done | rfl | (simp only [List.length_drop, List.length_take]; rfl)) ?_; (with_reducible refine (dct_Logs.calls k _ _ y114 t117 _ ?side1 ?side2 A1.out).mono ?_); (case side1 => repeat (first | exact (Kd.R_reads' HO116.out).2.2 | (with_reducible refine Kd.C_alloc ?_ _) | (with_reducible refine Kd.C_drewN ?_ _) | (with_reducible refine Kd.C_drew ?_))); (case side2 => exact (Kd.R_reads' HO116.out).2.1); rintro e w25 ⟨v118, rfl, ho0, hb⟩; refine ⟨_, rfl, ?_⟩; have n0_ := Aside0.mk (Kd.R_elder' (by (with_reducible repeat (first | apply Kd.R_alloc | apply Kd.R_drewN | apply Kd.R_drew)); (first | exact HO116.out | exact Kd.R_mono HO116.out (fun _ _ => trivial) | exact Kd.R_mono HO116.out (fun _ hk => hk.1))) (Kd.R_base ho0) hb); have n1_ := Aside0.mk (Kd.R_lower (Kd.R_new' ho0 (Kd.R_lt (by (with_reducible repeat (first | apply Kd.R_alloc | apply Kd.R_drewN | apply Kd.R_drew)); (first | exact HO116.out | exact Kd.R_mono HO116.out (fun _ _ => trivial) | exact Kd.R_mono HO116.out (fun _ hk => hk.1))))) (below_size (by repeat (first | (with_reducible first | exact HB.out | apply below_alloc | apply pw_below_drewN | apply below_drew1) | exact HB.out)))); have n2_ := Aside0.mk (below_step (by repeat (first | (with_reducible first | exact HB.out | apply below_alloc | apply pw_below_drewN | apply below_drew1) | exact HB.out)) hb); clear HO116; clear HB; have HO116 := n0_; have HO119 := n1_; have HB := n2_; clear n0_ n1_ n2_; (try clear hb); (try clear hb2); (try clear hk); (try clear hi); (try clear ho0)) | ((with_reducible refine gate_dst (N := 5) rfl ?_); refine Kd.R_lit (Kd.int .i64) _ 3 ?hg (N := 5) ?hd (xs := ([0, 256, 768, 0] : List Int)) (inner := [.int .i64 0, .int .i64 256, .int .i64 768, .int .i64 0]) (ok := fun _ => True) (okp := fun _ => True) ?hr ?hp (fun _ hk => hk) trivial (Below.refl _ _) (Nat.le_refl _) (by simp) ?_; (case hd => rfl); (case hg => first | rfl | exact wanted_on rfl rfl rfl (by first | assumption | rfl | (simp [*]; done))); (case hr => first | (go_simp; done) | (go_simp; rfl)); (case hp => exact (Reps.one (show Kd.M (Kd.int .i64) _ _ _ 0 [.int .i64 0] from rfl) (Reps.one (show Kd.M (Kd.int .i64) _ _ _ 256 [.int .i64 256] from rfl) (Reps.one (show Kd.M (Kd.int .i64) _ _ _ 768 [.int .i64 768] from rfl) (Reps.one (show Kd.M (Kd.int .i64) _ _ _ 0 [.int .i64 0] from rfl) (Reps.none _ _)))))); intro v121 w26 ho27 hb hg_ hnew_; clear hg_ hnew_; (first | rw [← Ny120.out] at ho27 | (simp only [Int.reduceToNat] at ho27; rw [← Ny120.out] at ho27)); have n0_ := Aside0.mk (Kd.R_elder' (by (with_reducible repeat (first | apply Kd.R_alloc | apply Kd.R_drewN | apply Kd.R_drew)); (first | exact HO116.out | exact Kd.R_mono HO116.out (fun _ _ => trivial) | exact Kd.R_mono HO116.out (fun _ hk => hk.1))) (Kd.R_base ho27) hb); have n1_ := Aside0.mk (Kd.R_elder' (by (with_reducible repeat (first | apply Kd.R_alloc | apply Kd.R_drewN | apply Kd.R_drew)); (first | exact HO119.out | exact Kd.R_mono HO119.out (fun _ _ => trivial) | exact Kd.R_mono HO119.out (fun _ hk => hk.1))) (Kd.R_base ho27) hb); have n2_ := Aside0.mk (Kd.R_lower (Kd.R_new' (Kd.R_new' ho27 (Kd.R_lt (by (with_reducible repeat (first | apply Kd.R_alloc | apply Kd.R_drewN | apply Kd.R_drew)); (first | exact HO116.out | exact Kd.R_mono HO116.out (fun _ _ => trivial) | exact Kd.R_mono HO116.out (fun _ hk => hk.1))))) (Kd.R_lt (by (with_reducible repeat (first | apply Kd.R_alloc | apply Kd.R_drewN | apply Kd.R_drew)); (first | exact HO119.out | exact Kd.R_mono HO119.out (fun _ _ => trivial) | exact Kd.R_mono HO119.out (fun _ hk => hk.1))))) (below_size (by repeat (first | (with_reducible first | exact HB.out | apply below_alloc | apply pw_below_drewN | apply below_drew1) | exact HB.out)))); have n3_ := Aside0.mk (below_step (by repeat (first | (with_reducible first | exact HB.out | apply below_alloc | apply pw_below_drewN | apply below_drew1) | exact HB.out)) hb); clear HO116; clear HO119; clear HB; have HO116 := n0_; have HO119 := n1_; have HO122 := n2_; have HB := n3_; clear n0_ n1_ n2_ n3_; clear hb ho27; obtain ⟨Ao28, co28, eo28⟩ := Kd.R_slice HO119.out; subst eo28; obtain ⟨Ao29, co29, eo29⟩ := Kd.R_slice HO122.out; subst eo29) | ((with_reducible refine gate_callee (f := 16) rfl ?_); refine goesL_ (some 6) rfl rfl Tryd.func16 (by kernel_rfl) rfl #[.slice Ao28 t117.length co28, .slice Ao29 y120.length co29] rfl (by (try simp only [List.map_toArray, List.map_cons, List.map_nil]); first | done | rfl | (simp only [List.length_drop, List.length_take]; rfl)) ?_; (with_reducible refine (earshotref04_Same.calls k _ _ t117 _ _ y120 false _ ?side1 ?side2 ?side3 ?side4 A2.out).mono ?_); (case side1 => repeat (first | exact (Kd.R_reads' HO119.out).2.2 | (with_reducible refine Kd.C_alloc ?_ _) | (with_reducible refine Kd.C_drewN ?_ _) | (with_reducible refine Kd.C_drew ?_))); (case side2 => exact (Kd.R_reads' HO119.out).2.1); (case side3 => repeat (first | exact (Kd.R_reads' HO122.out).2.2 | (with_reducible refine Kd.C_alloc ?_ _) | (with_reducible refine Kd.C_drewN ?_ _) | (with_reducible refine Kd.C_drew ?_))); (case side4 => exact (Kd.R_reads' HO122.out).2.1); rintro e w' ⟨rfl, ⟨nd, rfl⟩⟩; refine ⟨_, rfl, ?_⟩) | ((with_reducible refine gate_dst (N := 7) rfl ?_); refine Kd.R_lit (Kd.int .i64) _ 3 ?hg (N := 7) ?hd (xs := ([3, 3, 3, 3] : List Int)) (inner := [.int .i64 3, .int .i64 3, .int .i64 3, .int .i64 3]) (ok := fun _ => True) (okp := fun _ => True) ?hr ?hp (fun _ hk => hk) trivial (Below.refl _ _) (Nat.le_refl _) (by simp) ?_; (case hd => rfl); (case hg => first | rfl | exact wanted_on rfl rfl rfl (by first | assumption | rfl | (simp [*]; done))); (case hr => first | (go_simp; done) | (go_simp; rfl)); (case hp => exact (Reps.one (show Kd.M (Kd.int .i64) _ _ _ 3 [.int .i64 3] from rfl) (Reps.one (show Kd.M (Kd.int .i64) _ _ _ 3 [.int .i64 3] from rfl) (Reps.one (show Kd.M (Kd.int .i64) _ _ _ 3 [.int .i64 3] from rfl) (Reps.one (show Kd.M (Kd.int .i64) _ _ _ 3 [.int .i64 3] from rfl) (Reps.none _ _)))))); intro v125 w30 ho31 hb hg_ hnew_; clear hg_ hnew_; (first | rw [← Ny124.out] at ho31 | (simp only [Int.reduceToNat] at ho31; rw [← Ny124.out] at ho31)); have n0_ := Aside0.mk (Kd.R_elder' (by (with_reducible repeat (first | apply Kd.R_alloc | apply Kd.R_drewN | apply Kd.R_drew)); (first | exact HO116.out | exact Kd.R_mono HO116.out (fun _ _ => trivial) | exact Kd.R_mono HO116.out (fun _ hk => hk.1))) (Kd.R_base ho31) hb); have n1_ := Aside0.mk (Kd.R_elder' (by (with_reducible repeat (first | apply Kd.R_alloc | apply Kd.R_drewN | apply Kd.R_drew)); (first | exact HO119.out | exact Kd.R_mono HO119.out (fun _ _ => trivial) | exact Kd.R_mono HO119.out (fun _ hk => hk.1))) (Kd.R_base ho31) hb); have n2_ := Aside0.mk (Kd.R_elder' (by (with_reducible repeat (first | apply Kd.R_alloc | apply Kd.R_drewN | apply Kd.R_drew)); (first | exact HO122.out | exact Kd.R_mono HO122.out (fun _ _ => trivial) | exact Kd.R_mono HO122.out (fun _ hk => hk.1))) (Kd.R_base ho31) hb); have n3_ := Aside0.mk (Kd.R_lower (Kd.R_new' (Kd.R_new' (Kd.R_new' ho31 (Kd.R_lt (by (with_reducible repeat (first | apply Kd.R_alloc | apply Kd.R_drewN | apply Kd.R_drew)); (first | exact HO116.out | exact Kd.R_mono HO116.out (fun _ _ => trivial) | exact Kd.R_mono HO116.out (fun _ hk => hk.1))))) (Kd.R_lt (by (with_reducible repeat (first | apply Kd.R_alloc | apply Kd.R_drewN | apply Kd.R_drew)); (first | exact HO119.out | exact Kd.R_mono HO119.out (fun _ _ => trivial) | exact Kd.R_mono HO119.out (fun _ hk => hk.1))))) (Kd.R_lt (by (with_reducible repeat (first | apply Kd.R_alloc | apply Kd.R_drewN | apply Kd.R_drew)); (first | exact HO122.out | exact Kd.R_mono HO122.out (fun _ _ => trivial) | exact Kd.R_mono HO122.out (fun _ hk => hk.1))))) (below_size (by repeat (first | (with_reducible first | exact HB.out | apply below_alloc | apply pw_below_drewN | apply below_drew1) | exact HB.out)))); have n4_ := Aside0.mk (below_step (by repeat (first | (with_reducible first | exact HB.out | apply below_alloc | apply pw_below_drewN | apply below_drew1) | exact HB.out)) hb); clear HO116; clear HO119; clear HO122; clear HB; have HO116 := n0_; have HO119 := n1_; have HO122 := n2_; have HO126 := n3_; have HB := n4_; clear n0_ n1_ n2_ n3_ n4_; clear hb ho31; obtain ⟨Ao32, co32, eo32⟩ := Kd.R_slice HO126.out; subst eo32) | ((with_reducible refine gate_callee (f := 21) rfl ?_); refine goesL_ (some 8) rfl rfl Tryd.func21 (by kernel_rfl) rfl #[.int .i64 2, .slice Ao32 y124.length co32] rfl (by (try simp only [List.map_toArray, List.map_cons, List.map_nil]); first | done | rfl | (simp only [List.length_drop, List.length_take]; rfl)) ?_; (with_reducible refine (dct_Dct.calls 2 _ _ y124 t127 _ ?side1 ?side2 ?side3 A3.out).mono ?_); (case side1 => exact GlobA.below HG.out (by repeat (first | (with_reducible first | exact HB.out | apply below_alloc | apply pw_below_drewN | apply below_drew1) | exact HB.out))); (case side2 => repeat (first | exact (Kd.R_reads' HO126.out).2.2 | (with_reducible refine Kd.C_alloc ?_ _) | (with_reducible refine Kd.C_drewN ?_ _) | (with_reducible refine Kd.C_drew ?_))); (case side3 => exact (Kd.R_reads' HO126.out).2.1); rintro e w33 ⟨v128, rfl, ho0, hb⟩; refine ⟨_, rfl, ?_⟩; have n0_ := Aside0.mk (Kd.R_elder' (by (with_reducible repeat (first | apply Kd.R_alloc | apply Kd.R_drewN | apply Kd.R_drew)); (first | exact HO116.out | exact Kd.R_mono HO116.out (fun _ _ => trivial) | exact Kd.R_mono HO116.out (fun _ hk => hk.1))) (Kd.R_base ho0) hb); have n1_ := Aside0.mk (Kd.R_elder' (by (with_reducible repeat (first | apply Kd.R_alloc | apply Kd.R_drewN | apply Kd.R_drew)); (first | exact HO119.out | exact Kd.R_mono HO119.out (fun _ _ => trivial) | exact Kd.R_mono HO119.out (fun _ hk => hk.1))) (Kd.R_base ho0) hb); have n2_ := Aside0.mk (Kd.R_elder' (by (with_reducible repeat (first | apply Kd.R_alloc | apply Kd.R_drewN | apply Kd.R_drew)); (first | exact HO122.out | exact Kd.R_mono HO122.out (fun _ _ => trivial) | exact Kd.R_mono HO122.out (fun _ hk => hk.1))) (Kd.R_base ho0) hb); have n3_ := Aside0.mk (Kd.R_elder' (by (with_reducible repeat (first | apply Kd.R_alloc | apply Kd.R_drewN | apply Kd.R_drew)); (first | exact HO126.out | exact Kd.R_mono HO126.out (fun _ _ => trivial) | exact Kd.R_mono HO126.out (fun _ hk => hk.1))) (Kd.R_base ho0) hb); have n4_ := Aside0.mk (Kd.R_lower (Kd.R_new' (Kd.R_new' (Kd.R_new' (Kd.R_new' ho0 (Kd.R_lt (by (with_reducible repeat (first | apply Kd.R_alloc | apply Kd.R_drewN | apply Kd.R_drew)); (first | exact HO116.out | exact Kd.R_mono HO116.out (fun _ _ => trivial) | exact Kd.R_mono HO116.out (fun _ hk => hk.1))))) (Kd.R_lt (by (with_reducible repeat (first | apply Kd.R_alloc | apply Kd.R_drewN | apply Kd.R_drew)); (first | exact HO119.out | exact Kd.R_mono HO119.out (fun _ _ => trivial) | exact Kd.R_mono HO119.out (fun _ hk => hk.1))))) (Kd.R_lt (by (with_reducible repeat (first | apply Kd.R_alloc | apply Kd.R_drewN | apply Kd.R_drew)); (first | exact HO122.out | exact Kd.R_mono HO122.out (fun _ _ => trivial) | exact Kd.R_mono HO122.out (fun _ hk => hk.1))))) (Kd.R_lt (by (with_reducible repeat (first | apply Kd.R_alloc | apply Kd.R_drewN | apply Kd.R_drew)); (first | exact HO126.out | exact Kd.R_mono HO126.out (fun _ _ => trivial) | exact Kd.R_mono HO126.out (fun _ hk => hk.1))))) (below_size (by repeat (first | (with_reducible first | exact HB.out | apply below_alloc | apply pw_below_drewN | apply below_drew1) | exact HB.out)))); have n5_ := Aside0.mk (below_step (by repeat (first | (with_reducible first | exact HB.out | apply below_alloc | apply pw_below_drewN | apply below_drew1) | exact HB.out)) hb); clear HO116; clear HO119; clear HO122; clear HO126; clear HB; have HO116 := n0_; have HO119 := n1_; have HO122 := n2_; have HO126 := n3_; have HO129 := n4_; have HB := n5_; clear n0_ n1_ n2_ n3_ n4_ n5_; (try clear hb); (try clear hb2); (try clear hk); (try clear hi); (try clear ho0)) | ((with_reducible refine gate_dst (N := 9) rfl ?_); refine Kd.R_lit (Kd.int .i64) _ 3 ?hg (N := 9) ?hd (xs := ([12, 0] : List Int)) (inner := [.int .i64 12, .int .i64 0]) (ok := fun _ => True) (okp := fun _ => True) ?hr ?hp (fun _ hk => hk) trivial (Below.refl _ _) (Nat.le_refl _) (by simp) ?_; (case hd => rfl); (case hg => first | rfl | exact wanted_on rfl rfl rfl (by first | assumption | rfl | (simp [*]; done))); (case hr => first | (go_simp; done) | (go_simp; rfl)); (case hp => exact (Reps.one (show Kd.M (Kd.int .i64) _ _ _ 12 [.int .i64 12] from rfl) (Reps.one (show Kd.M (Kd.int .i64) _ _ _ 0 [.int .i64 0] from rfl) (Reps.none _ _)))); intro v131 w34 ho35 hb hg_ hnew_; clear hg_ hnew_; (first | rw [← Ny130.out] at ho35 | (simp only [Int.reduceToNat] at ho35; rw [← Ny130.out] at ho35)); have n0_ := Aside0.mk (Kd.R_elder' (by (with_reducible repeat (first | apply Kd.R_alloc | apply Kd.R_drewN | apply Kd.R_drew)); (first | exact HO116.out | exact Kd.R_mono HO116.out (fun _ _ => trivial) | exact Kd.R_mono HO116.out (fun _ hk => hk.1))) (Kd.R_base ho35) hb); have n1_ := Aside0.mk (Kd.R_elder' (by (with_reducible repeat (first | apply Kd.R_alloc | apply Kd.R_drewN | apply Kd.R_drew)); (first | exact HO119.out | exact Kd.R_mono HO119.out (fun _ _ => trivial) | exact Kd.R_mono HO119.out (fun _ hk => hk.1))) (Kd.R_base ho35) hb); have n2_ := Aside0.mk (Kd.R_elder' (by (with_reducible repeat (first | apply Kd.R_alloc | apply Kd.R_drewN | apply Kd.R_drew)); (first | exact HO122.out | exact Kd.R_mono HO122.out (fun _ _ => trivial) | exact Kd.R_mono HO122.out (fun _ hk => hk.1))) (Kd.R_base ho35) hb); have n3_ := Aside0.mk (Kd.R_elder' (by (with_reducible repeat (first | apply Kd.R_alloc | apply Kd.R_drewN | apply Kd.R_drew)); (first | exact HO126.out | exact Kd.R_mono HO126.out (fun _ _ => trivial) | exact Kd.R_mono HO126.out (fun _ hk => hk.1))) (Kd.R_base ho35) hb); have n4_ := Aside0.mk (Kd.R_elder' (by (with_reducible repeat (first | apply Kd.R_alloc | apply Kd.R_drewN | apply Kd.R_drew)); (first | exact HO129.out | exact Kd.R_mono HO129.out (fun _ _ => trivial) | exact Kd.R_mono HO129.out (fun _ hk => hk.1))) (Kd.R_base ho35) hb); have n5_ := Aside0.mk (Kd.R_lower (Kd.R_new' (Kd.R_new' (Kd.R_new' (Kd.R_new' (Kd.R_new' ho35 (Kd.R_lt (by (with_reducible repeat (first | apply Kd.R_alloc | apply Kd.R_drewN | apply Kd.R_drew)); (first | exact HO116.out | exact Kd.R_mono HO116.out (fun _ _ => trivial) | exact Kd.R_mono HO116.out (fun _ hk => hk.1))))) (Kd.R_lt (by (with_reducible repeat (first | apply Kd.R_alloc | apply Kd.R_drewN | apply Kd.R_drew)); (first | exact HO119.out | exact Kd.R_mono HO119.out (fun _ _ => trivial) | exact Kd.R_mono HO119.out (fun _ hk => hk.1))))) (Kd.R_lt (by (with_reducible repeat (first | apply Kd.R_alloc | apply Kd.R_drewN | apply Kd.R_drew)); (first | exact HO122.out | exact Kd.R_mono HO122.out (fun _ _ => trivial) | exact Kd.R_mono HO122.out (fun _ hk => hk.1))))) (Kd.R_lt (by (with_reducible repeat (first | apply Kd.R_alloc | apply Kd.R_drewN | apply Kd.R_drew)); (first | exact HO126.out | exact Kd.R_mono HO126.out (fun _ _ => trivial) | exact Kd.R_mono HO126.out (fun _ hk => hk.1))))) (Kd.R_lt (by (with_reducible repeat (first | apply Kd.R_alloc | apply Kd.R_drewN | apply Kd.R_drew)); (first | exact HO129.out | exact Kd.R_mono HO129.out (fun _ _ => trivial) | exact Kd.R_mono HO129.out (fun _ hk => hk.1))))) (below_size (by repeat (first | (with_reducible first | exact HB.out | apply below_alloc | apply pw_below_drewN | apply below_drew1) | exact HB.out)))); have n6_ := Aside0.mk (below_step (by repeat (first | (with_reducible first | exact HB.out | apply below_alloc | apply pw_below_drewN | apply below_drew1) | exact HB.out)) hb); clear HO116; clear HO119; clear HO122; clear HO126; clear HO129; clear HB; have HO116 := n0_; have HO119 := n1_; have HO122 := n2_; have HO126 := n3_; have HO129 := n4_; have HO132 := n5_; have HB := n6_; clear n0_ n1_ n2_ n3_ n4_ n5_ n6_; clear hb ho35; obtain ⟨Ao36, co36, eo36⟩ := Kd.R_slice HO129.out; subst eo36; obtain ⟨Ao37, co37, eo37⟩ := Kd.R_slice HO132.out; subst eo37) | ((with_reducible refine gate_callee (f := 16) rfl ?_); refine goesL_ (some 10) rfl rfl Tryd.func16 (by kernel_rfl) rfl #[.slice Ao36 t127.length co36, .slice Ao37 y130.length co37] rfl (by (try simp only [List.map_toArray, List.map_cons, List.map_nil]); first | done | rfl | (simp only [List.length_drop, List.length_take]; rfl)) ?_; (with_reducible refine (earshotref04_Same.calls k _ _ t127 _ _ y130 t133 _ ?side1 ?side2 ?side3 ?side4 A4.out).mono ?_); (case side1 => repeat (first | exact (Kd.R_reads' HO129.out).2.2 | (with_reducible refine Kd.C_alloc ?_ _) | (with_reducible refine Kd.C_drewN ?_ _) | (with_reducible refine Kd.C_drew ?_))); (case side2 => exact (Kd.R_reads' HO129.out).2.1); (case side3 => repeat (first | exact (Kd.R_reads' HO132.out).2.2 | (with_reducible refine Kd.C_alloc ?_ _) | (with_reducible refine Kd.C_drewN ?_ _) | (with_reducible refine Kd.C_drew ?_))); (case side4 => exact (Kd.R_reads' HO132.out).2.1); rintro e w' ⟨rfl, ⟨nd, rfl⟩⟩; refine ⟨_, rfl, ?_⟩))
    go_ret
    exact ⟨by first | rfl | (simp [errW_none, errW_some] <;> rfl) | (simp [*, errW_none, errW_some] <;> rfl), by repeat (first | (with_reducible first | exact HB.out | apply below_alloc | apply pw_below_drewN | apply below_drew1) | exact HB.out)⟩

/-! ### earshotlaw12_sized: function 15 -/



def sizedL (n : Nat) (l : List Int) : List Int := (List.range n).map fun i => l.getD i 0
theorem sizedL_length (n : Nat) (l : List Int) : (sizedL n l).length = n := by simp [sizedL]
theorem sizedL_getD (n : Nat) (l : List Int) (i : Nat) (hi : i < n) : (sizedL n l).getD i 0 = l.getD i 0 := getD_map_range _ _ _ hi
def sizeOf_ (s : Int) : Nat := 4 * 2 ^ (s % 3).toNat
theorem size_rem {s e : Int} (h : s % 3 = e) : Int.tmod (IntKind.i64.wrap (Int.tmod s 3 + 3)) 3 = e ∧ Int.tmod (wrap64 (Int.tmod s 3 + 3)) 3 = e ∧ Int.tmod (Int.tmod s 3 + 3) 3 = e := by
  have a := Int.lt_tmod_of_pos s (show (0 : Int) < 3 by decide)
  have b := Int.tmod_lt_of_pos s (show (0 : Int) < 3 by decide)
  have c := Int.tmod_eq_emod (a := s) (b := 3)
  have k : IntKind.i64.wrap (Int.tmod s 3 + 3) = Int.tmod s 3 + 3 := by rw [IntKind.wrap_i64]; omega
  have k2 : wrap64 (Int.tmod s 3 + 3) = Int.tmod s 3 + 3 := by unfold wrap64; omega
  have d : Int.tmod (Int.tmod s 3 + 3) 3 = e := by
    rw [Int.tmod_eq_emod_of_nonneg (by omega)]
    split at c <;> omega
  exact ⟨by rw [k]; exact d, by rw [k2]; exact d, d⟩
def earshotlaw12_sized.f (l0 : List Int) (a1 : Int) : Option (List Int) := if decide (l0.length ≤ 4000000000000000000) then some (sizedL (sizeOf_ a1) l0) else none
set_option maxHeartbeats 8000000 in
theorem sized_0 (A0 : Option Addr) (m c0 : Nat) (l0 : List Int) (a1 : Int) (w : World) (hl : l0.length = m) (hr0 : Kd.C (Kd.int .i64) w A0 m l0) (hm : m ≤ 4000000000000000000) (he : a1 % 3 = 0) :
    Calls Tryd.prog 15 #[.slice A0 m c0, .int .i64 a1] w fun e w' => ∃ v0_ : Value, e = .returned v0_ ∧ Kd.R (Kd.int .i64) 3 w' w.heap.size (fun _ => True) v0_ (sizedL 4 l0) ∧ Below w.heap.size w w' := by
  obtain ⟨q1, q2, q3⟩ := size_rem he
  have hmk := print_make 22 3 .i64 8 Tryd.underlying22 turn_info (by decide) 4 (by omega)
  simp only [Int.cast_ofNat_Int] at hmk
  have HC := Aside0.mk hr0
  have HL := Aside0.mk hl
  clear hl hr0 he
  go_enter Tryd.func15, Tryd.ntmps15
  go_wp2
  go_loopw [6] (fun v wr => ∃ (i : Nat) (xs : List Int), i ≤ 4 ∧ i ≤ m ∧ v = .int .i64 (i : Int) ∧ Aside0 (xs.length = 4) ∧ Aside0 (∀ j, j < 4 → xs.getD j 0 = if j < i then l0.getD j 0 else 0) ∧ Aside0 (wr.ownsRow w.heap.size 3 1 (.slice (some ⟨w.heap.size, 0, none⟩) 4 4) 4 (nums .i64 xs)) ∧ Aside0 (Below w.heap.size w wr)) (fun v _ => 4 - (intOf v).toNat)
  case atStart =>
    refine ⟨0, List.replicate 4 0, by omega, by omega, rfl, ⟨by simp⟩, ⟨fun j hj => by rw [if_neg (by omega), List.getD_eq_getElem?_getD, List.getElem?_replicate, if_pos hj]; rfl⟩, ⟨?_⟩, ⟨by repeat (first | exact Below.refl _ _ | apply below_alloc | apply pw_below_drewN)⟩⟩
    exact own_made w w.heap.size 3 .i64 4 (Nat.le_refl _) (by omega)
  case round =>
    obtain ⟨i, xs, hi, him, rfl, HX, HJ, HO, HB⟩ := hrel
    by_cases hlt : i < 4 ∧ i < m
    · obtain ⟨hlt, hltm⟩ := hlt
      obtain ⟨ad, rfl, hcs⟩ := sp_ad HC.out (by omega)
      have hcell := sp_cell (Kd.C_below HC.out HB.out) i hltm
      obtain ⟨⟨y, hy⟩, hfr⟩ := own_free HO.out i hlt
      obtain ⟨x, hx⟩ : ∃ x, l0.getD i 0 = x := ⟨_, rfl⟩
      rw [hx] at hcell
      have HXV := Aside0.mk hx
      clear hx hcs
      go_wp2
      go_roundw
      case rel =>
        have hst := own_store HO.out (i : Int) x
        rw [Int.toNat_natCast] at hst
        refine ⟨i + 1, _, by omega, by omega, by go_num, ⟨by rw [List.length_set, HX.out]⟩, ⟨?_⟩, ⟨hst.1⟩, ⟨Below.grown HB.out hst.2 HB.out.size (fun k hk => by injection hk with hk; omega)⟩⟩
        intro j hj
        by_cases e : j = i
        · subst e
          rw [if_pos (by omega), HXV.out, List.getD_eq_getElem?_getD, List.getElem?_set_self (by rw [HX.out]; exact hlt)]; rfl
        · have := HJ.out j hj
          rw [List.getD_eq_getElem?_getD] at this ⊢
          rw [List.getElem?_set_ne (fun h => e h.symm), this]
          by_cases h2 : j < i
          · rw [if_pos h2, if_pos (by omega)]
          · rw [if_neg h2, if_neg (by omega)]
      case measure => simp [intOf]; omega
    · have HU : Aside0 (xs = sizedL 4 l0) := ⟨by
        refine row_ext (by rw [HX.out, sizedL_length]) (fun j hj => ?_)
        rw [HX.out] at hj
        rw [HJ.out j hj, sizedL_getD _ _ _ hj]
        split
        · rfl
        · rw [List.getD_eq_getElem?_getD, List.getElem?_eq_none (by rw [HL.out]; omega)]; rfl⟩
      have hex : i = 4 ∨ i < 4 ∧ m = i := by omega
      clear hlt
      rcases hex with rfl | ⟨h1, rfl⟩
      all_goals
        go_wp2
        go_ret
        refine ⟨_, rfl, ?_, HB.out⟩
        rw [← HU.out]
        exact Kd.R_of_own (enc := Value.int .i64) (h1 := fun _ => rfl) (ok := fun _ => True) (xs := xs) (by rw [HX.out]; exact HO.out) (fun _ _ => trivial)
set_option maxHeartbeats 8000000 in
theorem sized_1 (A0 : Option Addr) (m c0 : Nat) (l0 : List Int) (a1 : Int) (w : World) (hl : l0.length = m) (hr0 : Kd.C (Kd.int .i64) w A0 m l0) (hm : m ≤ 4000000000000000000) (he : a1 % 3 = 1) :
    Calls Tryd.prog 15 #[.slice A0 m c0, .int .i64 a1] w fun e w' => ∃ v0_ : Value, e = .returned v0_ ∧ Kd.R (Kd.int .i64) 3 w' w.heap.size (fun _ => True) v0_ (sizedL 8 l0) ∧ Below w.heap.size w w' := by
  obtain ⟨q1, q2, q3⟩ := size_rem he
  have hmk := print_make 22 3 .i64 8 Tryd.underlying22 turn_info (by decide) 8 (by omega)
  simp only [Int.cast_ofNat_Int] at hmk
  have HC := Aside0.mk hr0
  have HL := Aside0.mk hl
  clear hl hr0 he
  go_enter Tryd.func15, Tryd.ntmps15
  go_wp2
  go_loopw [6] (fun v wr => ∃ (i : Nat) (xs : List Int), i ≤ 8 ∧ i ≤ m ∧ v = .int .i64 (i : Int) ∧ Aside0 (xs.length = 8) ∧ Aside0 (∀ j, j < 8 → xs.getD j 0 = if j < i then l0.getD j 0 else 0) ∧ Aside0 (wr.ownsRow w.heap.size 3 1 (.slice (some ⟨w.heap.size, 0, none⟩) 8 8) 8 (nums .i64 xs)) ∧ Aside0 (Below w.heap.size w wr)) (fun v _ => 8 - (intOf v).toNat)
  case atStart =>
    refine ⟨0, List.replicate 8 0, by omega, by omega, rfl, ⟨by simp⟩, ⟨fun j hj => by rw [if_neg (by omega), List.getD_eq_getElem?_getD, List.getElem?_replicate, if_pos hj]; rfl⟩, ⟨?_⟩, ⟨by repeat (first | exact Below.refl _ _ | apply below_alloc | apply pw_below_drewN)⟩⟩
    exact own_made w w.heap.size 3 .i64 8 (Nat.le_refl _) (by omega)
  case round =>
    obtain ⟨i, xs, hi, him, rfl, HX, HJ, HO, HB⟩ := hrel
    by_cases hlt : i < 8 ∧ i < m
    · obtain ⟨hlt, hltm⟩ := hlt
      obtain ⟨ad, rfl, hcs⟩ := sp_ad HC.out (by omega)
      have hcell := sp_cell (Kd.C_below HC.out HB.out) i hltm
      obtain ⟨⟨y, hy⟩, hfr⟩ := own_free HO.out i hlt
      obtain ⟨x, hx⟩ : ∃ x, l0.getD i 0 = x := ⟨_, rfl⟩
      rw [hx] at hcell
      have HXV := Aside0.mk hx
      clear hx hcs
      go_wp2
      go_roundw
      case rel =>
        have hst := own_store HO.out (i : Int) x
        rw [Int.toNat_natCast] at hst
        refine ⟨i + 1, _, by omega, by omega, by go_num, ⟨by rw [List.length_set, HX.out]⟩, ⟨?_⟩, ⟨hst.1⟩, ⟨Below.grown HB.out hst.2 HB.out.size (fun k hk => by injection hk with hk; omega)⟩⟩
        intro j hj
        by_cases e : j = i
        · subst e
          rw [if_pos (by omega), HXV.out, List.getD_eq_getElem?_getD, List.getElem?_set_self (by rw [HX.out]; exact hlt)]; rfl
        · have := HJ.out j hj
          rw [List.getD_eq_getElem?_getD] at this ⊢
          rw [List.getElem?_set_ne (fun h => e h.symm), this]
          by_cases h2 : j < i
          · rw [if_pos h2, if_pos (by omega)]
          · rw [if_neg h2, if_neg (by omega)]
      case measure => simp [intOf]; omega
    · have HU : Aside0 (xs = sizedL 8 l0) := ⟨by
        refine row_ext (by rw [HX.out, sizedL_length]) (fun j hj => ?_)
        rw [HX.out] at hj
        rw [HJ.out j hj, sizedL_getD _ _ _ hj]
        split
        · rfl
        · rw [List.getD_eq_getElem?_getD, List.getElem?_eq_none (by rw [HL.out]; omega)]; rfl⟩
      have hex : i = 8 ∨ i < 8 ∧ m = i := by omega
      clear hlt
      rcases hex with rfl | ⟨h1, rfl⟩
      all_goals
        go_wp2
        go_ret
        refine ⟨_, rfl, ?_, HB.out⟩
        rw [← HU.out]
        exact Kd.R_of_own (enc := Value.int .i64) (h1 := fun _ => rfl) (ok := fun _ => True) (xs := xs) (by rw [HX.out]; exact HO.out) (fun _ _ => trivial)
set_option maxHeartbeats 8000000 in
theorem sized_2 (A0 : Option Addr) (m c0 : Nat) (l0 : List Int) (a1 : Int) (w : World) (hl : l0.length = m) (hr0 : Kd.C (Kd.int .i64) w A0 m l0) (hm : m ≤ 4000000000000000000) (he : a1 % 3 = 2) :
    Calls Tryd.prog 15 #[.slice A0 m c0, .int .i64 a1] w fun e w' => ∃ v0_ : Value, e = .returned v0_ ∧ Kd.R (Kd.int .i64) 3 w' w.heap.size (fun _ => True) v0_ (sizedL 16 l0) ∧ Below w.heap.size w w' := by
  obtain ⟨q1, q2, q3⟩ := size_rem he
  have hmk := print_make 22 3 .i64 8 Tryd.underlying22 turn_info (by decide) 16 (by omega)
  simp only [Int.cast_ofNat_Int] at hmk
  have HC := Aside0.mk hr0
  have HL := Aside0.mk hl
  clear hl hr0 he
  go_enter Tryd.func15, Tryd.ntmps15
  go_wp2
  go_loopw [6] (fun v wr => ∃ (i : Nat) (xs : List Int), i ≤ 16 ∧ i ≤ m ∧ v = .int .i64 (i : Int) ∧ Aside0 (xs.length = 16) ∧ Aside0 (∀ j, j < 16 → xs.getD j 0 = if j < i then l0.getD j 0 else 0) ∧ Aside0 (wr.ownsRow w.heap.size 3 1 (.slice (some ⟨w.heap.size, 0, none⟩) 16 16) 16 (nums .i64 xs)) ∧ Aside0 (Below w.heap.size w wr)) (fun v _ => 16 - (intOf v).toNat)
  case atStart =>
    refine ⟨0, List.replicate 16 0, by omega, by omega, rfl, ⟨by simp⟩, ⟨fun j hj => by rw [if_neg (by omega), List.getD_eq_getElem?_getD, List.getElem?_replicate, if_pos hj]; rfl⟩, ⟨?_⟩, ⟨by repeat (first | exact Below.refl _ _ | apply below_alloc | apply pw_below_drewN)⟩⟩
    exact own_made w w.heap.size 3 .i64 16 (Nat.le_refl _) (by omega)
  case round =>
    obtain ⟨i, xs, hi, him, rfl, HX, HJ, HO, HB⟩ := hrel
    by_cases hlt : i < 16 ∧ i < m
    · obtain ⟨hlt, hltm⟩ := hlt
      obtain ⟨ad, rfl, hcs⟩ := sp_ad HC.out (by omega)
      have hcell := sp_cell (Kd.C_below HC.out HB.out) i hltm
      obtain ⟨⟨y, hy⟩, hfr⟩ := own_free HO.out i hlt
      obtain ⟨x, hx⟩ : ∃ x, l0.getD i 0 = x := ⟨_, rfl⟩
      rw [hx] at hcell
      have HXV := Aside0.mk hx
      clear hx hcs
      go_wp2
      go_roundw
      case rel =>
        have hst := own_store HO.out (i : Int) x
        rw [Int.toNat_natCast] at hst
        refine ⟨i + 1, _, by omega, by omega, by go_num, ⟨by rw [List.length_set, HX.out]⟩, ⟨?_⟩, ⟨hst.1⟩, ⟨Below.grown HB.out hst.2 HB.out.size (fun k hk => by injection hk with hk; omega)⟩⟩
        intro j hj
        by_cases e : j = i
        · subst e
          rw [if_pos (by omega), HXV.out, List.getD_eq_getElem?_getD, List.getElem?_set_self (by rw [HX.out]; exact hlt)]; rfl
        · have := HJ.out j hj
          rw [List.getD_eq_getElem?_getD] at this ⊢
          rw [List.getElem?_set_ne (fun h => e h.symm), this]
          by_cases h2 : j < i
          · rw [if_pos h2, if_pos (by omega)]
          · rw [if_neg h2, if_neg (by omega)]
      case measure => simp [intOf]; omega
    · have HU : Aside0 (xs = sizedL 16 l0) := ⟨by
        refine row_ext (by rw [HX.out, sizedL_length]) (fun j hj => ?_)
        rw [HX.out] at hj
        rw [HJ.out j hj, sizedL_getD _ _ _ hj]
        split
        · rfl
        · rw [List.getD_eq_getElem?_getD, List.getElem?_eq_none (by rw [HL.out]; omega)]; rfl⟩
      have hex : i = 16 ∨ i < 16 ∧ m = i := by omega
      clear hlt
      rcases hex with rfl | ⟨h1, rfl⟩
      all_goals
        go_wp2
        go_ret
        refine ⟨_, rfl, ?_, HB.out⟩
        rw [← HU.out]
        exact Kd.R_of_own (enc := Value.int .i64) (h1 := fun _ => rfl) (ok := fun _ => True) (xs := xs) (by rw [HX.out]; exact HO.out) (fun _ _ => trivial)
theorem earshotlaw12_sized.calls (A0 : Option Addr) (c0 : Nat) (l0 : List Int) (a1 : Int) (r : List Int) (w : World) (hr0 : Kd.C (Kd.int .i64) w A0 l0.length l0) (hc0 : l0.length ≤ c0) (h : earshotlaw12_sized.f l0 a1 = some r) :
    Calls Tryd.prog 15 #[.slice A0 l0.length c0, .int .i64 a1] w fun e w' => ∃ v0_ : Value, e = .returned v0_ ∧ Kd.R (Kd.int .i64) 3 w' w.heap.size (fun _ => True) v0_ r ∧ Below w.heap.size w w' := by
  unfold earshotlaw12_sized.f at h
  split at h
  case isFalse => cases h
  rename_i hz
  obtain rfl := Option.some.inj h
  simp only [decide_eq_true_eq] at hz
  have m0 := Int.emod_nonneg a1 (show (3 : Int) ≠ 0 by decide)
  have m1 := Int.emod_lt_of_pos a1 (show (0 : Int) < 3 by decide)
  have hc : a1 % 3 = 0 ∨ a1 % 3 = 1 ∨ a1 % 3 = 2 := by omega
  rcases hc with he | he | he
  · have hs : sizeOf_ a1 = 4 := by unfold sizeOf_; rw [he]; rfl
    rw [hs]
    exact sized_0 A0 _ c0 l0 a1 w rfl hr0 hz he
  · have hs : sizeOf_ a1 = 8 := by unfold sizeOf_; rw [he]; rfl
    rw [hs]
    exact sized_1 A0 _ c0 l0 a1 w rfl hr0 hz he
  · have hs : sizeOf_ a1 = 16 := by unfold sizeOf_; rw [he]; rfl
    rw [hs]
    exact sized_2 A0 _ c0 l0 a1 w rfl hr0 hz he

end Go.Proofs.YtmhacdnnnebpdaaDoor.PDctTurned
