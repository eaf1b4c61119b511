-- Written by a program of this work (wip/tools) for this claim; Lean checks it.
import Derived.Test.YtmhacdnnnebpdaaDoorPDctLogsx0
import Derived.Test.YtmhacdnnnebpdaaDoorPDctLogsx1
import Derived.Test.YtmhacdnnnebpdaaDoorPDctLogsx2
namespace Go.Proofs.YtmhacdnnnebpdaaDoor.PDctLogs
open Go.RowKit Go.Proofs.YtmhacdnnnebpdaaDoorW.PrintWords Go.Proofs.YtmhacdnnnebpdaaDoorW.PrintLast Go.Proofs.YtmhacdnnnebpdaaDoorW.PrintMore
attribute [local go_sem] max2_int min2_int max_two min_two max_three min_three max_four min_four   -- for this text's walks alone
set_option linter.unusedVariables false
set_option linter.unusedSimpArgs false

/-! ### dct_Dct: function 21 -/




def dctV (l : List Int) (k : Nat) : Int := divR (dS (dctRow k l.length) l l.length) 16384
def dctL (c : Nat) (l : List Int) : List Int := (List.range c).map (dctV l)
def dctMay (c : Int) (n : Nat) : Bool := mayB n && decide (1 ≤ c) && decide (c ≤ (n : Int))
def dctF (c : Int) (l : List Int) : List Int := if dctMay c l.length = true then dctL c.toNat l else []
theorem dct_half {x : Int} (h : -9223372036854775808 ≤ x ∧ x ≤ 9223372036854775807) : round_Half.f x 14 = some (divR x 16384) := by
  unfold round_Half.f round_Div.f
  have e : shl .i64 1 14 = 16384 := by decide
  rw [if_neg (by decide), if_neg (by decide), if_pos (by decide), e, if_pos (i64b_mk h.1 h.2), if_pos (by decide)]
  rfl

def dct_Dct.f (a0 : Int) (l1 : List Int) : Option (List Int) := if decide (l1.length ≤ 1000000) then some (dctF a0 l1) else none
theorem row_c (k n : Nat) (W : World) (hG : GlobA W) (hm : mayB n = true) (hk : k < n) :
    Calls Tryd.prog 20 #[.int .i64 (k : Int), .int .i64 (n : Int)] W fun e w' => ∃ A c, e = .returned (.slice A n c) ∧ n ≤ c ∧ Aside0 ((Kd.int .i64).C w' A n (dctRow k n)) ∧ Aside0 (Below W.heap.size W w') :=
  (dct_Row.calls _ _ _ W hG (show dct_Row.f (k : Int) (n : Int) = some (dctRow k n) by unfold dct_Row.f; rw [rowF_yes hm hk])).mono fun e w' ⟨v, he, hR, hb⟩ => by
    obtain ⟨A, c, hv, h1, h2⟩ := Kd.R_reads hR
    rw [dctRow_length] at hv h1 h2
    exact ⟨A, c, by rw [he, hv], h1, ⟨h2⟩, ⟨hb⟩⟩
theorem half_c (x r : Int) (W : World) (h : -9223372036854775808 ≤ x ∧ x ≤ 9223372036854775807) (hr : divR x 16384 = r) :
    Calls Tryd.prog 47 #[.int .i64 x, .int .i64 14] W fun e w' => e = .returned (.int .i64 r) ∧ Aside0 (Below W.heap.size W w') := by
  subst hr
  exact (round_Half.calls _ _ _ W (dct_half h)).mono fun e w' ⟨a, b⟩ => ⟨a, ⟨b⟩⟩
set_option maxHeartbeats 8000000 in
theorem coef_c (k g n c : Nat) (A : Option Addr) (l : List Int) (w : World) (hG : GlobA w) (hg : w.heap[g]? = some (.cells #[.slice A n c] 22 (0, 0))) (hl : l.length = n) (hC : (Kd.int .i64).C w A n l) (hm : mayB n = true) (hk : k < n) :
    Calls Tryd.prog 46 #[.int .i64 (k : Int), .pointer (some ⟨g, 0, none⟩)] w fun e w' => e = .returned (.int .i64 (dctV l k)) ∧ Aside0 (Below w.heap.size w w') := by
  have hc := cell_of_one hg
  have HG := Aside0.mk hG
  have HBX := Aside0.mk hg
  have HC := Aside0.mk hC
  have HL := Aside0.mk hl
  have HM := Aside0.mk hm
  have hn16 : n ≤ 16 := by rcases mayB_cases hm with rfl | rfl | rfl <;> omega
  have hB0 : Aside0 (Below w.heap.size w w) := ⟨Below.refl _ _⟩
  clear hG hg hC hl hm
  go_enter Tryd.func46, Tryd.ntmps46
  go_wp2_with (go_at_call 20; (with_reducible refine (row_c k n _ HG.out HM.out hk).mono ?_); rintro e w1 ⟨Ar, cr, rfl, hcr, CR0, HB0⟩)
  go_loopw [4, 12] (fun v4 v12 wr => ∃ (j : Nat), j ≤ n ∧ v12 = .int .i64 (j : Int) ∧ v4 = .int .i64 (dS (dctRow k n) l j) ∧ Aside0 ((Kd.int .i64).C wr Ar n (dctRow k n)) ∧ Aside0 (Below w.heap.size w wr)) (fun _ v _ => n - (intOf v).toNat)
  case atStart => exact ⟨0, by omega, rfl, rfl, CR0, HB0⟩
  case round =>
    clear CR0 HB0 hc
    obtain ⟨j, hj, rfl, rfl, CR, HB⟩ := hrel
    have hc := cell_of_one (blk_grown HBX.out (grown_of_below HB.out none) (by simp))
    by_cases hlt : j < n
    · obtain ⟨adr, rfl, hcs⟩ := sp_ad CR.out (by omega)
      have hC1 := Kd.C_below HC.out HB.out
      obtain ⟨ad, rfl, hcs1⟩ := sp_ad hC1 (by omega)
      have k0 := sp_cell CR.out j hlt
      have k1 := sp_cell hC1 j hlt
      obtain ⟨x, hx⟩ : ∃ x, (dctRow k n).getD j 0 = x := ⟨_, rfl⟩
      obtain ⟨y, hy⟩ : ∃ y, l.getD j 0 = y := ⟨_, rfl⟩
      obtain ⟨s, hs⟩ : ∃ s, dS (dctRow k n) l j = s := ⟨_, rfl⟩
      have HN : Aside0 (dS (dctRow k n) l (j + 1) = wrap64 (s + wrap64 (x * y))) := ⟨by rw [dS, hs, hx, hy]⟩
      rw [hx] at k0
      rw [hy] at k1
      rw [hs]
      clear hcs hcs1 hC1 hx hy hs
      go_wp2
      go_roundw
      case rel => exact ⟨j + 1, by omega, by go_num, by rw [HN.out], CR, HB⟩
      case measure => simp [intOf]; omega
    · obtain rfl : n = j := by omega
      obtain ⟨s, hs⟩ : ∃ s, dS (dctRow k n) l n = s := ⟨_, rfl⟩
      have hb := dS_in (dctRow k n) l n
      obtain ⟨z, hz⟩ : ∃ z, divR s 16384 = z := ⟨_, rfl⟩
      have HV : Aside0 (dctV l k = z) := ⟨by unfold dctV; rw [HL.out, hs, hz]⟩
      rw [hs] at hb ⊢
      have HI := Aside0.mk hb
      have HZ := Aside0.mk hz
      clear hs hb hz
      go_wp2_with (go_at_call 47; (with_reducible refine (half_c s z _ HI.out HZ.out).mono ?_); rintro e w2 ⟨rfl, HB2⟩)
      go_ret
      exact ⟨by rw [HV.out]; rfl, ⟨below_then HB.out HB.out.size HB2.out⟩⟩
set_option maxHeartbeats 8000000 in
theorem dct_yes (K n c1 : Nat) (A : Option Addr) (l : List Int) (w : World) (hG : GlobA w) (hl : l.length = n) (hC : (Kd.int .i64).C w A n l) (hm : mayB n = true) (h1 : 1 ≤ K) (hK : K ≤ n) :
    Calls Tryd.prog 21 #[.int .i64 (K : Int), .slice A n c1] w fun e w' => ∃ v0_ : Value, e = .returned v0_ ∧ Kd.R (Kd.int .i64) 3 w' w.heap.size (fun _ => True) v0_ (dctL K l) ∧ Below w.heap.size w w' := by
  have hmf : ∀ (fn : Fn) (first cap : Array Value) (w : World), (Instr.makeFunc fn first cap).run Tryd.prog w = .ok (.func fn first cap) w := fun _ _ _ _ => rfl
  have hn16 : n ≤ 16 := by rcases mayB_cases hm with rfl | rfl | rfl <;> omega
  have hd1 : decide ((K : Int) < 1) = false := decide_eq_false (by omega)
  have hd2 : decide (n < K) = false := decide_eq_false (by omega)
  have hd3 : decide ((n : Int) < (K : Int)) = false := decide_eq_false (by omega)
  have hmk := print_make 22 3 .i64 8 Tryd.underlying22 turn_info (by decide) K (by omega)
  have HMY := Aside0.mk (by rw [dct_may_f, Int.toNat_natCast, hm] : dct_may.f (n : Int) = some true)
  have HG := Aside0.mk hG
  have HC := Aside0.mk hC
  have HL := Aside0.mk hl
  have HM := Aside0.mk hm
  have HLN : Aside0 ((dctL K l).length = K) := ⟨by simp [dctL]⟩
  have HLV : Aside0 (∀ j, j < K → (dctL K l).getD j 0 = dctV l j) := ⟨fun j hj => getD_map_range K (dctV l) j hj⟩
  clear hG hC hl hm
  go_enter Tryd.func21, Tryd.ntmps21
  go_wp2_with (go_at_call 44; (with_reducible refine (dct_may.calls _ _ _ HMY.out).mono ?_); rintro e w1 ⟨rfl, ⟨nd, rfl⟩⟩)
  have hlt0 : w.heap.size < w.heap.size + 1 := by omega
  go_loopw [27] (fun v wr => ∃ (t : Nat) (xs : List Int), t ≤ K ∧ v = .int .i64 (t : Int) ∧ Aside0 (xs.length = K) ∧ Aside0 (∀ j, j < t → xs.getD j 0 = (dctL K l).getD j 0) ∧ Aside0 (wr.heap[w.heap.size]? = some (.cells #[.slice A n c1] 22 (0, 0))) ∧ Aside0 (wr.ownsRow w.heap.size 3 1 (.slice (some ⟨w.heap.size + 1, 0, none⟩) K K) K (nums .i64 xs)) ∧ Aside0 (Below w.heap.size w wr)) (fun v _ => K - (intOf v).toNat)
  case atStart =>
    refine ⟨0, List.replicate K 0, by omega, rfl, ⟨by simp⟩, ⟨fun j hj => by omega⟩, ⟨?_⟩, ⟨?_⟩, ⟨by repeat (first | exact Below.refl _ _ | apply below_alloc | apply pw_below_drewN)⟩⟩
    · rw [Below.heap_alloc _ _ _ (by simp)]
      exact heap_alloc_new w _
    · have := own_made ((w.alloc (.cells #[.slice A n c1] 22)).drewN nd) w.heap.size 3 .i64 K (by simp) (by omega)
      simpa using this
  case round =>
    obtain ⟨t, xs, ht, rfl, HX, HJ, HBX, HO, HB⟩ := hrel
    by_cases hlt : t < K
    · go_wp2_with (go_at_call 46; refine (coef_c t w.heap.size n c1 A l _ (HG.out.below HB.out) HBX.out HL.out (Kd.C_below HC.out HB.out) HM.out (by omega)).mono ?_; rintro e w2 ⟨rfl, hb⟩; have HO2 := Aside0.mk (pw_own_below HO.out hb.out); have HBX2 := Aside0.mk (blk_grown HBX.out (grown_of_below hb.out none) (by simp)); have HB2 := Aside0.mk (below_then HB.out HB.out.size hb.out); obtain ⟨⟨yy, hcz⟩, hfz⟩ := own_free HO2.out t hlt)
      go_roundw
      case rel =>
        have hst := own_store HO2.out (t : Int) (dctV l t)
        rw [Int.toNat_natCast] at hst
        refine ⟨t + 1, _, by omega, by go_num, ⟨by rw [List.length_set, HX.out]⟩, ⟨?_⟩, ⟨blk_grown HBX2.out hst.2 (by simp)⟩, ⟨hst.1⟩, ⟨Below.grown HB2.out hst.2 HB2.out.size (fun k hk => by injection hk with hk; omega)⟩⟩
        intro j hj
        by_cases e : j = t
        · subst e
          rw [HLV.out j hlt, List.getD_eq_getElem?_getD, List.getElem?_set_self (by rw [HX.out]; exact hlt)]; rfl
        · have := HJ.out j (by omega)
          rw [List.getD_eq_getElem?_getD] at this ⊢
          rw [List.getElem?_set_ne (fun h => e h.symm)]
          exact this
      case measure => simp [intOf]; omega
    · obtain rfl : K = t := by omega
      go_wp2
      go_ret
      refine ⟨_, rfl, ?_, HB.out⟩
      have hU : xs = dctL K l := row_ext (by rw [HX.out, HLN.out]) (fun j hj => by rw [HX.out] at hj; exact HJ.out j hj)
      rw [← hU]
      exact Kd.R_of_own (enc := Value.int .i64) (h1 := fun _ => rfl) (ok := fun _ => True) (xs := xs) (by rw [HX.out]; exact HO.out) (fun _ _ => trivial)
theorem dct_no (a0 : Int) (n c1 : Nat) (A : Option Addr) (w : World) (hm : dctMay a0 n = false) (hn : n ≤ 1000000) :
    Calls Tryd.prog 21 #[.int .i64 a0, .slice A n c1] w fun e w' => ∃ v0_ : Value, e = .returned v0_ ∧ Kd.R (Kd.int .i64) 3 w' w.heap.size (fun _ => True) v0_ [] ∧ Below w.heap.size w w' := by
  have HMY := Aside0.mk (by rw [dct_may_f, Int.toNat_natCast] : dct_may.f (n : Int) = some (mayB n))
  have hc : mayB n = false ∨ mayB n = true ∧ decide (a0 < 1) = true ∨ mayB n = true ∧ decide (a0 < 1) = false ∧ decide ((n : Int) < a0) = true := by
    unfold dctMay at hm
    cases hb : mayB n
    · exact .inl rfl
    · rw [hb, Bool.true_and] at hm
      refine .inr ?_
      by_cases c1 : a0 < 1
      · exact .inl ⟨rfl, decide_eq_true c1⟩
      · refine .inr ⟨rfl, decide_eq_false c1, decide_eq_true ?_⟩
        rw [decide_eq_true (show 1 ≤ a0 by omega), Bool.true_and, decide_eq_false_iff_not] at hm
        omega
  clear hm
  rcases hc with c | ⟨c, c2⟩ | ⟨c, c2, c3⟩
  all_goals
    rw [c] at HMY
    clear c
    go_enter Tryd.func21, Tryd.ntmps21
    go_wp2_with (go_at_call 44; (with_reducible refine (dct_may.calls _ _ _ HMY.out).mono ?_); rintro e w1 ⟨rfl, ⟨nd, rfl⟩⟩)
    go_ret
    exact ⟨_, rfl, Kd.R_nil _ _ _ _ _, by repeat (first | exact Below.refl _ _ | apply below_alloc | apply pw_below_drewN)⟩
theorem dct_go (a0 : Int) (n c1 : Nat) (A : Option Addr) (l : List Int) (w : World) (hG : GlobA w) (hl : l.length = n) (hC : (Kd.int .i64).C w A n l) (hn : n ≤ 1000000) :
    Calls Tryd.prog 21 #[.int .i64 a0, .slice A n c1] w fun e w' => ∃ v0_ : Value, e = .returned v0_ ∧ Kd.R (Kd.int .i64) 3 w' w.heap.size (fun _ => True) v0_ (dctF a0 l) ∧ Below w.heap.size w w' := by
  unfold dctF
  rw [hl]
  by_cases h : dctMay a0 n = true
  · rw [if_pos h]
    simp only [dctMay, Bool.and_eq_true, decide_eq_true_eq] at h
    obtain ⟨K, rfl⟩ := Int.eq_ofNat_of_zero_le (show 0 ≤ a0 by omega)
    exact dct_yes K n c1 A l w hG hl hC h.1.1 (by omega) (by omega)
  · rw [if_neg h]
    exact dct_no a0 n c1 A w (by simpa using h) hn
theorem dct_Dct.calls (a0 : Int) (A1 : Option Addr) (c1 : Nat) (l1 : List Int) (r : List Int) (w : World) (hG : GlobA w) (hr1 : Kd.C (Kd.int .i64) w A1 l1.length l1) (hc1 : l1.length ≤ c1) (h : dct_Dct.f a0 l1 = some r) :
    Calls Tryd.prog 21 #[.int .i64 a0, .slice A1 l1.length c1] w fun e w' => ∃ v0_ : Value, e = .returned v0_ ∧ Kd.R (Kd.int .i64) 3 w' w.heap.size (fun _ => True) v0_ r ∧ Below w.heap.size w w' := by
  unfold dct_Dct.f at h
  split at h
  case isFalse => cases h
  rename_i hz
  obtain rfl := Option.some.inj h
  exact dct_go a0 _ c1 A1 l1 w hG rfl hr1 (of_decide_eq_true hz)

/-! ### earshotlaw12_awake: function 14 -/
def earshotlaw12_awake.f (k : Nat)  : Option (Bool) := (dct_Logs.f k (([0, 1, 7, (-5)] : List Int))).bind fun t117 => ((earshotref04_Same.f k t117 (([0, 256, 768, 0] : List Int))).bind fun t123 => ((dct_Dct.f 2 (([3, 3, 3, 3] : List Int))).bind fun t127 => ((earshotref04_Same.f k t127 (([12, 0] : List Int))).bind fun t133 => (if t123 = true then (some t133) else (some false)))))
theorem earshotlaw12_awake.mono : ∀ k, LeO (earshotlaw12_awake.f k ) (earshotlaw12_awake.f (k + 1) ) := by
  intro  k
  unfold earshotlaw12_awake.f
  repeat' first
      | (with_reducible exact dct_Logs.mono _ _)
      | (with_reducible exact earshotref04_Same.mono _ _ _)
      | (with_reducible exact LeO.refl _)
      | (with_reducible exact LeO.none _)
      | (with_reducible refine LeO.ite ?_ ?_)
      | (with_reducible refine LeO.bind ?_ (fun _ => ?_))
      | exact dct_Logs.mono _ _
      | exact earshotref04_Same.mono _ _ _
      | exact LeO.none _
      | refine LeO.ite ?_ ?_
      | refine LeO.bind ?_ (fun _ => ?_)
set_option maxHeartbeats 8000000 in
set_option maxRecDepth 100000 in
theorem earshotlaw12_awake.calls (k : Nat)  (r : Bool) (w : World) (hG : GlobA w) (h : earshotlaw12_awake.f k  = some r) :
    Calls Tryd.prog 14 #[] w fun e w' => e = .returned (.bool r) ∧ Below w.heap.size w w' := by
  have HB := Aside0.mk (Below.refl w.heap.size w)
  have HG := Aside0.mk hG
  clear hG
  have H : ((dct_Logs.f k (([0, 1, 7, (-5)] : List Int))).bind fun t117 => ((earshotref04_Same.f k t117 (([0, 256, 768, 0] : List Int))).bind fun t123 => ((dct_Dct.f 2 (([3, 3, 3, 3] : List Int))).bind fun t127 => ((earshotref04_Same.f k t127 (([12, 0] : List Int))).bind fun t133 => (if t123 = true then (some t133) else (some false)))))) = some r := h
  clear h
  obtain ⟨y114, hy114⟩ : ∃ y_ : List Int, y_ = (([0, 1, 7, (-5)] : List Int)) := ⟨_, rfl⟩
  replace H : ((dct_Logs.f k y114).bind fun t117 => ((earshotref04_Same.f k t117 (([0, 256, 768, 0] : List Int))).bind fun t123 => ((dct_Dct.f 2 (([3, 3, 3, 3] : List Int))).bind fun t127 => ((earshotref04_Same.f k t127 (([12, 0] : List Int))).bind fun t133 => (if t123 = true then (some t133) else (some false)))))) = some r := by first | (rw [hy114]; with_reducible exact H) | (have H2_ := (Option.bind_some _ _).symm.trans H; rw [hy114]; with_reducible exact H2_) | (have H2_ := (Option.bind_some _ _).symm.trans H; with_reducible exact H2_) | with_reducible exact H | (rw [hy114]; exact H) | exact H
  have Ny114 := Aside0.mk hy114
  clear hy114
  replace H := Option.bind_eq_some_iff.mp H
  obtain ⟨t117, A10, H⟩ := H
  replace H : ((earshotref04_Same.f k t117 (([0, 256, 768, 0] : List Int))).bind fun t123 => ((dct_Dct.f 2 (([3, 3, 3, 3] : List Int))).bind fun t127 => ((earshotref04_Same.f k t127 (([12, 0] : List Int))).bind fun t133 => (if t123 = true then (some t133) else (some false))))) = some r := H
  have A1 := Aside0.mk A10
  clear A10
  obtain ⟨y120, hy120⟩ : ∃ y_ : List Int, y_ = (([0, 256, 768, 0] : List Int)) := ⟨_, rfl⟩
  replace H : ((earshotref04_Same.f k t117 y120).bind fun t123 => ((dct_Dct.f 2 (([3, 3, 3, 3] : List Int))).bind fun t127 => ((earshotref04_Same.f k t127 (([12, 0] : List Int))).bind fun t133 => (if t123 = true then (some t133) else (some false))))) = some r := by first | (rw [hy120]; with_reducible exact H) | (have H2_ := (Option.bind_some _ _).symm.trans H; rw [hy120]; with_reducible exact H2_) | (have H2_ := (Option.bind_some _ _).symm.trans H; with_reducible exact H2_) | with_reducible exact H | (rw [hy120]; exact H) | exact H
  have Ny120 := Aside0.mk hy120
  clear hy120
  replace H := Option.bind_eq_some_iff.mp H
  obtain ⟨t123, A20, H⟩ := H
  replace H : ((dct_Dct.f 2 (([3, 3, 3, 3] : List Int))).bind fun t127 => ((earshotref04_Same.f k t127 (([12, 0] : List Int))).bind fun t133 => (if t123 = true then (some t133) else (some false)))) = some r := H
  have A2 := Aside0.mk A20
  clear A20
  obtain ⟨y124, hy124⟩ : ∃ y_ : List Int, y_ = (([3, 3, 3, 3] : List Int)) := ⟨_, rfl⟩
  replace H : ((dct_Dct.f 2 y124).bind fun t127 => ((earshotref04_Same.f k t127 (([12, 0] : List Int))).bind fun t133 => (if t123 = true then (some t133) else (some false)))) = some r := by first | (rw [hy124]; with_reducible exact H) | (have H2_ := (Option.bind_some _ _).symm.trans H; rw [hy124]; with_reducible exact H2_) | (have H2_ := (Option.bind_some _ _).symm.trans H; with_reducible exact H2_) | with_reducible exact H | (rw [hy124]; exact H) | exact H
  have Ny124 := Aside0.mk hy124
  clear hy124
  replace H := Option.bind_eq_some_iff.mp H
  obtain ⟨t127, A30, H⟩ := H
  replace H : ((earshotref04_Same.f k t127 (([12, 0] : List Int))).bind fun t133 => (if t123 = true then (some t133) else (some false))) = some r := H
  have A3 := Aside0.mk A30
  clear A30
  obtain ⟨y130, hy130⟩ : ∃ y_ : List Int, y_ = (([12, 0] : List Int)) := ⟨_, rfl⟩
  replace H : ((earshotref04_Same.f k t127 y130).bind fun t133 => (if t123 = true then (some t133) else (some false))) = some r := by first | (rw [hy130]; with_reducible exact H) | (have H2_ := (Option.bind_some _ _).symm.trans H; rw [hy130]; with_reducible exact H2_) | (have H2_ := (Option.bind_some _ _).symm.trans H; with_reducible exact H2_) | with_reducible exact H | (rw [hy130]; exact H) | exact H
  have Ny130 := Aside0.mk hy130
  clear hy130
  replace H := Option.bind_eq_some_iff.mp H
  obtain ⟨t133, A40, H⟩ := H
  replace H : (if t123 = true then (some t133) else (some false)) = some r := H
  have A4 := Aside0.mk A40
  clear A40
  by_cases c5 : t123 = true
  · subst c5
    have H1 : (some t133) = some r := by rw [if_pos rfl] at H; exact H
    clear H
    have H := H1
    clear H1
    obtain rfl := Option.some.inj H
    go_enter Tryd.func14, Tryd.ntmps14
    go_wp2_with (first | ((with_reducible refine gate_dst (N := 3) rfl ?_); refine Kd.R_lit (Kd.int .i64) _ 3 ?hg (N := 3) ?hd (xs := ([0, 1, 7, (-5)] : List Int)) (inner := [.int .i64 0, .int .i64 1, .int .i64 7, .int .i64 (-5)]) (ok := fun _ => True) (okp := fun _ => True) ?hr ?hp (fun _ hk => hk) trivial (Below.refl _ _) (Nat.le_refl _) (by simp) ?_; (case hd => rfl); (case hg => first | rfl | exact wanted_on rfl rfl rfl (by first | assumption | rfl | (simp [*]; done))); (case hr => first | (go_simp; done) | (go_simp; rfl)); (case hp => exact (Reps.one (show Kd.M (Kd.int .i64) _ _ _ 0 [.int .i64 0] from rfl) (Reps.one (show Kd.M (Kd.int .i64) _ _ _ 1 [.int .i64 1] from rfl) (Reps.one (show Kd.M (Kd.int .i64) _ _ _ 7 [.int .i64 7] from rfl) (Reps.one (show Kd.M (Kd.int .i64) _ _ _ (-5) [.int .i64 (-5)] from rfl) (Reps.none _ _)))))); intro v115 w6 ho7 hb hg_ hnew_; clear hg_ hnew_; (first | rw [← Ny114.out] at ho7 | (simp only [Int.reduceToNat] at ho7; rw [← Ny114.out] at ho7)); have n0_ := Aside0.mk (Kd.R_lower ho7 (below_size (by repeat (first | (with_reducible first | exact HB.out | apply below_alloc | apply pw_below_drewN | apply below_drew1) | exact HB.out)))); have n1_ := Aside0.mk (below_step (by repeat (first | (with_reducible first | exact HB.out | apply below_alloc | apply pw_below_drewN | apply below_drew1) | exact HB.out)) hb); clear HB; have HO116 := n0_; have HB := n1_; clear n0_ n1_; clear hb ho7; obtain ⟨Ao8, co8, eo8⟩ := Kd.R_slice HO116.out; subst eo8) | ((with_reducible refine gate_callee (f := 17) rfl ?_); refine goesL_ (some 4) rfl rfl Tryd.func17 (by kernel_rfl) rfl #[.slice Ao8 y114.length co8] rfl (by (try simp only [List.map_toArray, List.map_cons, List.map_nil]); first | done | rfl | (simp only [List.length_drop, List.length_take]; rfl)) ?_; (with_reducible refine (dct_Logs.calls k _ _ y114 t117 _ ?side1 ?side2 A1.out).mono ?_); (case side1 => repeat (first | exact (Kd.R_reads' HO116.out).2.2 | (with_reducible refine Kd.C_alloc ?_ _) | (with_reducible refine Kd.C_drewN ?_ _) | (with_reducible refine Kd.C_drew ?_))); (case side2 => exact (Kd.R_reads' HO116.out).2.1); rintro e w9 ⟨v118, rfl, ho0, hb⟩; refine ⟨_, rfl, ?_⟩; have n0_ := Aside0.mk (Kd.R_elder' (by (with_reducible repeat (first | apply Kd.R_alloc | apply Kd.R_drewN | apply Kd.R_drew)); (first | exact HO116.out | exact Kd.R_mono HO116.out (fun _ _ => trivial) | exact Kd.R_mono HO116.out (fun _ hk => hk.1))) (Kd.R_base ho0) hb); have n1_ := Aside0.mk (Kd.R_lower (Kd.R_new' ho0 (Kd.R_lt (by (with_reducible repeat (first | apply Kd.R_alloc | apply Kd.R_drewN | apply Kd.R_drew)); (first | exact HO116.out | exact Kd.R_mono HO116.out (fun _ _ => trivial) | exact Kd.R_mono HO116.out (fun _ hk => hk.1))))) (below_size (by repeat (first | (with_reducible first | exact HB.out | apply below_alloc | apply pw_below_drewN | apply below_drew1) | exact HB.out)))); have n2_ := Aside0.mk (below_step (by repeat (first | (with_reducible first | exact HB.out | apply below_alloc | apply pw_below_drewN | apply below_drew1) | exact HB.out)) hb); clear HO116; clear HB; have HO116 := n0_; have HO119 := n1_; have HB := n2_; clear n0_ n1_ n2_; (try clear hb); (try clear hb2); (try clear hk); (try clear hi); (try clear ho0)) | ((with_reducible refine gate_dst (N := 5) rfl ?_); refine Kd.R_lit (Kd.int .i64) _ 3 ?hg (N := 5) ?hd (xs := ([0, 256, 768, 0] : List Int)) (inner := [.int .i64 0, .int .i64 256, .int .i64 768, .int .i64 0]) (ok := fun _ => True) (okp := fun _ => True) ?hr ?hp (fun _ hk => hk) trivial (Below.refl _ _) (Nat.le_refl _) (by simp) ?_; (case hd => rfl); (case hg => first | rfl | exact wanted_on rfl rfl rfl (by first | assumption | rfl | (simp [*]; done))); (case hr => first | (go_simp; done) | (go_simp; rfl)); (case hp => exact (Reps.one (show Kd.M (Kd.int .i64) _ _ _ 0 [.int .i64 0] from rfl) (Reps.one (show Kd.M (Kd.int .i64) _ _ _ 256 [.int .i64 256] from rfl) (Reps.one (show Kd.M (Kd.int .i64) _ _ _ 768 [.int .i64 768] from rfl) (Reps.one (show Kd.M (Kd.int .i64) _ _ _ 0 [.int .i64 0] from rfl) (Reps.none _ _)))))); intro v121 w10 ho11 hb hg_ hnew_; clear hg_ hnew_; (first | rw [← Ny120.out] at ho11 | (simp only [Int.reduceToNat] at ho11; rw [← Ny120.out] at ho11)); have n0_ := Aside0.mk (Kd.R_elder' (by (with_reducible repeat (first | apply Kd.R_alloc | apply Kd.R_drewN | apply Kd.R_drew)); (first | exact HO116.out | exact Kd.R_mono HO116.out (fun _ _ => trivial) | exact Kd.R_mono HO116.out (fun _ hk => hk.1))) (Kd.R_base ho11) hb); have n1_ := Aside0.mk (Kd.R_elder' (by (with_reducible repeat (first | apply Kd.R_alloc | apply Kd.R_drewN | apply Kd.R_drew)); (first | exact HO119.out | exact Kd.R_mono HO119.out (fun _ _ => trivial) | exact Kd.R_mono HO119.out (fun _ hk => hk.1))) (Kd.R_base ho11) hb); have n2_ := Aside0.mk (Kd.R_lower (Kd.R_new' (Kd.R_new' ho11 (Kd.R_lt (by (with_reducible repeat (first | apply Kd.R_alloc | apply Kd.R_drewN | apply Kd.R_drew)); (first | exact HO116.out | exact Kd.R_mono HO116.out (fun _ _ => trivial) | exact Kd.R_mono HO116.out (fun _ hk => hk.1))))) (Kd.R_lt (by (with_reducible repeat (first | apply Kd.R_alloc | apply Kd.R_drewN | apply Kd.R_drew)); (first | exact HO119.out | exact Kd.R_mono HO119.out (fun _ _ => trivial) | exact Kd.R_mono HO119.out (fun _ hk => hk.1))))) (below_size (by repeat (first | (with_reducible first | exact HB.out | apply below_alloc | apply pw_below_drewN | apply below_drew1) | exact HB.out)))); have n3_ := Aside0.mk (below_step (by repeat (first | (with_reducible first | exact HB.out | apply below_alloc | apply pw_below_drewN | apply below_drew1) | exact HB.out)) hb); clear HO116; clear HO119; clear HB; have HO116 := n0_; have HO119 := n1_; have HO122 := n2_; have HB := n3_; clear n0_ n1_ n2_ n3_; clear hb ho11; obtain ⟨Ao12, co12, eo12⟩ := Kd.R_slice HO119.out; subst eo12; obtain ⟨Ao13, co13, eo13⟩ := Kd.R_slice HO122.out; subst eo13) | ((with_reducible refine gate_callee (f := 16) rfl ?_); refine goesL_ (some 6) rfl rfl Tryd.func16 (by kernel_rfl) rfl #[.slice Ao12 t117.length co12, .slice Ao13 y120.length co13] rfl (by (try simp only [List.map_toArray, List.map_cons, List.map_nil]); first | done | rfl | (simp only [List.length_drop, List.length_take]; rfl)) ?_; (with_reducible refine (earshotref04_Same.calls k _ _ t117 _ _ y120 true _ ?side1 ?side2 ?side3 ?side4 A2.out).mono ?_); (case side1 => repeat (first | exact (Kd.R_reads' HO119.out).2.2 | (with_reducible refine Kd.C_alloc ?_ _) | (with_reducible refine Kd.C_drewN ?_ _) | (with_reducible refine Kd.C_drew ?_))); (case side2 => exact (Kd.R_reads' HO119.out).2.1); (case side3 => repeat (first | exact (Kd.R_reads' HO122.out).2.2 | (with_reducible refine Kd.C_alloc ?_ _) | (with_reducible refine Kd.C_drewN ?_ _) | (with_reducible refine Kd.C_drew ?_))); (case side4 => exact (Kd.R_reads' HO122.out).2.1); rintro e w' ⟨rfl, ⟨nd, rfl⟩⟩; refine ⟨_, rfl, ?_⟩) | ((with_reducible refine gate_dst (N := 7) rfl ?_); refine Kd.R_lit (Kd.int .i64) _ 3 ?hg (N := 7) ?hd (xs := ([3, 3, 3, 3] : List Int)) (inner := [.int .i64 3, .int .i64 3, .int .i64 3, .int .i64 3]) (ok := fun _ => True) (okp := fun _ => True) ?hr ?hp (fun _ hk => hk) trivial (Below.refl _ _) (Nat.le_refl _) (by simp) ?_; (case hd => rfl); (case hg => first | rfl | exact wanted_on rfl rfl rfl (by first | assumption | rfl | (simp [*]; done))); (case hr => first | (go_simp; done) | (go_simp; rfl)); (case hp => exact (Reps.one (show Kd.M (Kd.int .i64) _ _ _ 3 [.int .i64 3] from rfl) (Reps.one (show Kd.M (Kd.int .i64) _ _ _ 3 [.int .i64 3] from rfl) (Reps.one (show Kd.M (Kd.int .i64) _ _ _ 3 [.int .i64 3] from rfl) (Reps.one (show Kd.M (Kd.int .i64) _ _ _ 3 [.int .i64 3] from rfl) (Reps.none _ _)))))); intro v125 w14 ho15 hb hg_ hnew_; clear hg_ hnew_; (first | rw [← Ny124.out] at ho15 | (simp only [Int.reduceToNat] at ho15; rw [← Ny124.out] at ho15)); have n0_ := Aside0.mk (Kd.R_elder' (by (with_reducible repeat (first | apply Kd.R_alloc | apply Kd.R_drewN | apply Kd.R_drew)); (first | exact HO116.out | exact Kd.R_mono HO116.out (fun _ _ => trivial) | exact Kd.R_mono HO116.out (fun _ hk => hk.1))) (Kd.R_base ho15) hb); have n1_ := Aside0.mk (Kd.R_elder' (by (with_reducible repeat (first | apply Kd.R_alloc | apply Kd.R_drewN | apply Kd.R_drew)); (first | exact HO119.out | exact Kd.R_mono HO119.out (fun _ _ => trivial) | exact Kd.R_mono HO119.out (fun _ hk => hk.1))) (Kd.R_base ho15) hb); have n2_ := Aside0.mk (Kd.R_elder' (by (with_reducible repeat (first | apply Kd.R_alloc | apply Kd.R_drewN | apply Kd.R_drew)); (first | exact HO122.out | exact Kd.R_mono HO122.out (fun _ _ => trivial) | exact Kd.R_mono HO122.out (fun _ hk => hk.1))) (Kd.R_base ho15) hb); have n3_ := Aside0.mk (Kd.R_lower (Kd.R_new' (Kd.R_new' (Kd.R_new' ho15 (Kd.R_lt (by (with_reducible repeat (first | apply Kd.R_alloc | apply Kd.R_drewN | apply Kd.R_drew)); (first | exact HO116.out | exact Kd.R_mono HO116.out (fun _ _ => trivial) | exact Kd.R_mono HO116.out (fun _ hk => hk.1))))) (Kd.R_lt (by (with_reducible repeat (first | apply Kd.R_alloc | apply Kd.R_drewN | apply Kd.R_drew)); (first | exact HO119.out | exact Kd.R_mono HO119.out (fun _ _ => trivial) | exact Kd.R_mono HO119.out (fun _ hk => hk.1))))) (Kd.R_lt (by (with_reducible repeat (first | apply Kd.R_alloc | apply Kd.R_drewN | apply Kd.R_drew)); (first | exact HO122.out | exact Kd.R_mono HO122.out (fun _ _ => trivial) | exact Kd.R_mono HO122.out (fun _ hk => hk.1))))) (below_size (by repeat (first | (with_reducible first | exact HB.out | apply below_alloc | apply pw_below_drewN | apply below_drew1) | exact HB.out)))); have n4_ := Aside0.mk (below_step (by repeat (first | (with_reducible first | exact HB.out | apply below_alloc | apply pw_below_drewN | apply below_drew1) | exact HB.out)) hb); clear HO116; clear HO119; clear HO122; clear HB; have HO116 := n0_; have HO119 := n1_; have HO122 := n2_; have HO126 := n3_; have HB := n4_; clear n0_ n1_ n2_ n3_ n4_; clear hb ho15; obtain ⟨Ao16, co16, eo16⟩ := Kd.R_slice HO126.out; subst eo16) | ((with_reducible refine gate_callee (f := 21) rfl ?_); refine goesL_ (some 8) rfl rfl Tryd.func21 (by kernel_rfl) rfl #[.int .i64 2, .slice Ao16 y124.length co16] rfl (by (try simp only [List.map_toArray, List.map_cons, List.map_nil]); first | done | rfl | (simp only [List.length_drop, List.length_take]; rfl)) ?_; (with_reducible refine (dct_Dct.calls 2 _ _ y124 t127 _ ?side1 ?side2 ?side3 A3.out).mono ?_); (case side1 => exact GlobA.below HG.out (by repeat (first | (with_reducible first | exact HB.out | apply below_alloc | apply pw_below_drewN | apply below_drew1) | exact HB.out))); (case side2 => repeat (first | exact (Kd.R_reads' HO126.out).2.2 | (with_reducible refine Kd.C_alloc ?_ _) | (with_reducible refine Kd.C_drewN ?_ _) | (with_reducible refine Kd.C_drew ?_))); (case side3 => exact (Kd.R_reads' HO126.out).2.1); rintro e w17 ⟨v128, rfl, ho0, hb⟩; refine ⟨_, rfl, ?_⟩; have n0_ := Aside0.mk (Kd.R_elder' (by (with_reducible repeat (first | apply Kd.R_alloc | apply Kd.R_drewN | apply Kd.R_drew)); (first | exact HO116.out | exact Kd.R_mono HO116.out (fun _ _ => trivial) | exact Kd.R_mono HO116.out (fun _ hk => hk.1))) (Kd.R_base ho0) hb); have n1_ := Aside0.mk (Kd.R_elder' (by (with_reducible repeat (first | apply Kd.R_alloc | apply Kd.R_drewN | apply Kd.R_drew)); (first | exact HO119.out | exact Kd.R_mono HO119.out (fun _ _ => trivial) | exact Kd.R_mono HO119.out (fun _ hk => hk.1))) (Kd.R_base ho0) hb); have n2_ := Aside0.mk (Kd.R_elder' (by (with_reducible repeat (first | apply Kd.R_alloc | apply Kd.R_drewN | apply Kd.R_drew)); (first | exact HO122.out | exact Kd.R_mono HO122.out (fun _ _ => trivial) | exact Kd.R_mono HO122.out (fun _ hk => hk.1))) (Kd.R_base ho0) hb); have n3_ := Aside0.mk (Kd.R_elder' (by (with_reducible repeat (first | apply Kd.R_alloc | apply Kd.R_drewN | apply Kd.R_drew)); (first | exact HO126.out | exact Kd.R_mono HO126.out (fun _ _ => trivial) | exact Kd.R_mono HO126.out (fun _ hk => hk.1))) (Kd.R_base ho0) hb); have n4_ := Aside0.mk (Kd.R_lower (Kd.R_new' (Kd.R_new' (Kd.R_new' (Kd.R_new' ho0 (Kd.R_lt (by (with_reducible repeat (first | apply Kd.R_alloc | apply Kd.R_drewN | apply Kd.R_drew)); (first | exact HO116.out | exact Kd.R_mono HO116.out (fun _ _ => trivial) | exact Kd.R_mono HO116.out (fun _ hk => hk.1))))) (Kd.R_lt (by (with_reducible repeat (first | apply Kd.R_alloc | apply Kd.R_drewN | apply Kd.R_drew)); (first | exact HO119.out | exact Kd.R_mono HO119.out (fun _ _ => trivial) | exact Kd.R_mono HO119.out (fun _ hk => hk.1))))) (Kd.R_lt (by (with_reducible repeat (first | apply Kd.R_alloc | apply Kd.R_drewN | apply Kd.R_drew)); (first | exact HO122.out | exact Kd.R_mono HO122.out (fun _ _ => trivial) | exact Kd.R_mono HO122.out (fun _ hk => hk.1))))) (Kd.R_lt (by (with_reducible repeat (first | apply Kd.R_alloc | apply Kd.R_drewN | apply Kd.R_drew)); (first | exact HO126.out | exact Kd.R_mono HO126.out (fun _ _ => trivial) | exact Kd.R_mono HO126.out (fun _ hk => hk.1))))) (below_size (by repeat (first | (with_reducible first | exact HB.out | apply below_alloc | apply pw_below_drewN | apply below_drew1) | exact HB.out)))); have n5_ := Aside0.mk (below_step (by repeat (first | (with_reducible first | exact HB.out | apply below_alloc | apply pw_below_drewN | apply below_drew1) | exact HB.out)) hb); clear HO116; clear HO119; clear HO122; clear HO126; clear HB; have HO116 := n0_; have HO119 := n1_; have HO122 := n2_; have HO126 := n3_; have HO129 := n4_; have HB := n5_; clear n0_ n1_ n2_ n3_ n4_ n5_; (try clear hb); (try clear hb2); (try clear hk); (try clear hi); (try clear ho0)) | ((with_reducible refine gate_dst (N := 9) rfl ?_); refine Kd.R_lit (Kd.int .i64) _ 3 ?hg (N := 9) ?hd (xs := ([12, 0] : List Int)) (inner := [.int .i64 12, .int .i64 0]) (ok := fun _ => True) (okp := fun _ => True) ?hr ?hp (fun _ hk => hk) trivial (Below.refl _ _) (Nat.le_refl _) (by simp) ?_; (case hd => rfl); (case hg => first | rfl | exact wanted_on rfl rfl rfl (by first | assumption | rfl | (simp [*]; done))); (case hr => first | (go_simp; done) | (go_simp; rfl)); (case hp => exact (Reps.one (show Kd.M (Kd.int .i64) _ _ _ 12 [.int .i64 12] from rfl) (Reps.one (show Kd.M (Kd.int .i64) _ _ _ 0 [.int .i64 0] from rfl) (Reps.none _ _)))); intro v131 w18 ho19 hb hg_ hnew_; clear hg_ hnew_; (first | rw [← Ny130.out] at ho19 | (simp only [Int.reduceToNat] at ho19; rw [← Ny130.out] at ho19)); have n0_ := Aside0.mk (Kd.R_elder' (by (with_reducible repeat (first | apply Kd.R_alloc | apply Kd.R_drewN | apply Kd.R_drew)); (first | exact HO116.out | exact Kd.R_mono HO116.out (fun _ _ => trivial) | exact Kd.R_mono HO116.out (fun _ hk => hk.1))) (Kd.R_base ho19) hb); have n1_ := Aside0.mk (Kd.R_elder' (by (with_reducible repeat (first | apply Kd.R_alloc | apply Kd.R_drewN | apply Kd.R_drew)); (first | exact HO119.out | exact Kd.R_mono HO119.out (fun _ _ => trivial) | exact Kd.R_mono HO119.out (fun _ hk => hk.1))) (Kd.R_base ho19) hb); have n2_ := Aside0.mk (Kd.R_elder' (by (with_reducible repeat (first | apply Kd.R_alloc | apply Kd.R_drewN | apply Kd.R_drew)); (first | exact HO122.out | exact Kd.R_mono HO122.out (fun _ _ => trivial) | exact Kd.R_mono HO122.out (fun _ hk => hk.1))) (Kd.R_base ho19) hb); have n3_ := Aside0.mk (Kd.R_elder' (by (with_reducible repeat (first | apply Kd.R_alloc | apply Kd.R_drewN | apply Kd.R_drew)); (first | exact HO126.out | exact Kd.R_mono HO126.out (fun _ _ => trivial) | exact Kd.R_mono HO126.out (fun _ hk => hk.1))) (Kd.R_base ho19) hb); have n4_ := Aside0.mk (Kd.R_elder' (by (with_reducible repeat (first | apply Kd.R_alloc | apply Kd.R_drewN | apply Kd.R_drew)); (first | exact HO129.out | exact Kd.R_mono HO129.out (fun _ _ => trivial) | exact Kd.R_mono HO129.out (fun _ hk => hk.1))) (Kd.R_base ho19) hb); have n5_ := Aside0.mk (Kd.R_lower (Kd.R_new' (Kd.R_new' (Kd.R_new' (Kd.R_new' (Kd.R_new' ho19 (Kd.R_lt (by (with_reducible repeat (first | apply Kd.R_alloc | apply Kd.R_drewN | apply Kd.R_drew)); (first | exact HO116.out | exact Kd.R_mono HO116.out (fun _ _ => trivial) | exact Kd.R_mono HO116.out (fun _ hk => hk.1))))) (Kd.R_lt (by (with_reducible repeat (first | apply Kd.R_alloc | apply Kd.R_drewN | apply Kd.R_drew)); (first | exact HO119.out | exact Kd.R_mono HO119.out (fun _ _ => trivial) | exact Kd.R_mono HO119.out (fun _ hk => hk.1))))) (Kd.R_lt (by (with_reducible repeat (first | apply Kd.R_alloc | apply Kd.R_drewN | apply Kd.R_drew)); (first | exact HO122.out | exact Kd.R_mono HO122.out (fun _ _ => trivial) | exact Kd.R_mono HO122.out (fun _ hk => hk.1))))) (Kd.R_lt (by (with_reducible repeat (first | apply Kd.R_alloc | apply Kd.R_drewN | apply Kd.R_drew)); (first | exact HO126.out | exact Kd.R_mono HO126.out (fun _ _ => trivial) | exact Kd.R_mono HO126.out (fun _ hk => hk.1))))) (Kd.R_lt (by (with_reducible repeat (first | apply Kd.R_alloc | apply Kd.R_drewN | apply Kd.R_drew)); (first | exact HO129.out | exact Kd.R_mono HO129.out (fun _ _ => trivial) | exact Kd.R_mono HO129.out (fun _ hk => hk.1))))) (below_size (by repeat (first | (with_reducible first | exact HB.out | apply below_alloc | apply pw_below_drewN | apply below_drew1) | exact HB.out)))); have n6_ := Aside0.mk (below_step (by repeat (first | (with_reducible first | exact HB.out | apply below_alloc | apply pw_below_drewN | apply below_drew1) | exact HB.out)) hb); clear HO116; clear HO119; clear HO122; clear HO126; clear HO129; clear HB; have HO116 := n0_; have HO119 := n1_; have HO122 := n2_; have HO126 := n3_; have HO129 := n4_; have HO132 := n5_; have HB := n6_; clear n0_ n1_ n2_ n3_ n4_ n5_ n6_; clear hb ho19; obtain ⟨Ao20, co20, eo20⟩ := Kd.R_slice HO129.out; subst eo20; obtain ⟨Ao21, co21, eo21⟩ := Kd.R_slice HO132.out; subst eo21) | ((with_reducible refine gate_callee (f := 16) rfl ?_); refine goesL_ (some 10) rfl rfl Tryd.func16 (by kernel_rfl) rfl #[.slice Ao20 t127.length co20, .slice Ao21 y130.length co21] rfl (by (try simp only [List.map_toArray, List.map_cons, List.map_nil]); first | done | rfl | (simp only [List.length_drop, List.length_take]; rfl)) ?_; (with_reducible refine (earshotref04_Same.calls k _ _ t127 _ _ y130 t133 _ ?side1 ?side2 ?side3 ?side4 A4.out).mono ?_); (case side1 => repeat (first | exact (Kd.R_reads' HO129.out).2.2 | (with_reducible refine Kd.C_alloc ?_ _) | (with_reducible refine Kd.C_drewN ?_ _) | (with_reducible refine Kd.C_drew ?_))); (case side2 => exact (Kd.R_reads' HO129.out).2.1); (case side3 => repeat (first | exact (Kd.R_reads' HO132.out).2.2 | (with_reducible refine Kd.C_alloc ?_ _) | (with_reducible refine Kd.C_drewN ?_ _) | (with_reducible refine Kd.C_drew ?_))); (case side4 => exact (Kd.R_reads' HO132.out).2.1); rintro e w' ⟨rfl, ⟨nd, rfl⟩⟩; refine ⟨_, rfl, ?_⟩))
    go_ret
    exact ⟨by first | rfl | (simp [errW_none, errW_some] <;> rfl) | (simp [*, errW_none, errW_some] <;> rfl), by repeat (first | (with_reducible first | exact HB.out | apply below_alloc | apply pw_below_drewN | apply below_drew1) | exact HB.out)⟩
  · replace c5 := Bool.eq_false_iff.mpr c5
    subst c5
    have H1 : (some false) = some r := by rw [if_neg (show ¬ (false = true) by decide)] at H; exact H
    clear H
    have H := H1
    clear H1
    obtain rfl := Option.some.inj H
    go_enter Tryd.func14, Tryd.ntmps14
    go_wp2_with (first | ((with_reducible refine gate_dst (N := 3) rfl ?_); refine Kd.R_lit (Kd.int .i64) _ 3 ?hg (N := 3) ?hd (xs := ([0, 1, 7, (-5)] : List Int)) (inner := [.int .i64 0, .int .i64 1, .int .i64 7, .int .i64 (-5)]) (ok := fun _ => True) (okp := fun _ => True) ?hr ?hp (fun _ hk => hk) trivial (Below.refl _ _) (Nat.le_refl _) (by simp) ?_; (case hd => rfl); (case hg => first | rfl | exact wanted_on rfl rfl rfl (by first | assumption | rfl | (simp [*]; done))); (case hr => first | (go_simp; done) | (go_simp; rfl)); (case hp => exact (Reps.one (show Kd.M (Kd.int .i64) _ _ _ 0 [.int .i64 0] from rfl) (Reps.one (show Kd.M (Kd.int .i64) _ _ _ 1 [.int .i64 1] from rfl) (Reps.one (show Kd.M (Kd.int .i64) _ _ _ 7 [.int .i64 7] from rfl) (Reps.one (show Kd.M (Kd.int .i64) _ _ _ (-5) [.int .i64 (-5)] from rfl) (Reps.none _ _)))))); intro v115 w22 ho23 hb hg_ hnew_; clear hg_ hnew_; (first | rw [← Ny114.out] at ho23 | (simp only [Int.reduceToNat] at ho23; rw [← Ny114.out] at ho23)); have n0_ := Aside0.mk (Kd.R_lower ho23 (below_size (by repeat (first | (with_reducible first | exact HB.out | apply below_alloc | apply pw_below_drewN | apply below_drew1) | exact HB.out)))); have n1_ := Aside0.mk (below_step (by repeat (first | (with_reducible first | exact HB.out | apply below_alloc | apply pw_below_drewN | apply below_drew1) | exact HB.out)) hb); clear HB; have HO116 := n0_; have HB := n1_; clear n0_ n1_; clear hb ho23; obtain ⟨Ao24, co24, eo24⟩ := Kd.R_slice HO116.out; subst eo24) | ((with_reducible refine gate_callee (f := 17) rfl ?_); refine goesL_ (some 4) rfl rfl Tryd.func17 (by kernel_rfl) rfl #[.slice Ao24 y114.length co24] rfl (by (try simp only [List.map_toArray, List.map_cons, List.map_nil]); first | done | rfl | (simp only [List.length_drop, List.length_take]; rfl)) ?_; (with_reducible refine (dct_Logs.calls k _ _ y114 t117 _ ?side1 ?side2 A1.out).mono ?_); (case side1 => repeat (first | exact (Kd.R_reads' HO116.out).2.2 | (with_reducible refine Kd.C_alloc ?_ _) | (with_reducible refine Kd.C_drewN ?_ _) | (with_reducible refine Kd.C_drew ?_))); (case side2 => exact (Kd.R_reads' HO116.out).2.1); rintro e w25 ⟨v118, rfl, ho0, hb⟩; refine ⟨_, rfl, ?_⟩; have n0_ := Aside0.mk (Kd.R_elder' (by (with_reducible repeat (first | apply Kd.R_alloc | apply Kd.R_drewN | apply Kd.R_drew)); (first | exact HO116.out | exact Kd.R_mono HO116.out (fun _ _ => trivial) | exact Kd.R_mono HO116.out (fun _ hk => hk.1))) (Kd.R_base ho0) hb); have n1_ := Aside0.mk (Kd.R_lower (Kd.R_new' ho0 (Kd.R_lt (by (with_reducible repeat (first | apply Kd.R_alloc | apply Kd.R_drewN | apply Kd.R_drew)); (first | exact HO116.out | exact Kd.R_mono HO116.out (fun _ _ => trivial) | exact Kd.R_mono HO116.out (fun _ hk => hk.1))))) (below_size (by repeat (first | (with_reducible first | exact HB.out | apply below_alloc | apply pw_below_drewN | apply below_drew1) | exact HB.out)))); have n2_ := Aside0.mk (below_step (by repeat (first | (with_reducible first | exact HB.out | apply below_alloc | apply pw_below_drewN | apply below_drew1) | exact HB.out)) hb); clear HO116; clear HB; have HO116 := n0_; have HO119 := n1_; have HB := n2_; clear n0_ n1_ n2_; (try clear hb); (try clear hb2); (try clear hk); (try clear hi); (try clear ho0)) | ((with_reducible refine gate_dst (N := 5) rfl ?_); refine Kd.R_lit (Kd.int .i64) _ 3 ?hg (N := 5) ?hd (xs := ([0, 256, 768, 0] : List Int)) (inner := [.int .i64 0, .int .i64 256, .int .i64 768, .int .i64 0]) (ok := fun _ => True) (okp := fun _ => True) ?hr ?hp (fun _ hk => hk) trivial (Below.refl _ _) (Nat.le_refl _) (by simp) ?_; (case hd => rfl); (case hg => first | rfl | exact wanted_on rfl rfl rfl (by first | assumption | rfl | (simp [*]; done))); (case hr => first | (go_simp; done) | (go_simp; rfl)); (case hp => exact (Reps.one (show Kd.M (Kd.int .i64) _ _ _ 0 [.int .i64 0] from rfl) (Reps.one (show Kd.M (Kd.int .i64) _ _ _ 256 [.int .i64 256] from rfl) (Reps.one (show Kd.M (Kd.int .i64) _ _ _ 768 [.int .i64 768] from rfl) (Reps.one (show Kd.M (Kd.int .i64) _ _ _ 0 [.int .i64 0] from rfl) (Reps.none _ _)))))); intro v121 w26 ho27 hb hg_ hnew_; clear hg_ hnew_; (first | rw [← Ny120.out] at ho27 | (simp only [Int.reduceToNat] at ho27; rw [← Ny120.out] at ho27)); have n0_ := Aside0.mk (Kd.R_elder' (by (with_reducible repeat (first | apply Kd.R_alloc | apply Kd.R_drewN | apply Kd.R_drew)); (first | exact HO116.out | exact Kd.R_mono HO116.out (fun _ _ => trivial) | exact Kd.R_mono HO116.out (fun _ hk => hk.1))) (Kd.R_base ho27) hb); have n1_ := Aside0.mk (Kd.R_elder' (by (with_reducible repeat (first | apply Kd.R_alloc | apply Kd.R_drewN | apply Kd.R_drew)); (first | exact HO119.out | exact Kd.R_mono HO119.out (fun _ _ => trivial) | exact Kd.R_mono HO119.out (fun _ hk => hk.1))) (Kd.R_base ho27) hb); have n2_ := Aside0.mk (Kd.R_lower (Kd.R_new' (Kd.R_new' ho27 (Kd.R_lt (by (with_reducible repeat (first | apply Kd.R_alloc | apply Kd.R_drewN | apply Kd.R_drew)); (first | exact HO116.out | exact Kd.R_mono HO116.out (fun _ _ => trivial) | exact Kd.R_mono HO116.out (fun _ hk => hk.1))))) (Kd.R_lt (by (with_reducible repeat (first | apply Kd.R_alloc | apply Kd.R_drewN | apply Kd.R_drew)); (first | exact HO119.out | exact Kd.R_mono HO119.out (fun _ _ => trivial) | exact Kd.R_mono HO119.out (fun _ hk => hk.1))))) (below_size (by repeat (first | (with_reducible first | exact HB.out | apply below_alloc | apply pw_below_drewN | apply below_drew1) | exact HB.out)))); have n3_ := Aside0.mk (below_step (by repeat (first | (with_reducible first | exact HB.out | apply below_alloc | apply pw_below_drewN | apply below_drew1) | exact HB.out)) hb); clear HO116; clear HO119; clear HB; have HO116 := n0_; have HO119 := n1_; have HO122 := n2_; have HB := n3_; clear n0_ n1_ n2_ n3_; clear hb ho27; obtain ⟨Ao28, co28, eo28⟩ := Kd.R_slice HO119.out; subst eo28; obtain ⟨Ao29, co29, eo29⟩ := Kd.R_slice HO122.out; subst eo29) | ((with_reducible refine gate_callee (f := 16) rfl ?_); refine goesL_ (some 6) rfl rfl Tryd.func16 (by kernel_rfl) rfl #[.slice Ao28 t117.length co28, .slice Ao29 y120.length co29] rfl (by (try simp only [List.map_toArray, List.map_cons, List.map_nil]); first | done | rfl | (simp only [List.length_drop, List.length_take]; rfl)) ?_; (with_reducible refine (earshotref04_Same.calls k _ _ t117 _ _ y120 false _ ?side1 ?side2 ?side3 ?side4 A2.out).mono ?_); (case side1 => repeat (first | exact (Kd.R_reads' HO119.out).2.2 | (with_reducible refine Kd.C_alloc ?_ _) | (with_reducible refine Kd.C_drewN ?_ _) | (with_reducible refine Kd.C_drew ?_))); (case side2 => exact (Kd.R_reads' HO119.out).2.1); (case side3 => repeat (first | exact (Kd.R_reads' HO122.out).2.2 | (with_reducible refine Kd.C_alloc ?_ _) | (with_reducible refine Kd.C_drewN ?_ _) | (with_reducible refine Kd.C_drew ?_))); (case side4 => exact (Kd.R_reads' HO122.out).2.1); rintro e w' ⟨rfl, ⟨nd, rfl⟩⟩; refine ⟨_, rfl, ?_⟩) | ((with_reducible refine gate_dst (N := 7) rfl ?_); refine Kd.R_lit (Kd.int .i64) _ 3 ?hg (N := 7) ?hd (xs := ([3, 3, 3, 3] : List Int)) (inner := [.int .i64 3, .int .i64 3, .int .i64 3, .int .i64 3]) (ok := fun _ => True) (okp := fun _ => True) ?hr ?hp (fun _ hk => hk) trivial (Below.refl _ _) (Nat.le_refl _) (by simp) ?_; (case hd => rfl); (case hg => first | rfl | exact wanted_on rfl rfl rfl (by first | assumption | rfl | (simp [*]; done))); (case hr => first | (go_simp; done) | (go_simp; rfl)); (case hp => exact (Reps.one (show Kd.M (Kd.int .i64) _ _ _ 3 [.int .i64 3] from rfl) (Reps.one (show Kd.M (Kd.int .i64) _ _ _ 3 [.int .i64 3] from rfl) (Reps.one (show Kd.M (Kd.int .i64) _ _ _ 3 [.int .i64 3] from rfl) (Reps.one (show Kd.M (Kd.int .i64) _ _ _ 3 [.int .i64 3] from rfl) (Reps.none _ _)))))); intro v125 w30 ho31 hb hg_ hnew_; clear hg_ hnew_; (first | rw [← Ny124.out] at ho31 | (simp only [Int.reduceToNat] at ho31; rw [← Ny124.out] at ho31)); have n0_ := Aside0.mk (Kd.R_elder' (by (with_reducible repeat (first | apply Kd.R_alloc | apply Kd.R_drewN | apply Kd.R_drew)); (first | exact HO116.out | exact Kd.R_mono HO116.out (fun _ _ => trivial) | exact Kd.R_mono HO116.out (fun _ hk => hk.1))) (Kd.R_base ho31) hb); have n1_ := Aside0.mk (Kd.R_elder' (by (with_reducible repeat (first | apply Kd.R_alloc | apply Kd.R_drewN | apply Kd.R_drew)); (first | exact HO119.out | exact Kd.R_mono HO119.out (fun _ _ => trivial) | exact Kd.R_mono HO119.out (fun _ hk => hk.1))) (Kd.R_base ho31) hb); have n2_ := Aside0.mk (Kd.R_elder' (by (with_reducible repeat (first | apply Kd.R_alloc | apply Kd.R_drewN | apply Kd.R_drew)); (first | exact HO122.out | exact Kd.R_mono HO122.out (fun _ _ => trivial) | exact Kd.R_mono HO122.out (fun _ hk => hk.1))) (Kd.R_base ho31) hb); have n3_ := Aside0.mk (Kd.R_lower (Kd.R_new' (Kd.R_new' (Kd.R_new' ho31 (Kd.R_lt (by (with_reducible repeat (first | apply Kd.R_alloc | apply Kd.R_drewN | apply Kd.R_drew)); (first | exact HO116.out | exact Kd.R_mono HO116.out (fun _ _ => trivial) | exact Kd.R_mono HO116.out (fun _ hk => hk.1))))) (Kd.R_lt (by (with_reducible repeat (first | apply Kd.R_alloc | apply Kd.R_drewN | apply Kd.R_drew)); (first | exact HO119.out | exact Kd.R_mono HO119.out (fun _ _ => trivial) | exact Kd.R_mono HO119.out (fun _ hk => hk.1))))) (Kd.R_lt (by (with_reducible repeat (first | apply Kd.R_alloc | apply Kd.R_drewN | apply Kd.R_drew)); (first | exact HO122.out | exact Kd.R_mono HO122.out (fun _ _ => trivial) | exact Kd.R_mono HO122.out (fun _ hk => hk.1))))) (below_size (by repeat (first | (with_reducible first | exact HB.out | apply below_alloc | apply pw_below_drewN | apply below_drew1) | exact HB.out)))); have n4_ := Aside0.mk (below_step (by repeat (first | (with_reducible first | exact HB.out | apply below_alloc | apply pw_below_drewN | apply below_drew1) | exact HB.out)) hb); clear HO116; clear HO119; clear HO122; clear HB; have HO116 := n0_; have HO119 := n1_; have HO122 := n2_; have HO126 := n3_; have HB := n4_; clear n0_ n1_ n2_ n3_ n4_; clear hb ho31; obtain ⟨Ao32, co32, eo32⟩ := Kd.R_slice HO126.out; subst eo32) | ((with_reducible refine gate_callee (f := 21) rfl ?_); refine goesL_ (some 8) rfl rfl Tryd.func21 (by kernel_rfl) rfl #[.int .i64 2, .slice Ao32 y124.length co32] rfl (by (try simp only [List.map_toArray, List.map_cons, List.map_nil]); first | done | rfl | (simp only [List.length_drop, List.length_take]; rfl)) ?_; (with_reducible refine (dct_Dct.calls 2 _ _ y124 t127 _ ?side1 ?side2 ?side3 A3.out).mono ?_); (case side1 => exact GlobA.below HG.out (by repeat (first | (with_reducible first | exact HB.out | apply below_alloc | apply pw_below_drewN | apply below_drew1) | exact HB.out))); (case side2 => repeat (first | exact (Kd.R_reads' HO126.out).2.2 | (with_reducible refine Kd.C_alloc ?_ _) | (with_reducible refine Kd.C_drewN ?_ _) | (with_reducible refine Kd.C_drew ?_))); (case side3 => exact (Kd.R_reads' HO126.out).2.1); rintro e w33 ⟨v128, rfl, ho0, hb⟩; refine ⟨_, rfl, ?_⟩; have n0_ := Aside0.mk (Kd.R_elder' (by (with_reducible repeat (first | apply Kd.R_alloc | apply Kd.R_drewN | apply Kd.R_drew)); (first | exact HO116.out | exact Kd.R_mono HO116.out (fun _ _ => trivial) | exact Kd.R_mono HO116.out (fun _ hk => hk.1))) (Kd.R_base ho0) hb); have n1_ := Aside0.mk (Kd.R_elder' (by (with_reducible repeat (first | apply Kd.R_alloc | apply Kd.R_drewN | apply Kd.R_drew)); (first | exact HO119.out | exact Kd.R_mono HO119.out (fun _ _ => trivial) | exact Kd.R_mono HO119.out (fun _ hk => hk.1))) (Kd.R_base ho0) hb); have n2_ := Aside0.mk (Kd.R_elder' (by (with_reducible repeat (first | apply Kd.R_alloc | apply Kd.R_drewN | apply Kd.R_drew)); (first | exact HO122.out | exact Kd.R_mono HO122.out (fun _ _ => trivial) | exact Kd.R_mono HO122.out (fun _ hk => hk.1))) (Kd.R_base ho0) hb); have n3_ := Aside0.mk (Kd.R_elder' (by (with_reducible repeat (first | apply Kd.R_alloc | apply Kd.R_drewN | apply Kd.R_drew)); (first | exact HO126.out | exact Kd.R_mono HO126.out (fun _ _ => trivial) | exact Kd.R_mono HO126.out (fun _ hk => hk.1))) (Kd.R_base ho0) hb); have n4_ := Aside0.mk (Kd.R_lower (Kd.R_new' (Kd.R_new' (Kd.R_new' (Kd.R_new' ho0 (Kd.R_lt (by (with_reducible repeat (first | apply Kd.R_alloc | apply Kd.R_drewN | apply Kd.R_drew)); (first | exact HO116.out | exact Kd.R_mono HO116.out (fun _ _ => trivial) | exact Kd.R_mono HO116.out (fun _ hk => hk.1))))) (Kd.R_lt (by (with_reducible repeat (first | apply Kd.R_alloc | apply Kd.R_drewN | apply Kd.R_drew)); (first | exact HO119.out | exact Kd.R_mono HO119.out (fun _ _ => trivial) | exact Kd.R_mono HO119.out (fun _ hk => hk.1))))) (Kd.R_lt (by (with_reducible repeat (first | apply Kd.R_alloc | apply Kd.R_drewN | apply Kd.R_drew)); (first | exact HO122.out | exact Kd.R_mono HO122.out (fun _ _ => trivial) | exact Kd.R_mono HO122.out (fun _ hk => hk.1))))) (Kd.R_lt (by (with_reducible repeat (first | apply Kd.R_alloc | apply Kd.R_drewN | apply Kd.R_drew)); (first | exact HO126.out | exact Kd.R_mono HO126.out (fun _ _ => trivial) | exact Kd.R_mono HO126.out (fun _ hk => hk.1))))) (below_size (by repeat (first | (with_reducible first | exact HB.out | apply below_alloc | apply pw_below_drewN | apply below_drew1) | exact HB.out)))); have n5_ := Aside0.mk (below_step (by repeat (first | (with_reducible first | exact HB.out | apply below_alloc | apply pw_below_drewN | apply below_drew1) | exact HB.out)) hb); clear HO116; clear HO119; clear HO122; clear HO126; clear HB; have HO116 := n0_; have HO119 := n1_; have HO122 := n2_; have HO126 := n3_; have HO129 := n4_; have HB := n5_; clear n0_ n1_ n2_ n3_ n4_ n5_; (try clear hb); (try clear hb2); (try clear hk); (try clear hi); (try clear ho0)) | ((with_reducible refine gate_dst (N := 9) rfl ?_); refine Kd.R_lit (Kd.int .i64) _ 3 ?hg (N := 9) ?hd (xs := ([12, 0] : List Int)) (inner := [.int .i64 12, .int .i64 0]) (ok := fun _ => True) (okp := fun _ => True) ?hr ?hp (fun _ hk => hk) trivial (Below.refl _ _) (Nat.le_refl _) (by simp) ?_; (case hd => rfl); (case hg => first | rfl | exact wanted_on rfl rfl rfl (by first | assumption | rfl | (simp [*]; done))); (case hr => first | (go_simp; done) | (go_simp; rfl)); (case hp => exact (Reps.one (show Kd.M (Kd.int .i64) _ _ _ 12 [.int .i64 12] from rfl) (Reps.one (show Kd.M (Kd.int .i64) _ _ _ 0 [.int .i64 0] from rfl) (Reps.none _ _)))); intro v131 w34 ho35 hb hg_ hnew_; clear hg_ hnew_; (first | rw [← Ny130.out] at ho35 | (simp only [Int.reduceToNat] at ho35; rw [← Ny130.out] at ho35)); have n0_ := Aside0.mk (Kd.R_elder' (by (with_reducible repeat (first | apply Kd.R_alloc | apply Kd.R_drewN | apply Kd.R_drew)); (first | exact HO116.out | exact Kd.R_mono HO116.out (fun _ _ => trivial) | exact Kd.R_mono HO116.out (fun _ hk => hk.1))) (Kd.R_base ho35) hb); have n1_ := Aside0.mk (Kd.R_elder' (by (with_reducible repeat (first | apply Kd.R_alloc | apply Kd.R_drewN | apply Kd.R_drew)); (first | exact HO119.out | exact Kd.R_mono HO119.out (fun _ _ => trivial) | exact Kd.R_mono HO119.out (fun _ hk => hk.1))) (Kd.R_base ho35) hb); have n2_ := Aside0.mk (Kd.R_elder' (by (with_reducible repeat (first | apply Kd.R_alloc | apply Kd.R_drewN | apply Kd.R_drew)); (first | exact HO122.out | exact Kd.R_mono HO122.out (fun _ _ => trivial) | exact Kd.R_mono HO122.out (fun _ hk => hk.1))) (Kd.R_base ho35) hb); have n3_ := Aside0.mk (Kd.R_elder' (by (with_reducible repeat (first | apply Kd.R_alloc | apply Kd.R_drewN | apply Kd.R_drew)); (first | exact HO126.out | exact Kd.R_mono HO126.out (fun _ _ => trivial) | exact Kd.R_mono HO126.out (fun _ hk => hk.1))) (Kd.R_base ho35) hb); have n4_ := Aside0.mk (Kd.R_elder' (by (with_reducible repeat (first | apply Kd.R_alloc | apply Kd.R_drewN | apply Kd.R_drew)); (first | exact HO129.out | exact Kd.R_mono HO129.out (fun _ _ => trivial) | exact Kd.R_mono HO129.out (fun _ hk => hk.1))) (Kd.R_base ho35) hb); have n5_ := Aside0.mk (Kd.R_lower (Kd.R_new' (Kd.R_new' (Kd.R_new' (Kd.R_new' (Kd.R_new' ho35 (Kd.R_lt (by (with_reducible repeat (first | apply Kd.R_alloc | apply Kd.R_drewN | apply Kd.R_drew)); (first | exact HO116.out | exact Kd.R_mono HO116.out (fun _ _ => trivial) | exact Kd.R_mono HO116.out (fun _ hk => hk.1))))) (Kd.R_lt (by (with_reducible repeat (first | apply Kd.R_alloc | apply Kd.R_drewN | apply Kd.R_drew)); (first | exact HO119.out | exact Kd.R_mono HO119.out (fun _ _ => trivial) | exact Kd.R_mono HO119.out (fun _ hk => hk.1))))) (Kd.R_lt (by (with_reducible repeat (first | apply Kd.R_alloc | apply Kd.R_drewN | apply Kd.R_drew)); (first | exact HO122.out | exact Kd.R_mono HO122.out (fun _ _ => trivial) | exact Kd.R_mono HO122.out (fun _ hk => hk.1))))) (Kd.R_lt (by (with_reducible repeat (first | apply Kd.R_alloc | apply Kd.R_drewN | apply Kd.R_drew)); (first | exact HO126.out | exact Kd.R_mono HO126.out (fun _ _ => trivial) | exact Kd.R_mono HO126.out (fun _ hk => hk.1))))) (Kd.R_lt (by (with_reducible repeat (first | apply Kd.R_alloc | apply Kd.R_drewN | apply Kd.R_drew)); (first | exact HO129.out | exact Kd.R_mono HO129.out (fun _ _ => trivial) | exact Kd.R_mono HO129.out (fun _ hk => hk.1))))) (below_size (by repeat (first | (with_reducible first | exact HB.out | apply below_alloc | apply pw_below_drewN | apply below_drew1) | exact HB.out)))); have n6_ := Aside0.mk (below_step (by repeat (first | (with_reducible first | exact HB.out | apply below_alloc | apply pw_below_drewN | apply below_drew1) | exact HB.out)) hb); clear HO116; clear HO119; clear HO122; clear HO126; clear HO129; clear HB; have HO116 := n0_; have HO119 := n1_; have HO122 := n2_; have HO126 := n3_; have HO129 := n4_; have HO132 := n5_; have HB := n6_; clear n0_ n1_ n2_ n3_ n4_ n5_ n6_; clear hb ho35; obtain ⟨Ao36, co36, eo36⟩ := Kd.R_slice HO129.out; subst eo36; obtain ⟨Ao37, co37, eo37⟩ := Kd.R_slice HO132.out; subst eo37) | ((with_reducible refine gate_callee (f := 16) rfl ?_); refine goesL_ (some 10) rfl rfl Tryd.func16 (by kernel_rfl) rfl #[.slice Ao36 t127.length co36, .slice Ao37 y130.length co37] rfl (by (try simp only [List.map_toArray, List.map_cons, List.map_nil]); first | done | rfl | (simp only [List.length_drop, List.length_take]; rfl)) ?_; (with_reducible refine (earshotref04_Same.calls k _ _ t127 _ _ y130 t133 _ ?side1 ?side2 ?side3 ?side4 A4.out).mono ?_); (case side1 => repeat (first | exact (Kd.R_reads' HO129.out).2.2 | (with_reducible refine Kd.C_alloc ?_ _) | (with_reducible refine Kd.C_drewN ?_ _) | (with_reducible refine Kd.C_drew ?_))); (case side2 => exact (Kd.R_reads' HO129.out).2.1); (case side3 => repeat (first | exact (Kd.R_reads' HO132.out).2.2 | (with_reducible refine Kd.C_alloc ?_ _) | (with_reducible refine Kd.C_drewN ?_ _) | (with_reducible refine Kd.C_drew ?_))); (case side4 => exact (Kd.R_reads' HO132.out).2.1); rintro e w' ⟨rfl, ⟨nd, rfl⟩⟩; refine ⟨_, rfl, ?_⟩))
    go_ret
    exact ⟨by first | rfl | (simp [errW_none, errW_some] <;> rfl) | (simp [*, errW_none, errW_some] <;> rfl), by repeat (first | (with_reducible first | exact HB.out | apply below_alloc | apply pw_below_drewN | apply below_drew1) | exact HB.out)⟩

/-! ### earshotlaw12_DctLogs: function 4 -/
-- PURE intro l0 _ h8 hw; unfold earshotlaw12_DctLogs.f; rw [if_pos]; simp only [Bool.and_eq_true, decide_eq_true_eq, List.all_eq_true]; exact ⟨by omega, fun x hx => wf_i64 (hw x hx)⟩
theorem bsome {α β : Type} (a : α) (f : α → Option β) : (some a).bind f = f a := by
  generalize h : some a = o
  cases o with
  | none => cases h
  | some b => cases h; rfl

/-- A call's result is a row that reads as xs; the world is as it was, but for what is new. -/
def CRes (w0 W : World) (h : Nat) (xs : List Int) (e : Ending) (w' : World) : Prop :=
  ∃ A c, e = .returned (.slice A h c) ∧ h ≤ c ∧ Aside0 ((Kd.int .i64).C w' A h xs) ∧ Aside0 (Below w0.heap.size w0 w') ∧ Aside0 (Below W.heap.size W w')
theorem cres_of {w0 W w' : World} {h : Nat} {xs : List Int} {v : Value} {t b : Nat} {ok : Nat → Prop} (hB : Below w0.heap.size w0 W) (hR : (Kd.int .i64).R t w' b ok v xs) (hl : xs.length = h) (hb : Below W.heap.size W w') : CRes w0 W h xs (.returned v) w' := by
  subst hl
  obtain ⟨A, c, rfl, h1, h2⟩ := Kd.R_reads hR
  exact ⟨A, c, rfl, h1, ⟨h2⟩, ⟨below_step hB hb⟩, ⟨hb⟩⟩
theorem same_go (l : List Int) (hl : l.length ≤ 100000000) (d : Nat) : ∀ (k i : Nat), i ≤ l.length → l.length - i = d → d < k → earshotref04_Same.l0 k l l (i : Int) = some true := by
  induction d with
  | zero =>
    intro k i h0 hd hk
    obtain ⟨k, rfl⟩ : ∃ m, k = m + 1 := ⟨k - 1, by omega⟩
    simp only [earshotref04_Same.l0]
    rw [if_neg (by omega)]
  | succ d ih =>
    intro k i h0 hd hk
    obtain ⟨k, rfl⟩ : ∃ m, k = m + 1 := ⟨k - 1, by omega⟩
    simp only [earshotref04_Same.l0]
    have hw : wrap64 ((i : Int) + 1) = ((i + 1 : Nat) : Int) := by unfold wrap64; omega
    rw [if_pos (by omega), if_pos (by omega), if_pos (by omega), if_pos trivial, hw]
    exact ih k (i + 1) (by omega) (by omega) (by omega)
theorem same_f (l : List Int) (hl : l.length ≤ 100000000) : earshotref04_Same.f (l.length + 1) l l = some true := by
  unfold earshotref04_Same.f
  rw [if_pos rfl]
  exact same_go l hl l.length _ 0 (by omega) (by omega) (by omega)
/-- Two rows that read the same. -/
theorem same_c {w0 : World} (A1 : Option Addr) (h c1 : Nat) (A2 : Option Addr) (c2 : Nat) (l1 l2 : List Int) (W : World) (hB : Below w0.heap.size w0 W) (hl : l1.length = h) (he : l1 = l2) (hC1 : (Kd.int .i64).C W A1 h l1) (hC2 : (Kd.int .i64).C W A2 h l2) (h1 : h ≤ c1) (h2 : h ≤ c2) (hh : h ≤ 1000000) :
    Calls Tryd.prog 16 #[.slice A1 h c1, .slice A2 h c2] W fun e w' => e = .returned (.bool true) ∧ Aside0 (Below w0.heap.size w0 w') ∧ Aside0 (Below W.heap.size W w') := by
  subst he
  subst hl
  exact (earshotref04_Same.calls _ A1 c1 l1 A2 c2 l1 true W hC1 h1 hC2 h2 (same_f l1 (by omega))).mono fun e w' ⟨a, ⟨n, b⟩⟩ => by
    subst b
    exact ⟨a, ⟨pw_below_drewN hB n⟩, ⟨pw_below_drewN (Below.refl _ _) n⟩⟩
theorem zeros_c (X : World) (g n : Nat) (hg : g = X.heap.size) (hn : n ≤ 1000000) : (Kd.int .i64).C (X.alloc (.cells (madeCells #[.int .i64 0] n) 3)) (some ⟨g, 0, none⟩) n (List.replicate n 0) := by
  subst hg
  have h := own_made X X.heap.size 3 .i64 n (Nat.le_refl _) (by omega)
  have hR := Kd.R_of_own (enc := Value.int .i64) (h1 := fun _ => rfl) (ok := fun _ => True) (xs := List.replicate n 0) (by rw [List.length_replicate]; exact h) (fun _ _ => trivial)
  obtain ⟨A, c, he, _, h2⟩ := Kd.R_reads hR
  rw [List.length_replicate] at he h2
  injection he with e1 e2 e3
  rw [e1]
  exact h2
/-- A callee that draws only, in a region that is walked once, in a world that has drawn before. -/
theorem quiet_add {P : Program} {f : FuncId} {args : Array Value} {W : World} {K x : Nat} {v : Value} (h : Calls P f args (W.drewN (K + x)) fun e w' => e = .returned v ∧ Drawn0 (W.drewN (K + x)) w') :
    Calls P f args (W.drewN (K + x)) fun e w'' => e = .returned v ∧ ∃ n, w'' = W.drewN (K + n) :=
  h.mono fun _ _ ⟨he, ⟨m, hm⟩⟩ => ⟨he, x + m, by rw [hm, World.drewN_drewN, Nat.add_assoc]⟩
/-- .. likewise, in a world that is named by one count. -/
theorem quiet_d {P : Program} {f : FuncId} {args : Array Value} {W : World} {x : Nat} {v : Value} (h : Calls P f args (W.drewN x) fun e w' => e = .returned v ∧ Drawn0 (W.drewN x) w') :
    Calls P f args (W.drewN x) fun e w'' => e = .returned v ∧ ∃ n, w'' = W.drewN n :=
  h.mono fun _ _ ⟨he, ⟨m, hm⟩⟩ => ⟨he, x + m, by rw [hm, World.drewN_drewN]⟩

/-- The digits behind the point, step by step, of a mantissa in [2^31, 2^32). -/
def dD : Nat → Nat → Nat
  | 0, _ => 0
  | k + 1, m => (m * m / 2147483648 / 4294967296) * 2 ^ k + dD k (m * m / 2147483648 / 2 ^ (m * m / 2147483648 / 4294967296))
theorem sq_range {m : Nat} (h0 : 2147483648 ≤ m) (h1 : m < 4294967296) : 2147483648 ≤ m * m / 2147483648 ∧ m * m / 2147483648 < 8589934592 := by
  have a : 2147483648 * 2147483648 ≤ m * m := Nat.mul_le_mul h0 h0
  have b : m * m ≤ 4294967295 * 4294967295 := Nat.mul_le_mul (by omega) (by omega)
  omega
theorem next_range {m : Nat} (h0 : 2147483648 ≤ m) (h1 : m < 4294967296) : 2147483648 ≤ m * m / 2147483648 / 2 ^ (m * m / 2147483648 / 4294967296) ∧ m * m / 2147483648 / 2 ^ (m * m / 2147483648 / 4294967296) < 4294967296 ∧ m * m / 2147483648 / 4294967296 < 2 := by
  obtain ⟨a, b⟩ := sq_range h0 h1
  generalize m * m / 2147483648 = q at *
  have h : q / 4294967296 = 0 ∨ q / 4294967296 = 1 := by omega
  rcases h with h | h
  · rw [h]; omega
  · rw [h]; omega
theorem dD_lt : ∀ (k : Nat) {m : Nat}, 2147483648 ≤ m → m < 4294967296 → dD k m < 2 ^ k
  | 0, _, _, _ => by simp [dD]
  | k + 1, m, h0, h1 => by
    obtain ⟨a, b, c⟩ := next_range h0 h1
    have ih := dD_lt k a b
    simp only [dD]
    generalize m * m / 2147483648 / 4294967296 = d at *
    generalize dD k _ = e at *
    have hd : d = 0 ∨ d = 1 := by omega
    rw [Nat.pow_succ]
    rcases hd with rfl | rfl <;> omega
theorem dD_mono : ∀ (k : Nat) {m n : Nat}, 2147483648 ≤ m → m ≤ n → n < 4294967296 → dD k m ≤ dD k n
  | 0, _, _, _, _, _ => Nat.le_refl _
  | k + 1, m, n, h0, h, h1 => by
    obtain ⟨a, b, c⟩ := next_range h0 (by omega)
    obtain ⟨a2, b2, c2⟩ := next_range (m := n) (by omega) h1
    have hq : m * m / 2147483648 ≤ n * n / 2147483648 := Nat.div_le_div_right (Nat.mul_le_mul h h)
    have lt := dD_lt k a b
    simp only [dD]
    by_cases he : m * m / 2147483648 / 4294967296 = n * n / 2147483648 / 4294967296
    · have ih := dD_mono k a (by rw [he]; exact Nat.div_le_div_right hq) b2
      rw [he] at ih ⊢
      omega
    · have hlt : m * m / 2147483648 / 4294967296 ≤ n * n / 2147483648 / 4294967296 := Nat.div_le_div_right hq
      have e1 : m * m / 2147483648 / 4294967296 = 0 := by omega
      have e2 : n * n / 2147483648 / 4294967296 = 1 := by omega
      have l1 := lt
      rw [e1] at l1 ⊢
      rw [e2]
      omega
theorem dD_next : ∀ (k : Nat) {m : Nat}, 2147483648 ≤ m → m < 4294967296 → dD (k + 1) m = 2 * dD k m ∨ dD (k + 1) m = 2 * dD k m + 1
  | 0, m, h0, h1 => by
    obtain ⟨a, b, c⟩ := next_range h0 h1
    simp only [dD]
    omega
  | k + 1, m, h0, h1 => by
    obtain ⟨a, b, c⟩ := next_range h0 h1
    have ih := dD_next k a b
    rw [show dD (k + 1 + 1) m = (m * m / 2147483648 / 4294967296) * 2 ^ (k + 1) + dD (k + 1) (m * m / 2147483648 / 2 ^ (m * m / 2147483648 / 4294967296)) from rfl,
      show dD (k + 1) m = (m * m / 2147483648 / 4294967296) * 2 ^ k + dD k (m * m / 2147483648 / 2 ^ (m * m / 2147483648 / 4294967296)) from rfl, Nat.pow_succ]
    generalize m * m / 2147483648 / 4294967296 = d at *
    have e : d * (2 ^ k * 2) = 2 * (d * 2 ^ k) := by rw [← Nat.mul_assoc, Nat.mul_comm]
    rcases ih with ih | ih <;> rw [ih, e] <;> omega
theorem dD_one : ∀ k, dD k 2147483648 = 0
  | 0 => rfl
  | k + 1 => by
    simp only [dD]
    have e : 2147483648 * 2147483648 / 2147483648 / 4294967296 = 0 := by decide
    rw [e]
    simpa using dD_one k
/-- The mantissa of a number of b + 1 bits. -/
def mant (b x : Nat) : Nat := x * 2 ^ (63 - b) / 4294967296
theorem mant_range {b x : Nat} (hb : b ≤ 63) (h0 : 2 ^ b ≤ x) (h1 : x < 2 ^ (b + 1)) : 2147483648 ≤ mant b x ∧ mant b x < 4294967296 := by
  unfold mant
  have e : 2 ^ b * 2 ^ (63 - b) = 9223372036854775808 := by rw [← Nat.pow_add, show b + (63 - b) = 63 by omega]
  have p : 0 < 2 ^ (63 - b) := Nat.two_pow_pos _
  have a1 : 2 ^ b * 2 ^ (63 - b) ≤ x * 2 ^ (63 - b) := Nat.mul_le_mul_right _ h0
  have a2 : x * 2 ^ (63 - b) < 2 ^ (b + 1) * 2 ^ (63 - b) := Nat.mul_lt_mul_of_pos_right h1 p
  rw [Nat.pow_succ, Nat.mul_right_comm, e] at a2
  rw [e] at a1
  omega
theorem mant_mono {b x y : Nat} (h : x ≤ y) : mant b x ≤ mant b y := Nat.div_le_div_right (Nat.mul_le_mul_right _ h)
theorem mant_twice {b x : Nat} (hb : b + 1 ≤ 63) : mant (b + 1) (2 * x) = mant b x := by
  unfold mant
  rw [show 63 - b = (63 - (b + 1)) + 1 by omega, Nat.pow_succ, Nat.mul_comm 2 x, Nat.mul_assoc, Nat.mul_comm (2 ^ _) 2]
theorem mant_pow {b : Nat} (hb : b ≤ 63) : mant b (2 ^ b) = 2147483648 := by
  unfold mant
  rw [← Nat.pow_add, show b + (63 - b) = 63 by omega]
/-- Of a square: the first step of the number's own digits. -/
theorem mant_square {b y : Nat} (hb : b ≤ 31) (h0 : 2 ^ b ≤ y) (h1 : y < 2 ^ (b + 1)) :
    let q := mant b y * mant b y / 2147483648
    2 ^ (2 * b + q / 4294967296) ≤ y * y ∧ y * y < 2 ^ (2 * b + q / 4294967296 + 1) ∧ mant (2 * b + q / 4294967296) (y * y) = q / 2 ^ (q / 4294967296) ∧ q / 4294967296 < 2 := by
  intro q
  have em : mant b y = y * 2 ^ (31 - b) := by
    unfold mant
    rw [show 63 - b = (31 - b) + 32 by omega, Nat.pow_add, ← Nat.mul_assoc]
    exact Nat.mul_div_cancel _ (by decide)
  have eq1 : q = y * y * 2 ^ (63 - 2 * b) / 4294967296 := by
    show mant b y * mant b y / 2147483648 = _
    rw [em]
    have e : y * 2 ^ (31 - b) * (y * 2 ^ (31 - b)) = y * y * 2 ^ (62 - 2 * b) := by
      rw [Nat.mul_mul_mul_comm, ← Nat.pow_add, show 31 - b + (31 - b) = 62 - 2 * b by omega]
    rw [e, show 63 - 2 * b = (62 - 2 * b) + 1 by omega, Nat.pow_succ, ← Nat.mul_assoc]
    generalize y * y * 2 ^ (62 - 2 * b) = z
    omega
  obtain ⟨r0, r1⟩ := mant_range (b := b) (by omega) h0 h1
  obtain ⟨_, _, hd⟩ := next_range r0 r1
  have y0 : 2 ^ (2 * b) ≤ y * y := by
    have := Nat.mul_le_mul h0 h0
    rwa [← Nat.pow_add, ← Nat.two_mul] at this
  have y1 : y * y < 2 ^ (2 * b + 2) := by
    have := Nat.mul_lt_mul'' h1 h1
    rwa [← Nat.pow_add, show b + 1 + (b + 1) = 2 * b + 2 by omega] at this
  have hcut : q / 4294967296 = 1 ↔ 2 ^ (2 * b + 1) ≤ y * y := by
    have p : 0 < 2 ^ (63 - 2 * b) := Nat.two_pow_pos _
    have e : 2 ^ (2 * b + 1) * 2 ^ (63 - 2 * b) = 18446744073709551616 := by rw [← Nat.pow_add, show 2 * b + 1 + (63 - 2 * b) = 64 by omega]
    constructor
    · intro h
      have : 18446744073709551616 ≤ y * y * 2 ^ (63 - 2 * b) := by omega
      rw [← e] at this
      exact Nat.le_of_mul_le_mul_right this p
    · intro h
      have := Nat.mul_le_mul_right (2 ^ (63 - 2 * b)) h
      rw [e] at this
      have hd' : q / 4294967296 < 2 := hd
      omega
  have hd' : q / 4294967296 < 2 := hd
  have h01 : q / 4294967296 = 0 ∨ q / 4294967296 = 1 := by omega
  rcases h01 with h | h
  · have hn : ¬ 2 ^ (2 * b + 1) ≤ y * y := fun hh => by rw [hcut.mpr hh] at h; cases h
    rw [h]
    simp only [Nat.add_zero]
    refine ⟨y0, by omega, ?_, by omega⟩
    unfold mant
    rw [eq1]; simp
  · have hh := hcut.mp h
    rw [h]
    refine ⟨hh, y1, ?_, by omega⟩
    unfold mant
    rw [eq1, show 63 - 2 * b = (63 - (2 * b + 1)) + 1 by omega, Nat.pow_succ, ← Nat.mul_assoc]
    generalize y * y * 2 ^ (63 - (2 * b + 1)) = z
    omega
theorem bla_zero : ∀ f, Lib.bitLenAux f 0 = 0
  | 0 => rfl
  | f + 1 => by simp [Lib.bitLenAux]
theorem bla_spec : ∀ (f x : Nat), x < 2 ^ f → x < 2 ^ Lib.bitLenAux f x ∧ (x ≠ 0 → 1 ≤ Lib.bitLenAux f x ∧ 2 ^ (Lib.bitLenAux f x - 1) ≤ x) ∧ Lib.bitLenAux f x ≤ f
  | 0, x, h => by
    have : x = 0 := by simpa using h
    subst this
    simp [Lib.bitLenAux]
  | f + 1, x, h => by
    by_cases h0 : x = 0
    · subst h0; simp [bla_zero]
    · have e1 : Lib.bitLenAux (f + 1) x = 1 + Lib.bitLenAux f (x / 2) := by
        show (if x = 0 then 0 else 1 + Lib.bitLenAux f (x / 2)) = _
        rw [if_neg h0]
      rw [e1]
      rw [Nat.pow_succ] at h
      obtain ⟨i1, i2, i3⟩ := bla_spec f (x / 2) (by omega)
      have hz : x / 2 = 0 → Lib.bitLenAux f (x / 2) = 0 := fun h1 => by rw [h1]; exact bla_zero f
      generalize Lib.bitLenAux f (x / 2) = b at *
      refine ⟨?_, fun _ => ⟨by omega, ?_⟩, by omega⟩
      · rw [Nat.add_comm, Nat.pow_succ]; omega
      · rw [Nat.add_sub_cancel_left]
        by_cases h1 : x / 2 = 0
        · have : b = 0 := hz h1
          subst this
          simp; omega
        · obtain ⟨j1, j2⟩ := i2 h1
          have e : 2 ^ b = 2 ^ (b - 1) * 2 := by rw [← Nat.pow_succ]; congr 1; omega
          omega
theorem bl_spec {x : Nat} (h : x < 2 ^ 64) (h0 : x ≠ 0) : 1 ≤ Lib.bitLen x ∧ Lib.bitLen x ≤ 64 ∧ 2 ^ (Lib.bitLen x - 1) ≤ x ∧ x < 2 ^ (Lib.bitLen x - 1 + 1) := by
  obtain ⟨a, b, c⟩ := bla_spec 64 x h
  obtain ⟨d, e⟩ := b h0
  unfold Lib.bitLen
  refine ⟨d, c, e, ?_⟩
  rw [show Lib.bitLenAux 64 x - 1 + 1 = Lib.bitLenAux 64 x by omega]
  exact a
theorem bl_zero : Lib.bitLen 0 = 0 := bla_zero 64
theorem bl_unique {x b c : Nat} (h0 : 2 ^ b ≤ x) (h1 : x < 2 ^ (b + 1)) (k0 : 2 ^ c ≤ x) (k1 : x < 2 ^ (c + 1)) : b = c := by
  have a1 := (Nat.pow_lt_pow_iff_right (a := 2) (by decide)).1 (Nat.lt_of_le_of_lt h0 k1)
  have a2 := (Nat.pow_lt_pow_iff_right (a := 2) (by decide)).1 (Nat.lt_of_le_of_lt k0 h1)
  omega
theorem bits_some {x : Nat} (h : x < 2 ^ 64) : logs_Bits.f (x : Int) = some ((Lib.bitLen x : Nat) : Int) := by
  unfold logs_Bits.f bits_Len64.f
  rw [if_pos (by omega), if_pos (by omega), Int.toNat_natCast, bsome]
/-- A logarithm in 256ths. -/
def logN (x : Nat) : Nat := if x = 0 then 0 else 256 * (Lib.bitLen x - 1) + dD 8 (mant (Lib.bitLen x - 1) x)
theorem or_digit (n d : Nat) (hn : n < 2 ^ 40) (hd : d < 2) : Go.bits .or .i64 (wrap64 ((n : Int) * 2)) (wrap64 (d : Int)) = ((2 * n + d : Nat) : Int) := by
  have e1 : wrap64 ((n : Int) * 2) = ((2 * n : Nat) : Int) := by unfold wrap64; omega
  have e2 : wrap64 (d : Int) = (d : Int) := by unfold wrap64; omega
  have hj := (bits_nat .i64 62 (by decide) (by intro n h0 h1; rw [IntKind.wrap_i64]; omega) (2 * n) d (by omega) (by omega)).2
  rw [e1, e2, hj]
  congr 1
  have := Nat.two_pow_add_eq_or_of_lt (i := 1) (b := d) (by omega) n
  rw [Nat.pow_one] at this
  exact this.symm
theorem shr_digit (q d : Nat) (hd : d < 2) : shr .u64 (q : Int) (d : Int) = ((q / 2 ^ d : Nat) : Int) := by
  unfold shr
  have h : d = 0 ∨ d = 1 := by omega
  rcases h with rfl | rfl
  · simp
  · rfl
theorem l0_spec : ∀ (j k m n i : Nat), i + j = 8 → j < k → 2147483648 ≤ m → m < 4294967296 → n < 2 ^ (32 + i) → logs_Log.l0 k (m : Int) (n : Int) (i : Int) = some ((n * 2 ^ j + dD j m : Nat) : Int)
  | 0, k, m, n, i, hi, hk, _, _, _ => by
    obtain ⟨k, rfl⟩ : ∃ k', k = k' + 1 := ⟨k - 1, by omega⟩
    simp only [logs_Log.l0]
    rw [if_neg (by omega)]
    simp [dD]
  | j + 1, k, m, n, i, hi, hk, h0, h1, hn => by
    obtain ⟨k, rfl⟩ : ∃ k', k = k' + 1 := ⟨k - 1, by omega⟩
    obtain ⟨a, b, c⟩ := next_range h0 h1
    have hsq : IntKind.u64.wrap ((m : Int) * (m : Int)) = ((m * m : Nat) : Int) := by
      have := Nat.mul_le_mul (show m ≤ 4294967295 by omega) (show m ≤ 4294967295 by omega)
      rw [← Int.natCast_mul, IntKind.wrap_u64]
      omega
    have e2 : ((m * m : Nat) : Int) / 2147483648 = ((m * m / 2147483648 : Nat) : Int) := by omega
    have e3 : ((m * m / 2147483648 : Nat) : Int) / 4294967296 = ((m * m / 2147483648 / 4294967296 : Nat) : Int) := by omega
    have hi8 : i ≤ 8 := by omega
    have hn2 : ∀ d, d < 2 → 2 * n + d < 2 ^ (32 + (i + 1)) := by
      intro d hd
      rw [show 32 + (i + 1) = (32 + i) + 1 from rfl, Nat.pow_succ]
      generalize 2 ^ (32 + i) = P at hn
      omega
    have hn40 : n < 2 ^ 40 := Nat.lt_of_lt_of_le hn (Nat.pow_le_pow_right (by decide) (Nat.add_le_add_left hi8 32))
    clear hn
    have c8 : (i : Int) < 8 := by clear hn40 hn2; omega
    have cd : (0 : Int) ≤ ((m * m / 2147483648 / 4294967296 : Nat) : Int) := Int.natCast_nonneg _
    have e4 : wrap64 ((i : Int) + 1) = ((i + 1 : Nat) : Int) := by clear hn40 hn2; unfold wrap64; omega
    simp only [logs_Log.l0]
    rw [if_pos c8, hsq, e2, e3, if_pos cd, or_digit n _ hn40 c, shr_digit _ _ c, e4]
    have hij : i + 1 + j = 8 := by clear hn40 hn2; omega
    have hjk : j < k := by clear hn40 hn2; omega
    rw [l0_spec j k _ _ (i + 1) hij hjk a b (hn2 _ c)]
    congr 2
    rw [show dD (j + 1) m = (m * m / 2147483648 / 4294967296) * 2 ^ j + dD j (m * m / 2147483648 / 2 ^ (m * m / 2147483648 / 4294967296)) from rfl, Nat.pow_succ]
    generalize m * m / 2147483648 / 4294967296 = d
    generalize dD j _ = e
    rw [Nat.add_mul, ← Nat.add_assoc, Nat.mul_comm 2 n, Nat.mul_assoc, Nat.mul_comm 2 (2 ^ j)]
theorem log_some {x k : Nat} (h : x < 2 ^ 64) (hk : 9 ≤ k) : logs_Log.f k (x : Int) = some ((logN x : Nat) : Int) := by
  by_cases h0 : x = 0
  · subst h0; rfl
  · obtain ⟨a, b, c, d⟩ := bl_spec h h0
    unfold logs_Log.f
    rw [if_neg (by omega), bits_some h, bsome]
    obtain ⟨l, hl⟩ : ∃ l, Lib.bitLen x - 1 = l := ⟨_, rfl⟩
    have e1 : wrap64 (((Lib.bitLen x : Nat) : Int) - 1) = (l : Int) := by unfold wrap64; omega
    have e2 : wrap64 (63 - (l : Int)) = ((63 - l : Nat) : Int) := by unfold wrap64; omega
    have e3 : shl .u64 (x : Int) ((63 - l : Nat) : Int) = ((x * 2 ^ (63 - l) : Nat) : Int) := by
      unfold shl
      have hmin : min ((63 - l : Nat) : Int).toNat IntKind.u64.bits = 63 - l := by
        rw [Int.toNat_natCast]
        exact Nat.min_eq_left (by simp [IntKind.bits]; omega)
      have hlt : x * 2 ^ (63 - l) < 18446744073709551616 := by
        rw [hl] at d
        have := Nat.mul_lt_mul_of_pos_right d (Nat.two_pow_pos (63 - l))
        rw [← Nat.pow_add, show l + 1 + (63 - l) = 64 by omega] at this
        exact this
      rw [hmin, show (2 : Int) ^ (63 - l) = ((2 ^ (63 - l) : Nat) : Int) by simp, ← Int.natCast_mul, IntKind.wrap_u64]
      omega
    rw [e1, e2, if_pos (by omega), e3]
    have e4 : ((x * 2 ^ (63 - l) : Nat) : Int) / 4294967296 = ((mant l x : Nat) : Int) := by unfold mant; omega
    rw [e4]
    rw [hl] at c d
    obtain ⟨m0, m1⟩ := mant_range (b := l) (by omega) c d
    rw [show (0 : Int) = ((0 : Nat) : Int) from rfl, l0_spec 8 k _ _ 0 rfl (by omega) m0 m1 (by omega)]
    unfold logN
    rw [if_neg h0, hl, Nat.mul_comm]
theorem logN_mono {x y : Nat} (h : x ≤ y) (hy : y < 2 ^ 64) : logN x ≤ logN y := by
  by_cases h0 : x = 0
  · subst h0; simp [logN]
  · obtain ⟨a, b, c, d⟩ := bl_spec (x := x) (by omega) h0
    obtain ⟨a2, b2, c2, d2⟩ := bl_spec hy (by omega)
    have hp63 : Lib.bitLen x - 1 ≤ 63 := by omega
    have hq63 : Lib.bitLen y - 1 ≤ 63 := by omega
    unfold logN
    rw [if_neg h0, if_neg (by omega)]
    generalize Lib.bitLen x - 1 = p at *
    generalize Lib.bitLen y - 1 = q at *
    obtain ⟨m0, m1⟩ := mant_range (b := p) hp63 c d
    obtain ⟨n0, n1⟩ := mant_range (b := q) hq63 c2 d2
    have hpq : p < q + 1 := (Nat.pow_lt_pow_iff_right (a := 2) (by decide)).1 (Nat.lt_of_le_of_lt (Nat.le_trans c h) d2)
    have l1 := dD_lt 8 m0 m1
    by_cases e : p = q
    · subst e
      have := dD_mono 8 m0 (mant_mono (b := p) h) n1
      omega
    · omega

/-! ### Logarithms of a row -/
def logV (x : Int) : Int := ((logN ((if x < 0 then 0 else x).toNat + 1) : Nat) : Int)
def logsL (l : List Int) : List Int := l.map logV
theorem logsL_length (l : List Int) : (logsL l).length = l.length := by simp [logsL]
theorem logsL_getD (l : List Int) (i : Nat) (h : i < l.length) : (logsL l).getD i 0 = logV (l.getD i 0) := by
  simp [logsL, List.getD_eq_getElem?_getD, List.getElem?_map, List.getElem?_eq_getElem h]
theorem logV_arg {x : Int} (h0 : -9223372036854775808 ≤ x) (h1 : x ≤ 9223372036854775807) : IntKind.u64.wrap (IntKind.u64.wrap (mx x 0) + 1) = (((if x < 0 then 0 else x).toNat + 1 : Nat) : Int) ∧ (if x < 0 then 0 else x).toNat + 1 < 2 ^ 64 := by
  have e : mx x 0 = if x < 0 then 0 else x := by unfold mx; (first | rfl | (split <;> split <;> omega))
  rw [e, IntKind.wrap_u64, IntKind.wrap_u64]
  split <;> omega
theorem dlogs_l0 (l : List Int) (hw : In64 l) (hl : l.length ≤ 1000) : ∀ e k i (out : List Int), i + e = l.length → e + 12 ≤ k → out.length = l.length → (∀ j, j < i → out.getD j 0 = logV (l.getD j 0)) →
    dct_Logs.l0 k out l (l.length : Int) (i : Int) = some (logsL l) := by
  intro e
  induction e with
  | zero =>
    intro k i out hi hk ho hd
    obtain ⟨k, rfl⟩ : ∃ j, k = j + 1 := ⟨k - 1, by omega⟩
    obtain rfl : i = l.length := by omega
    rw [dct_Logs.l0, if_neg (by omega)]
    congr 1
    exact row_ext (by rw [ho, logsL_length]) (fun j hj => by rw [ho] at hj; rw [hd j hj, logsL_getD l j hj])
  | succ e ih =>
    intro k i out hi hk ho hd
    obtain ⟨k, rfl⟩ : ∃ j, k = j + 1 := ⟨k - 1, by omega⟩
    have hlt : i < l.length := by omega
    have hk9 : 9 ≤ k := by omega
    have c1 : (i : Int) < (l.length : Int) := by omega
    have c2 : (0 : Int) ≤ (i : Int) := by omega
    have c3 : (i : Int) < (out.length : Int) := by rw [ho]; exact c1
    have hw1 : wrap64 ((i : Int) + 1) = ((i + 1 : Nat) : Int) := by unfold wrap64; omega
    have hx := hw.getD i
    have hx0 : -9223372036854775808 ≤ l.getD i 0 := by rw [← hx]; exact W_lo _
    have hx1 : l.getD i 0 ≤ 9223372036854775807 := by rw [← hx]; exact W_hi _
    have hgo := ih k (i + 1) (out.set i (logV (l.getD i 0))) (by omega) (by omega) (by rw [List.length_set, ho]) (fun j hj => by
      by_cases h : j = i
      · subst h; rw [List.getD_eq_getElem?_getD, List.getElem?_set_self (by omega)]; rfl
      · have := hd j (by omega)
        rw [List.getD_eq_getElem?_getD] at this ⊢
        rw [List.getElem?_set_ne (fun h' => h h'.symm)]; exact this)
    obtain ⟨a1, a2⟩ := logV_arg hx0 hx1
    have hr : rd l (i : Int) = l.getD i 0 := by unfold rd; rw [Int.toNat_natCast]
    rw [dct_Logs.l0, if_pos c1, if_pos c2, if_pos c1, hr, a1, log_some a2 hk9, bsome, if_pos c3, Int.toNat_natCast, hw1]
    exact hgo
theorem dlogs_f (l : List Int) (hw : In64 l) (hl : l.length ≤ 1000) : dct_Logs.f 1100 l = some (logsL l) := by
  unfold dct_Logs.f
  rw [if_pos (by omega), if_pos (by omega), Int.toNat_natCast]
  exact dlogs_l0 l hw hl l.length 1100 0 (List.replicate l.length 0) (by omega) (by omega) (by simp) (fun j hj => by omega)
theorem logV_le {x : Int} (h0 : -9223372036854775808 ≤ x) (h1 : x ≤ 9223372036854775807) : 0 ≤ logV x ∧ logV x < 16384 ∧ (x ≤ 0 → logV x = 0) ∧ (0 < x → logV x ≠ 0) := by
  unfold logV
  have m63 : logN (2 ^ 63) = 16128 := by decide +kernel
  have m2 : logN 2 = 256 := by decide +kernel
  have m1 : logN 1 = 0 := by decide +kernel
  refine ⟨by omega, ?_, fun h => ?_, fun h => ?_⟩
  · have hle : (if x < 0 then 0 else x).toNat + 1 ≤ 2 ^ 63 := by split <;> omega
    have := logN_mono hle (by decide)
    rw [m63] at this
    generalize logN ((if x < 0 then 0 else x).toNat + 1) = q at *
    omega
  · have : (if x < 0 then 0 else x).toNat + 1 = 1 := by split <;> omega
    rw [this, m1]; rfl
  · have h2 : 2 ≤ (if x < 0 then 0 else x).toNat + 1 := by split <;> omega
    have h3 : (if x < 0 then 0 else x).toNat + 1 < 2 ^ 64 := by split <;> omega
    have := logN_mono h2 h3
    rw [m2] at this
    generalize logN ((if x < 0 then 0 else x).toNat + 1) = q at *
    omega
theorem logV_mono {x y : Int} (h : x ≤ y) (h1 : y ≤ 9223372036854775807) : logV x ≤ logV y := by
  unfold logV
  have h2 : (if x < 0 then 0 else x).toNat + 1 ≤ (if y < 0 then 0 else y).toNat + 1 := by split <;> split <;> omega
  have h3 : (if y < 0 then 0 else y).toNat + 1 < 2 ^ 64 := by split <;> omega
  have := logN_mono h2 h3
  omega

theorem awake_d {w0 : World} (W : World) (hB : Below w0.heap.size w0 W) (hG : GlobA W) : Calls Tryd.prog 14 #[] W fun e w' => e = .returned (.bool true) ∧ Aside0 (Below w0.heap.size w0 w') ∧ Aside0 (Below W.heap.size W w') :=
  (earshotlaw12_awake.calls 30 true W hG (by decide +kernel)).mono fun e w' ⟨a, b⟩ => ⟨a, ⟨below_step hB b⟩, ⟨b⟩⟩
theorem logs_d {w0 : World} (A : Option Addr) (n c : Nat) (l : List Int) (W : World) (hB : Below w0.heap.size w0 W) (hl : l.length = n) (hC : (Kd.int .i64).C W A n l) (hc : n ≤ c) (hn : n ≤ 1000) (hw : In64 l) :
    Calls Tryd.prog 17 #[.slice A n c] W (CRes w0 W n (logsL l)) := by
  subst hl
  exact (dct_Logs.calls 1100 A c l _ W hC hc (dlogs_f l hw hn)).mono fun e w' ⟨v, he, hR, hb⟩ => by subst he; exact cres_of hB hR (logsL_length _) hb
theorem in64_at {l : List Int} (h : In64 l) (i : Nat) : -9223372036854775808 ≤ l.getD i 0 ∧ l.getD i 0 ≤ 9223372036854775807 := by
  rw [← h.getD i]; exact ⟨W_lo _, W_hi _⟩
/-- What the law asks of two numbers and their logarithms. -/
theorem log_one {x : Int} (h0 : -9223372036854775808 ≤ x) (h1 : x ≤ 9223372036854775807) : decide (logV x < 0) = false ∧ decide (16384 ≤ logV x) = false ∧ (decide (x ≤ 0) = true ∧ logV x = 0 ∨ decide (x ≤ 0) = false ∧ (logV x == 0) = false) := by
  obtain ⟨a, b, c, d⟩ := logV_le h0 h1
  refine ⟨decide_eq_false (by omega), decide_eq_false (by omega), ?_⟩
  by_cases h : x ≤ 0
  · exact .inl ⟨decide_eq_true h, c h⟩
  · exact .inr ⟨decide_eq_false h, by simpa using d (by omega)⟩
theorem log_two {x y : Int} (hx : -9223372036854775808 ≤ x ∧ x ≤ 9223372036854775807) (hy : -9223372036854775808 ≤ y ∧ y ≤ 9223372036854775807) :
    (decide (x ≤ y) = true ∧ decide (logV y < logV x) = false ∧ decide (y ≤ x) = false) ∨ (decide (x ≤ y) = true ∧ decide (logV y < logV x) = false ∧ decide (y ≤ x) = true ∧ decide (logV x < logV y) = false) ∨ (decide (x ≤ y) = false ∧ decide (y ≤ x) = true ∧ decide (logV x < logV y) = false) := by
  rcases Int.lt_trichotomy x y with h | h | h
  · have := logV_mono (Int.le_of_lt h) hy.2
    exact .inl ⟨decide_eq_true (by omega), decide_eq_false (by omega), decide_eq_false (by omega)⟩
  · subst h
    exact .inr (.inl ⟨decide_eq_true (by omega), decide_eq_false (by omega), decide_eq_true (by omega), decide_eq_false (by omega)⟩)
  · have := logV_mono (Int.le_of_lt h) hx.2
    exact .inr (.inr ⟨decide_eq_false (by omega), decide_eq_true (by omega), decide_eq_false (by omega)⟩)
def earshotlaw12_DctLogs.f (l0 : List Int) : Option (Bool) := if decide (l0.length ≤ 4000000000000000000) && l0.all (fun x => decide (-9223372036854775808 ≤ x) && decide (x ≤ 9223372036854775807)) then some true else none
set_option maxHeartbeats 32000000 in
set_option maxRecDepth 100000 in
theorem logs_go1 (A0 : Option Addr) (n c0 : Nat) (l : List Int) (w : World) (hG : GlobA w) (hl : l.length = 20) (hC : (Kd.int .i64).C w A0 20 l) (hnc : n ≤ c0) (hn : 20 < n) (hv : In64 l) (hm : n ≤ 4000000000000000000) :
    Calls Tryd.prog 4 #[.slice A0 n c0] w fun e w' => e = .returned (.bool true) ∧ Below w.heap.size w w' := by
  have HC := Aside0.mk hC
  have HL := Aside0.mk hl
  have HV := Aside0.mk hv
  have HG0 := Aside0.mk hG
  have HLL : Aside0 ((logsL l).length = 20) := ⟨by rw [logsL_length, hl]⟩
  have HLV : Aside0 (∀ i, i < 20 → (logsL l).getD i 0 = logV (l.getD i 0)) := ⟨fun i hi => logsL_getD l i (by rw [hl]; exact hi)⟩
  have hqc : 20 ≤ c0 := by omega
  clear hC hl hv hG
  go_enter Tryd.func4, Tryd.ntmps4
  go_wp2_with (first
    | (go_at_call 14; (with_reducible refine (awake_d (w0 := w) _ (Below.refl _ _) HG0.out).mono ?_); rintro e wk0 ⟨rfl, HB, Sm⟩; clear Sm)
    | (go_at_call 17; (with_reducible refine (logs_d (w0 := w) A0 20 c0 l _ HB.out HL.out (Kd.C_below HC.out HB.out) hqc (by omega) HV.out).mono ?_); rintro e wk1 ⟨AL, cL, rfl, lL, CL0, HB1, Sm⟩; clear Sm HB))
  go_loopw [5] (fun v5 wr => ∃ (i : Nat), i ≤ 20 ∧ v5 = .int .i64 (i : Int) ∧ Aside0 ((Kd.int .i64).C wr AL 20 (logsL l)) ∧ Aside0 (Below w.heap.size w wr)) (fun v _ => 20 - (intOf v).toNat)
  case atStart => exact ⟨0, by omega, rfl, CL0, HB1⟩
  case round =>
    clear CL0 HB1
    obtain ⟨i, hi, rfl, CL, HB⟩ := hrel
    by_cases hlt : i < 20
    · have hC1 := Kd.C_below HC.out HB.out
      obtain ⟨ad, rfl, hcs1⟩ := sp_ad hC1 (by omega)
      obtain ⟨adl, rfl, hcs2⟩ := sp_ad CL.out (by omega)
      have k0 := sp_cell hC1 i hlt
      have k1 := sp_cell CL.out i hlt
      have hr := in64_at HV.out i
      rw [HLV.out i hlt] at k1
      obtain ⟨x, hx⟩ : ∃ x, l.getD i 0 = x := ⟨_, rfl⟩
      rw [hx] at k0 k1 hr
      obtain ⟨o1, o2, o3⟩ := log_one hr.1 hr.2
      obtain ⟨y, hy⟩ : ∃ y, logV x = y := ⟨_, rfl⟩
      rw [hy] at k1 o1 o2 o3
      have j0 : (0 : Int) ≤ (i : Int) := by omega
      have j1 : (i : Int) < 20 := by omega
      have HX := Aside0.mk hx
      have HY := Aside0.mk hy
      have HR := Aside0.mk hr
      clear hC1 hcs1 hcs2 hx hy hr
      rcases o3 with ⟨o3, rfl⟩ | ⟨o3, o4⟩
      all_goals
        go_wp2
        go_quiet (fail)
        go_wp2
        clear k0 k1 o1 o2 o3
        go_loopw [6] (fun v6 wr2 => ∃ (j : Nat), j ≤ i ∧ v6 = .int .i64 (j : Int) ∧ Aside0 ((Kd.int .i64).C wr2 (some adl) 20 (logsL l)) ∧ Aside0 (Below w.heap.size w wr2)) (fun v _ => i - (intOf v).toNat)
        case atStart => exact ⟨0, by omega, rfl, ⟨by repeat (first | exact CL.out | refine Kd.C_drewN ?_ _ | refine Kd.C_drew ?_)⟩, ⟨by repeat (first | exact HB.out | apply pw_below_drewN | apply below_drew1)⟩⟩
        case round =>
          clear CL HB
          obtain ⟨j, hj, rfl, CL, HB⟩ := hrel
          by_cases hjt : j < i
          · have hC1 := Kd.C_below HC.out HB.out
            have k0 := sp_cell hC1 i hlt
            have k1 := sp_cell CL.out i hlt
            have k2 := sp_cell hC1 j (by omega)
            have k3 := sp_cell CL.out j (by omega)
            rw [HLV.out i hlt] at k1
            rw [HLV.out j (by omega)] at k3
            have ht := log_two (in64_at HV.out i) (in64_at HV.out j)
            obtain ⟨z, hz⟩ : ∃ z, l.getD j 0 = z := ⟨_, rfl⟩
            rw [hz] at k2 k3 ht
            rw [HX.out] at k0 k1 ht
            rw [HY.out] at k1 ht
            obtain ⟨u, hu⟩ : ∃ u, logV z = u := ⟨_, rfl⟩
            rw [hu] at k3 ht
            have j2 : (0 : Int) ≤ (j : Int) := by omega
            have j3 : (j : Int) < 20 := by omega
            clear hC1 hz hu
            rcases ht with ⟨t1, t2, t3⟩ | ⟨t1, t2, t3, t4⟩ | ⟨t1, t2, t3⟩
            all_goals
              go_wp2
              go_quiet (fail)
              go_wp2
              go_roundw
              case rel => exact ⟨j + 1, by omega, by go_num, ⟨by repeat (first | exact CL.out | refine Kd.C_drewN ?_ _ | refine Kd.C_drew ?_)⟩, ⟨by repeat (first | exact HB.out | apply pw_below_drewN | apply below_drew1)⟩⟩
              case measure => simp [intOf]; omega
          · obtain rfl : i = j := by omega
            go_wp2
            go_roundw
            case rel => exact ⟨i + 1, by omega, by go_num, CL, HB⟩
            case measure => simp [intOf]; omega
    · obtain rfl : i = 20 := by omega
      go_wp2
      go_ret
      exact ⟨rfl, HB.out⟩
set_option maxHeartbeats 32000000 in
set_option maxRecDepth 100000 in
theorem logs_go2 (A0 : Option Addr) (n c0 : Nat) (l : List Int) (w : World) (hG : GlobA w) (hl : l.length = n) (hC : (Kd.int .i64).C w A0 n l) (hnc : n ≤ c0) (hn : n ≤ 20) (hv : In64 l) (hm : n ≤ 4000000000000000000) :
    Calls Tryd.prog 4 #[.slice A0 n c0] w fun e w' => e = .returned (.bool true) ∧ Below w.heap.size w w' := by
  have HC := Aside0.mk hC
  have HL := Aside0.mk hl
  have HV := Aside0.mk hv
  have HG0 := Aside0.mk hG
  have HLL : Aside0 ((logsL l).length = n) := ⟨by rw [logsL_length, hl]⟩
  have HLV : Aside0 (∀ i, i < n → (logsL l).getD i 0 = logV (l.getD i 0)) := ⟨fun i hi => logsL_getD l i (by rw [hl]; exact hi)⟩
  have hqc : n ≤ c0 := by omega
  clear hC hl hv hG
  go_enter Tryd.func4, Tryd.ntmps4
  go_wp2_with (first
    | (go_at_call 14; (with_reducible refine (awake_d (w0 := w) _ (Below.refl _ _) HG0.out).mono ?_); rintro e wk0 ⟨rfl, HB, Sm⟩; clear Sm)
    | (go_at_call 17; (with_reducible refine (logs_d (w0 := w) A0 n c0 l _ HB.out HL.out (Kd.C_below HC.out HB.out) hqc (by omega) HV.out).mono ?_); rintro e wk1 ⟨AL, cL, rfl, lL, CL0, HB1, Sm⟩; clear Sm HB))
  go_loopw [5] (fun v5 wr => ∃ (i : Nat), i ≤ n ∧ v5 = .int .i64 (i : Int) ∧ Aside0 ((Kd.int .i64).C wr AL n (logsL l)) ∧ Aside0 (Below w.heap.size w wr)) (fun v _ => n - (intOf v).toNat)
  case atStart => exact ⟨0, by omega, rfl, CL0, HB1⟩
  case round =>
    clear CL0 HB1
    obtain ⟨i, hi, rfl, CL, HB⟩ := hrel
    by_cases hlt : i < n
    · have hC1 := Kd.C_below HC.out HB.out
      obtain ⟨ad, rfl, hcs1⟩ := sp_ad hC1 (by omega)
      obtain ⟨adl, rfl, hcs2⟩ := sp_ad CL.out (by omega)
      have k0 := sp_cell hC1 i hlt
      have k1 := sp_cell CL.out i hlt
      have hr := in64_at HV.out i
      rw [HLV.out i hlt] at k1
      obtain ⟨x, hx⟩ : ∃ x, l.getD i 0 = x := ⟨_, rfl⟩
      rw [hx] at k0 k1 hr
      obtain ⟨o1, o2, o3⟩ := log_one hr.1 hr.2
      obtain ⟨y, hy⟩ : ∃ y, logV x = y := ⟨_, rfl⟩
      rw [hy] at k1 o1 o2 o3
      have j0 : (0 : Int) ≤ (i : Int) := by omega
      have j1 : (i : Int) < (n : Int) := by omega
      have HX := Aside0.mk hx
      have HY := Aside0.mk hy
      have HR := Aside0.mk hr
      clear hC1 hcs1 hcs2 hx hy hr
      rcases o3 with ⟨o3, rfl⟩ | ⟨o3, o4⟩
      all_goals
        go_wp2
        go_quiet (fail)
        go_wp2
        clear k0 k1 o1 o2 o3
        go_loopw [6] (fun v6 wr2 => ∃ (j : Nat), j ≤ i ∧ v6 = .int .i64 (j : Int) ∧ Aside0 ((Kd.int .i64).C wr2 (some adl) n (logsL l)) ∧ Aside0 (Below w.heap.size w wr2)) (fun v _ => i - (intOf v).toNat)
        case atStart => exact ⟨0, by omega, rfl, ⟨by repeat (first | exact CL.out | refine Kd.C_drewN ?_ _ | refine Kd.C_drew ?_)⟩, ⟨by repeat (first | exact HB.out | apply pw_below_drewN | apply below_drew1)⟩⟩
        case round =>
          clear CL HB
          obtain ⟨j, hj, rfl, CL, HB⟩ := hrel
          by_cases hjt : j < i
          · have hC1 := Kd.C_below HC.out HB.out
            have k0 := sp_cell hC1 i hlt
            have k1 := sp_cell CL.out i hlt
            have k2 := sp_cell hC1 j (by omega)
            have k3 := sp_cell CL.out j (by omega)
            rw [HLV.out i hlt] at k1
            rw [HLV.out j (by omega)] at k3
            have ht := log_two (in64_at HV.out i) (in64_at HV.out j)
            obtain ⟨z, hz⟩ : ∃ z, l.getD j 0 = z := ⟨_, rfl⟩
            rw [hz] at k2 k3 ht
            rw [HX.out] at k0 k1 ht
            rw [HY.out] at k1 ht
            obtain ⟨u, hu⟩ : ∃ u, logV z = u := ⟨_, rfl⟩
            rw [hu] at k3 ht
            have j2 : (0 : Int) ≤ (j : Int) := by omega
            have j3 : (j : Int) < (n : Int) := by omega
            clear hC1 hz hu
            rcases ht with ⟨t1, t2, t3⟩ | ⟨t1, t2, t3, t4⟩ | ⟨t1, t2, t3⟩
            all_goals
              go_wp2
              go_quiet (fail)
              go_wp2
              go_roundw
              case rel => exact ⟨j + 1, by omega, by go_num, ⟨by repeat (first | exact CL.out | refine Kd.C_drewN ?_ _ | refine Kd.C_drew ?_)⟩, ⟨by repeat (first | exact HB.out | apply pw_below_drewN | apply below_drew1)⟩⟩
              case measure => simp [intOf]; omega
          · obtain rfl : i = j := by omega
            go_wp2
            go_roundw
            case rel => exact ⟨i + 1, by omega, by go_num, CL, HB⟩
            case measure => simp [intOf]; omega
    · obtain rfl : n = i := by omega
      go_wp2
      go_ret
      exact ⟨rfl, HB.out⟩
theorem earshotlaw12_DctLogs.calls (A0 : Option Addr) (c0 : Nat) (l0 : List Int) (r : Bool) (w : World) (hG : GlobA w) (hr0 : Kd.C (Kd.int .i64) w A0 l0.length l0) (hc0 : l0.length ≤ c0) (h : earshotlaw12_DctLogs.f l0 = some r) :
    Calls Tryd.prog 4 #[.slice A0 l0.length c0] w fun e w' => e = .returned (.bool r) ∧ Below w.heap.size w w' := by
  unfold earshotlaw12_DctLogs.f at h
  split at h
  case isFalse => cases h
  rename_i hz
  obtain rfl := Option.some.inj h
  simp only [Bool.and_eq_true, decide_eq_true_eq, List.all_eq_true] at hz
  by_cases hl : 20 < l0.length
  · have hT := Kd.C_take hr0 (m := 20) (by omega)
    have e : (l0.take 20).length = 20 := by rw [List.length_take]; omega
    rw [e] at hT
    exact logs_go1 A0 l0.length c0 _ w hG e hT hc0 hl (fun x hx => hz.2 x (List.mem_of_mem_take hx)) hz.1
  · exact logs_go2 A0 l0.length c0 l0 w hG rfl hr0 hc0 (by omega) (fun x hx => hz.2 x hx) hz.1

/-- THE ONE PURE STATEMENT of earshotlaw12_DctLogs: yours. -/
def earshotlaw12_DctLogs.Pure : Prop := ∀ (l0 : List Int), l0.length ≤ maxLen → l0.length * 8 ≤ 140737488351232 → (∀ x ∈ l0, (Lit.int .i64 x).wf = true) → earshotlaw12_DctLogs.f l0 = some true
theorem earshotlaw12_DctLogs.walk (P : earshotlaw12_DctLogs.Pure) (a0 : Option Addr) (len0 cap0 : Nat) (z0 : List Int) (w : World) (w0 : (a0 = none ∧ len0 = 0 ∧ cap0 = 0 ∧ z0 = []) ∨ ∃ x, a0 = some x ∧ len0 ≤ cap0 ∧ cap0 ≤ maxLen ∧ z0.length = cap0 ∧ (∀ i, i < z0.length → w.cell? (x.add i) = some (.int .i64 (z0.getD i 0))) ∧ ∀ n ∈ z0, (Lit.int .i64 n).wf = true) (y0 : len0 * 8 ≤ 140737488351232) (hG : GlobA w) :
    Calls Tryd.prog 4 #[.slice a0 len0 cap0] w fun e w' => e = .returned (.bool true) ∧ Below w.heap.size w w' := by
  obtain ⟨l0, rfl, hr0, hm0, hw0, hc0⟩ := ReadsInt.ofRowC w0
  have h := P l0 hm0 y0 hw0
  refine (earshotlaw12_DctLogs.calls _ _ l0 true w hG (Kd.C_of_reads (d := (0 : Int)) (h1 := fun _ => rfl) hr0) hc0 h).mono ?_
  rintro e w' ⟨rfl, hd⟩
  exact ⟨rfl, hd⟩

end Go.Proofs.YtmhacdnnnebpdaaDoor.PDctLogs
