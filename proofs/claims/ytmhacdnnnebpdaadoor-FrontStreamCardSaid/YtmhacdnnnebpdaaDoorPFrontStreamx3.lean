-- Written by a program of this work (wip/tools) for this claim; Lean checks it.
import Derived.Test.YtmhacdnnnebpdaaDoorPFrontStreamx2
namespace Go.Proofs.YtmhacdnnnebpdaaDoor.PFrontStream
open Go.RowKit Go.Proofs.YtmhacdnnnebpdaaDoorW.PrintWords Go.Proofs.YtmhacdnnnebpdaaDoorW.PrintLast Go.Proofs.YtmhacdnnnebpdaaDoorW.PrintMore
attribute [local go_sem] max2_int min2_int max_two min_two max_three min_three max_four min_four   -- for this text's walks alone
set_option linter.unusedVariables false
set_option linter.unusedSimpArgs false
def dctV (l : List Int) (k : Nat) : Int := divR (dS (dctRow k l.length) l l.length) 16384
def dctL (c : Nat) (l : List Int) : List Int := (List.range c).map (dctV l)
def dctMay (c : Int) (n : Nat) : Bool := mayB n && decide (1 ≤ c) && decide (c ≤ (n : Int))
def dctF (c : Int) (l : List Int) : List Int := if dctMay c l.length = true then dctL c.toNat l else []
theorem dct_half {x : Int} (h : -9223372036854775808 ≤ x ∧ x ≤ 9223372036854775807) : round_Half.f x 14 = some (divR x 16384) := by
 unfold round_Half.f round_Div.f
 have e : shl .i64 1 14 = 16384 := by decide
 rw [if_neg (by decide), if_neg (by decide), if_pos (by decide), e, if_pos (i64b_mk h.1 h.2), if_pos (by decide)]
 rfl
def dct_Dct.f (a0 : Int) (l1 : List Int) : Option (List Int) := if decide (l1.length ≤ 1000000) then some (dctF a0 l1) else none
theorem row_c (k n : Nat) (W : World) (hG : GlobA W) (hm : mayB n = true) (hk : k < n) :
  Calls Tryd.prog 20 #[.int .i64 (k : Int), .int .i64 (n : Int)] W fun e w' => ∃ A c, e = .returned (.slice A n c) ∧ n ≤ c ∧ Aside0 ((Kd.int .i64).C w' A n (dctRow k n)) ∧ Aside0 (Below W.heap.size W w') :=
 (dct_Row.calls _ _ _ W hG (show dct_Row.f (k : Int) (n : Int) = some (dctRow k n) by unfold dct_Row.f; rw [rowF_yes hm hk])).mono fun e w' ⟨v, he, hR, hb⟩ => by
  obtain ⟨A, c, hv, h1, h2⟩ := Kd.R_reads hR
  rw [dctRow_length] at hv h1 h2
  exact ⟨A, c, by rw [he, hv], h1, ⟨h2⟩, ⟨hb⟩⟩
theorem half_c (x r : Int) (W : World) (h : -9223372036854775808 ≤ x ∧ x ≤ 9223372036854775807) (hr : divR x 16384 = r) :
  Calls Tryd.prog 47 #[.int .i64 x, .int .i64 14] W fun e w' => e = .returned (.int .i64 r) ∧ Aside0 (Below W.heap.size W w') := by
 subst hr
 exact (round_Half.calls _ _ _ W (dct_half h)).mono fun e w' ⟨a, b⟩ => ⟨a, ⟨b⟩⟩
set_option maxHeartbeats 8000000 in
theorem coef_c (k g n c : Nat) (A : Option Addr) (l : List Int) (w : World) (hG : GlobA w) (hg : w.heap[g]? = some (.cells #[.slice A n c] 22 (0, 0))) (hl : l.length = n) (hC : (Kd.int .i64).C w A n l) (hm : mayB n = true) (hk : k < n) :
  Calls Tryd.prog 46 #[.int .i64 (k : Int), .pointer (some ⟨g, 0, none⟩)] w fun e w' => e = .returned (.int .i64 (dctV l k)) ∧ Aside0 (Below w.heap.size w w') := by
 have hc := cell_of_one hg
 have HG := Aside0.mk hG
 have HBX := Aside0.mk hg
 have HC := Aside0.mk hC
 have HL := Aside0.mk hl
 have HM := Aside0.mk hm
 have hn16 : n ≤ 16 := by rcases mayB_cases hm with rfl | rfl | rfl <;> omega
 have hB0 : Aside0 (Below w.heap.size w w) := ⟨Below.refl _ _⟩
 clear hG hg hC hl hm
 go_enter Tryd.func46, Tryd.ntmps46
 go_wp2_with (go_at_call 20; (with_reducible refine (row_c k n _ HG.out HM.out hk).mono ?_); rintro e w1 ⟨Ar, cr, rfl, hcr, CR0, HB0⟩)
 go_loopw [4, 12] (fun v4 v12 wr => ∃ (j : Nat), j ≤ n ∧ v12 = .int .i64 (j : Int) ∧ v4 = .int .i64 (dS (dctRow k n) l j) ∧ Aside0 ((Kd.int .i64).C wr Ar n (dctRow k n)) ∧ Aside0 (Below w.heap.size w wr)) (fun _ v _ => n - (intOf v).toNat)
 case atStart => exact ⟨0, by omega, rfl, rfl, CR0, HB0⟩
 case round =>
  clear CR0 HB0 hc
  obtain ⟨j, hj, rfl, rfl, CR, HB⟩ := hrel
  have hc := cell_of_one (blk_grown HBX.out (grown_of_below HB.out none) (by simp))
  by_cases hlt : j < n
  ·
   obtain ⟨adr, rfl, hcs⟩ := sp_ad CR.out (by omega)
   have hC1 := Kd.C_below HC.out HB.out
   obtain ⟨ad, rfl, hcs1⟩ := sp_ad hC1 (by omega)
   have k0 := sp_cell CR.out j hlt
   have k1 := sp_cell hC1 j hlt
   obtain ⟨x, hx⟩ : ∃ x, (dctRow k n).getD j 0 = x := ⟨_, rfl⟩
   obtain ⟨y, hy⟩ : ∃ y, l.getD j 0 = y := ⟨_, rfl⟩
   obtain ⟨s, hs⟩ : ∃ s, dS (dctRow k n) l j = s := ⟨_, rfl⟩
   have HN : Aside0 (dS (dctRow k n) l (j + 1) = wrap64 (s + wrap64 (x * y))) := ⟨by rw [dS, hs, hx, hy]⟩
   rw [hx] at k0
   rw [hy] at k1
   rw [hs]
   clear hcs hcs1 hC1 hx hy hs
   go_wp2
   go_roundw
   case rel => exact ⟨j + 1, by omega, by go_num, by rw [HN.out], CR, HB⟩
   case measure => simp [intOf]; omega
  ·
   obtain rfl : n = j := by omega
   obtain ⟨s, hs⟩ : ∃ s, dS (dctRow k n) l n = s := ⟨_, rfl⟩
   have hb := dS_in (dctRow k n) l n
   obtain ⟨z, hz⟩ : ∃ z, divR s 16384 = z := ⟨_, rfl⟩
   have HV : Aside0 (dctV l k = z) := ⟨by unfold dctV; rw [HL.out, hs, hz]⟩
   rw [hs] at hb ⊢
   have HI := Aside0.mk hb
   have HZ := Aside0.mk hz
   clear hs hb hz
   go_wp2_with (go_at_call 47; (with_reducible refine (half_c s z _ HI.out HZ.out).mono ?_); rintro e w2 ⟨rfl, HB2⟩)
   go_ret
   exact ⟨by rw [HV.out]; rfl, ⟨below_then HB.out HB.out.size HB2.out⟩⟩
set_option maxHeartbeats 8000000 in
theorem dct_yes (K n c1 : Nat) (A : Option Addr) (l : List Int) (w : World) (hG : GlobA w) (hl : l.length = n) (hC : (Kd.int .i64).C w A n l) (hm : mayB n = true) (h1 : 1 ≤ K) (hK : K ≤ n) :
  Calls Tryd.prog 21 #[.int .i64 (K : Int), .slice A n c1] w fun e w' => ∃ v0_ : Value, e = .returned v0_ ∧ Kd.R (Kd.int .i64) 3 w' w.heap.size (fun _ => True) v0_ (dctL K l) ∧ Below w.heap.size w w' := by
 have hmf : ∀ (fn : Fn) (first cap : Array Value) (w : World), (Instr.makeFunc fn first cap).run Tryd.prog w = .ok (.func fn first cap) w := fun _ _ _ _ => rfl
 have hn16 : n ≤ 16 := by rcases mayB_cases hm with rfl | rfl | rfl <;> omega
 have hd1 : decide ((K : Int) < 1) = false := decide_eq_false (by omega)
 have hd2 : decide (n < K) = false := decide_eq_false (by omega)
 have hd3 : decide ((n : Int) < (K : Int)) = false := decide_eq_false (by omega)
 have hmk := print_make 22 3 .i64 8 Tryd.underlying22 turn_info (by decide) K (by omega)
 have HMY := Aside0.mk (by rw [dct_may_f, Int.toNat_natCast, hm] : dct_may.f (n : Int) = some true)
 have HG := Aside0.mk hG
 have HC := Aside0.mk hC
 have HL := Aside0.mk hl
 have HM := Aside0.mk hm
 have HLN : Aside0 ((dctL K l).length = K) := ⟨by simp [dctL]⟩
 have HLV : Aside0 (∀ j, j < K → (dctL K l).getD j 0 = dctV l j) := ⟨fun j hj => getD_map_range K (dctV l) j hj⟩
 clear hG hC hl hm
 go_enter Tryd.func21, Tryd.ntmps21
 go_wp2_with (go_at_call 44; (with_reducible refine (dct_may.calls _ _ _ HMY.out).mono ?_); rintro e w1 ⟨rfl, ⟨nd, rfl⟩⟩)
 have hlt0 : w.heap.size < w.heap.size + 1 := by omega
 go_loopw [27] (fun v wr => ∃ (t : Nat) (xs : List Int), t ≤ K ∧ v = .int .i64 (t : Int) ∧ Aside0 (xs.length = K) ∧ Aside0 (∀ j, j < t → xs.getD j 0 = (dctL K l).getD j 0) ∧ Aside0 (wr.heap[w.heap.size]? = some (.cells #[.slice A n c1] 22 (0, 0))) ∧ Aside0 (wr.ownsRow w.heap.size 3 1 (.slice (some ⟨w.heap.size + 1, 0, none⟩) K K) K (nums .i64 xs)) ∧ Aside0 (Below w.heap.size w wr)) (fun v _ => K - (intOf v).toNat)
 case atStart =>
  refine ⟨0, List.replicate K 0, by omega, rfl, ⟨by simp⟩, ⟨fun j hj => by omega⟩, ⟨?_⟩, ⟨?_⟩, ⟨by repeat (first | exact Below.refl _ _ | apply below_alloc | apply pw_below_drewN)⟩⟩
  ·
   rw [Below.heap_alloc _ _ _ (by simp)]
   exact heap_alloc_new w _
  ·
   have := own_made ((w.alloc (.cells #[.slice A n c1] 22)).drewN nd) w.heap.size 3 .i64 K (by simp) (by omega)
   simpa using this
 case round =>
  obtain ⟨t, xs, ht, rfl, HX, HJ, HBX, HO, HB⟩ := hrel
  by_cases hlt : t < K
  ·
   go_wp2_with (go_at_call 46; refine (coef_c t w.heap.size n c1 A l _ (HG.out.below HB.out) HBX.out HL.out (Kd.C_below HC.out HB.out) HM.out (by omega)).mono ?_; rintro e w2 ⟨rfl, hb⟩; have HO2 := Aside0.mk (pw_own_below HO.out hb.out); have HBX2 := Aside0.mk (blk_grown HBX.out (grown_of_below hb.out none) (by simp)); have HB2 := Aside0.mk (below_then HB.out HB.out.size hb.out); obtain ⟨⟨yy, hcz⟩, hfz⟩ := own_free HO2.out t hlt)
   go_roundw
   case rel =>
    have hst := own_store HO2.out (t : Int) (dctV l t)
    rw [Int.toNat_natCast] at hst
    refine ⟨t + 1, _, by omega, by go_num, ⟨by rw [List.length_set, HX.out]⟩, ⟨?_⟩, ⟨blk_grown HBX2.out hst.2 (by simp)⟩, ⟨hst.1⟩, ⟨Below.grown HB2.out hst.2 HB2.out.size (fun k hk => by injection hk with hk; omega)⟩⟩
    intro j hj
    by_cases e : j = t
    ·
     subst e
     rw [HLV.out j hlt, List.getD_eq_getElem?_getD, List.getElem?_set_self (by rw [HX.out]; exact hlt)]; rfl
    ·
     have := HJ.out j (by omega)
     rw [List.getD_eq_getElem?_getD] at this ⊢
     rw [List.getElem?_set_ne (fun h => e h.symm)]
     exact this
   case measure => simp [intOf]; omega
  ·
   obtain rfl : K = t := by omega
   go_wp2
   go_ret
   refine ⟨_, rfl, ?_, HB.out⟩
   have hU : xs = dctL K l := row_ext (by rw [HX.out, HLN.out]) (fun j hj => by rw [HX.out] at hj; exact HJ.out j hj)
   rw [← hU]
   exact Kd.R_of_own (enc := Value.int .i64) (h1 := fun _ => rfl) (ok := fun _ => True) (xs := xs) (by rw [HX.out]; exact HO.out) (fun _ _ => trivial)
theorem dct_no (a0 : Int) (n c1 : Nat) (A : Option Addr) (w : World) (hm : dctMay a0 n = false) (hn : n ≤ 1000000) :
  Calls Tryd.prog 21 #[.int .i64 a0, .slice A n c1] w fun e w' => ∃ v0_ : Value, e = .returned v0_ ∧ Kd.R (Kd.int .i64) 3 w' w.heap.size (fun _ => True) v0_ [] ∧ Below w.heap.size w w' := by
 have HMY := Aside0.mk (by rw [dct_may_f, Int.toNat_natCast] : dct_may.f (n : Int) = some (mayB n))
 have hc : mayB n = false ∨ mayB n = true ∧ decide (a0 < 1) = true ∨ mayB n = true ∧ decide (a0 < 1) = false ∧ decide ((n : Int) < a0) = true := by
  unfold dctMay at hm
  cases hb : mayB n
  · exact .inl rfl
  ·
   rw [hb, Bool.true_and] at hm
   refine .inr ?_
   by_cases c1 : a0 < 1
   · exact .inl ⟨rfl, decide_eq_true c1⟩
   ·
    refine .inr ⟨rfl, decide_eq_false c1, decide_eq_true ?_⟩
    rw [decide_eq_true (show 1 ≤ a0 by omega), Bool.true_and, decide_eq_false_iff_not] at hm
    omega
 clear hm
 rcases hc with c | ⟨c, c2⟩ | ⟨c, c2, c3⟩
 all_goals
  rw [c] at HMY
  clear c
  go_enter Tryd.func21, Tryd.ntmps21
  go_wp2_with (go_at_call 44; (with_reducible refine (dct_may.calls _ _ _ HMY.out).mono ?_); rintro e w1 ⟨rfl, ⟨nd, rfl⟩⟩)
  go_ret
  exact ⟨_, rfl, Kd.R_nil _ _ _ _ _, by repeat (first | exact Below.refl _ _ | apply below_alloc | apply pw_below_drewN)⟩
theorem dct_go (a0 : Int) (n c1 : Nat) (A : Option Addr) (l : List Int) (w : World) (hG : GlobA w) (hl : l.length = n) (hC : (Kd.int .i64).C w A n l) (hn : n ≤ 1000000) :
  Calls Tryd.prog 21 #[.int .i64 a0, .slice A n c1] w fun e w' => ∃ v0_ : Value, e = .returned v0_ ∧ Kd.R (Kd.int .i64) 3 w' w.heap.size (fun _ => True) v0_ (dctF a0 l) ∧ Below w.heap.size w w' := by
 unfold dctF
 rw [hl]
 by_cases h : dctMay a0 n = true
 ·
  rw [if_pos h]
  simp only [dctMay, Bool.and_eq_true, decide_eq_true_eq] at h
  obtain ⟨K, rfl⟩ := Int.eq_ofNat_of_zero_le (show 0 ≤ a0 by omega)
  exact dct_yes K n c1 A l w hG hl hC h.1.1 (by omega) (by omega)
 ·
  rw [if_neg h]
  exact dct_no a0 n c1 A w (by simpa using h) hn
theorem dct_Dct.calls (a0 : Int) (A1 : Option Addr) (c1 : Nat) (l1 : List Int) (r : List Int) (w : World) (hG : GlobA w) (hr1 : Kd.C (Kd.int .i64) w A1 l1.length l1) (hc1 : l1.length ≤ c1) (h : dct_Dct.f a0 l1 = some r) :
  Calls Tryd.prog 21 #[.int .i64 a0, .slice A1 l1.length c1] w fun e w' => ∃ v0_ : Value, e = .returned v0_ ∧ Kd.R (Kd.int .i64) 3 w' w.heap.size (fun _ => True) v0_ r ∧ Below w.heap.size w w' := by
 unfold dct_Dct.f at h
 split at h
 case isFalse => cases h
 rename_i hz
 obtain rfl := Option.some.inj h
 exact dct_go a0 _ c1 A1 l1 w hG rfl hr1 (of_decide_eq_true hz)
def badLV (x : Int) : Bool := decide (x < -65536) || decide (65536 < x)
theorem one_LV (x : Int) (w : World) : Calls Tryd.prog 74 #[.int .i64 x] w fun e w' => e = .returned (.bool (badLV x)) ∧ Below w.heap.size w w' := by
 unfold badLV
 cases h : decide (x < -65536)
 all_goals
  go_enter Tryd.func74, Tryd.ntmps74
  go_wp2
  go_ret
  exact ⟨rfl, by repeat (first | exact Below.refl _ _ | apply pw_below_drewN)⟩
set_option maxHeartbeats 16000000 in
theorem index_LV (A : Option Addr) (n c : Nat) (l : List Int) (w : World) (hl : l.length = n) (hC : (Kd.int .i64).C w A n l) :
  Calls Tryd.prog 95 #[.slice A n c, .func (.func 74) #[] #[]] w fun e w' => ∃ r : Int, e = .returned (.int .i64 r) ∧ decide (0 ≤ r) = l.any badLV ∧ Below w.heap.size w w' := by
 have HC := Aside0.mk hC
 have hmax : n ≤ 9223372036854775807 := Kd.C_max hC
 have HB0 : Aside0 (Below w.heap.size w w) := ⟨Below.refl _ _⟩
 have HL := Aside0.mk hl
 clear hC hl
 go_enter Tryd.func95, Tryd.ntmps95
 go_wp2
 go_loopw [5, 8] (fun v5 v wr => ∃ (i : Nat), i ≤ n ∧ v = .int .i64 (i : Int) ∧ Aside0 (∀ j, j < i → badLV (l.getD j 0) = false) ∧ Aside0 (Below w.heap.size w wr)) (fun _ v _ => n - (intOf v).toNat)
 case atStart => exact ⟨0, by omega, rfl, ⟨fun j hj => by omega⟩, HB0⟩
 case round =>
  clear HB0
  obtain ⟨i, hi, rfl, HJ, HB⟩ := hrel
  by_cases hlt : i < n
  ·
   have hC1 := Kd.C_below HC.out HB.out
   obtain ⟨ad, rfl, hcs⟩ := sp_ad hC1 (by omega)
   have k0 := hcs i hlt
   obtain ⟨x, hx⟩ : ∃ x, l.getD i 0 = x := ⟨_, rfl⟩
   rw [hx] at k0
   have HX := Aside0.mk hx
   have HM : Aside0 (x ∈ l) := ⟨by rw [← hx, List.getD_eq_getElem?_getD, List.getElem?_eq_getElem (by rw [HL.out]; exact hlt)]; exact List.getElem_mem _⟩
   have j0 : (0 : Int) ≤ (i : Int) := by omega
   have j1 : (i : Int) < (n : Int) := by omega
   clear hcs hC1 hx
   cases hb : badLV x
   ·
    have HV := Aside0.mk hb
    clear hb
    go_wp2_with (go_at_call 74; (with_reducible refine (one_LV x _).mono ?_); rintro e_ w1 ⟨rfl, B1⟩; rw [HV.out]; have HB1 := Aside0.mk (below_step HB.out B1); clear B1)
    go_roundw
    case rel =>
     refine ⟨i + 1, by omega, by go_num, ⟨fun j hj => ?_⟩, HB1⟩
     by_cases e : j = i
     · subst e; rw [HX.out]; exact HV.out
     · exact HJ.out j (by omega)
    case measure => simp [intOf]; omega
   ·
    have HV := Aside0.mk hb
    clear hb
    go_wp2_with (go_at_call 74; (with_reducible refine (one_LV x _).mono ?_); rintro e_ w1 ⟨rfl, B1⟩; rw [HV.out]; have HB1 := Aside0.mk (below_step HB.out B1); clear B1)
    go_ret
    refine ⟨_, rfl, ?_, HB1.out⟩
    rw [List.any_eq_true.2 ⟨x, HM.out, HV.out⟩, decide_eq_true j0]
  ·
   obtain rfl : n = i := by omega
   go_wp2
   go_ret
   refine ⟨_, rfl, ?_, HB.out⟩
   have : l.any badLV = false := by
    rw [List.any_eq_false]
    intro x hx
    obtain ⟨k, hk, rfl⟩ := List.getElem_of_mem hx
    have := HJ.out k (by rw [← HL.out]; exact hk)
    rw [List.getD_eq_getElem?_getD, List.getElem?_eq_getElem hk] at this
    simp at this ⊢
    exact this
   rw [this]
   exact decide_eq_false (by decide)
theorem contains_LV (A : Option Addr) (n c : Nat) (l : List Int) (w : World) (hl : l.length = n) (hC : (Kd.int .i64).C w A n l) (b : Bool) (hb : l.any badLV = b) :
  Calls Tryd.prog 63 #[.slice A n c, .func (.func 74) #[] #[]] w fun e w' => e = .returned (.bool b) ∧ Below w.heap.size w w' := by
 have HI := Aside0.mk (index_LV A n c l w hl hC)
 rw [hb] at HI
 clear hl hC hb
 go_enter Tryd.func63, Tryd.ntmps63
 go_wp2_with (go_at_call 95; (with_reducible refine HI.out.mono ?_); rintro e_ w1 ⟨r, rfl, hr, B1⟩; have HB1 := Aside0.mk B1; clear B1)
 go_ret
 exact ⟨rfl, HB1.out⟩
def lvl (l : List Int) : Bool := !(l.any badLV)
theorem level_go (A : Option Addr) (n c : Nat) (l : List Int) (b : Bool) (w : World) (hl : l.length = n) (hC : (Kd.int .i64).C w A n l) (hb : lvl l = b) :
  Calls Tryd.prog 48 #[.slice A n c] w fun e w' => e = .returned (.bool b) ∧ Below w.heap.size w w' := by
 have HI := Aside0.mk (contains_LV A n c l w hl hC (!b) (by rw [← hb, lvl, Bool.not_not]))
 clear hl hC hb
 go_enter Tryd.func48, Tryd.ntmps48
 go_wp2_with (go_at_call 63; (with_reducible refine HI.out.mono ?_); rintro e_ w1 ⟨rfl, B1⟩; have HB1 := Aside0.mk B1; clear B1)
 go_ret
 exact ⟨by first | rfl | simp, HB1.out⟩
def front_level.f (l0 : List Int) : Option (Bool) := some (lvl l0)
theorem front_level.calls (A0 : Option Addr) (c0 : Nat) (l0 : List Int) (r : Bool) (w : World) (hr0 : Kd.C (Kd.int .i64) w A0 l0.length l0) (hc0 : l0.length ≤ c0) (h : front_level.f l0 = some r) :
  Calls Tryd.prog 48 #[.slice A0 l0.length c0] w fun e w' => e = .returned (.bool r) ∧ Below w.heap.size w w' :=
 level_go A0 _ c0 l0 r w rfl hr0 (Option.some.inj h)
def fft_may.f (a0 : Int) : Option (Bool) := if a0 ≥ 2 then (if a0 ≤ 64 then (some ((Go.bits .and .i64 a0 (wrap64 (a0 - 1))) == 0)) else (some false)) else (some false)
set_option maxHeartbeats 8000000 in
set_option maxRecDepth 100000 in
theorem fft_may.calls (a0 : Int) (r : Bool) (w : World) (h : fft_may.f a0 = some r) :
  Calls Tryd.prog 76 #[.int .i64 a0] w fun e w' => e = .returned (.bool r) ∧ Drawn0 w w' := by
 have H : (if a0 ≥ 2 then (if a0 ≤ 64 then (some ((Go.bits .and .i64 a0 (wrap64 (a0 - 1))) == 0)) else (some false)) else (some false)) = some r := h
 clear h
 by_cases c2 : a0 ≥ 2
 ·
  rw [if_pos c2] at H
  have c2b0 : decide (2 ≤ a0) = true := decide_eq_true c2
  clear c2
  by_cases c3 : a0 ≤ 64
  ·
   rw [if_pos c3] at H
   have c3b0 : decide (a0 ≤ 64) = true := decide_eq_true c3
   clear c3
   obtain rfl := Option.some.inj H
   go_enter Tryd.func76, Tryd.ntmps76
   go_wp2
   go_ret
   exact ⟨by first | rfl | (simp; done) | (simp [*]; done), by repeat (first | exact Drawn0.refl _ | apply Drawn0.step)⟩
  ·
   rw [if_neg c3] at H
   have c3b0 : decide (a0 ≤ 64) = false := decide_eq_false c3
   clear c3
   obtain rfl := Option.some.inj H
   go_enter Tryd.func76, Tryd.ntmps76
   go_wp2
   go_ret
   exact ⟨by first | rfl | (simp; done) | (simp [*]; done), by repeat (first | exact Drawn0.refl _ | apply Drawn0.step)⟩
 ·
  rw [if_neg c2] at H
  have c2b0 : decide (2 ≤ a0) = false := decide_eq_false c2
  clear c2
  obtain rfl := Option.some.inj H
  go_enter Tryd.func76, Tryd.ntmps76
  go_wp2
  go_ret
  exact ⟨by first | rfl | (simp; done) | (simp [*]; done), by repeat (first | exact Drawn0.refl _ | apply Drawn0.step)⟩
def posOf (h b m : Nat) : Nat := if m + b ≥ 2 * h then m + b - 2 * h else if m + b ≥ h then m + b - h else m + b
def valOf (l : List Int) (b m : Nat) : Int := if m + b ≥ 2 * l.length then l.getD m 0 else if m + b ≥ l.length then wrap64 (-(l.getD m 0)) else l.getD m 0
def turnGo (l : List Int) (b : Nat) : Nat → List Int
 | 0 => List.replicate l.length 0
 | n + 1 => (turnGo l b n).set (posOf l.length b n) (valOf l b n)
theorem turnGo_length (l : List Int) (b : Nat) : ∀ n, (turnGo l b n).length = l.length
 | 0 => List.length_replicate
 | n + 1 => by rw [turnGo, List.length_set, turnGo_length l b n]
theorem posOf_lt {h b m : Nat} (hm : m < h) (hb : b < 2 * h) : posOf h b m < h := by unfold posOf; split <;> (try split) <;> omega
theorem posOf_inj {h b m n : Nat} (hm : m < h) (hn : n < h) (he : posOf h b m = posOf h b n) : m = n := by
 unfold posOf at he
 split at he <;> split at he <;> (try split at he) <;> (try split at he) <;> omega
theorem posOf_sur {h b q : Nat} (hq : q < h) (hb : b < 2 * h) : ∃ m, m < h ∧ posOf h b m = q := by
 by_cases h1 : b ≤ q
 · exact ⟨q - b, by omega, by unfold posOf; rw [if_neg (by omega), if_neg (by omega)]; omega⟩
 by_cases h2 : b ≤ q + h
 · exact ⟨q + h - b, by omega, by unfold posOf; rw [if_neg (by omega), if_pos (by omega)]; omega⟩
 · exact ⟨q + 2 * h - b, by omega, by unfold posOf; rw [if_pos (by omega)]; omega⟩
theorem turnGo_at (l : List Int) (b : Nat) (hb : b < 2 * l.length) : ∀ n, n ≤ l.length → ∀ m, m < n → (turnGo l b n).getD (posOf l.length b m) 0 = valOf l b m
 | n + 1, hn, m, hm => by
   rw [turnGo, List.getD_eq_getElem?_getD]
   by_cases e : m = n
   ·
    subst e
    rw [List.getElem?_set_self (by rw [turnGo_length]; exact posOf_lt (by omega) hb)]; rfl
   ·
    rw [List.getElem?_set_ne (fun h => e (posOf_inj (by omega) (by omega) h.symm)), ← List.getD_eq_getElem?_getD]
    exact turnGo_at l b hb n (by omega) m (by omega)
theorem turnGo_all (l : List Int) (k : Int) (b : Nat) (hb : (b : Int) = k % (2 * (l.length : Int))) (h0 : 0 < l.length) : turnGo l b l.length = turnL l k := by
 have hb2 : b < 2 * l.length := by have := Int.emod_lt_of_pos k (show 0 < 2 * (l.length : Int) by omega); omega
 refine row_ext (by rw [turnGo_length, turnL_length]) (fun q hq => ?_)
 rw [turnGo_length] at hq
 obtain ⟨m, hm, rfl⟩ := posOf_sur hq hb2
 rw [turnGo_at l b hb2 _ (Nat.le_refl _) m hm, turnL_getD _ _ _ hq]
 have e : ext l ((posOf l.length b m : Nat) - k) = ext l ((posOf l.length b m : Nat) - (b : Int)) := ext_mod (by rw [hb]; conv => rhs; rw [Int.sub_emod, Int.emod_emod_of_dvd _ (Int.dvd_refl _), ← Int.sub_emod])
 rw [e]
 unfold posOf valOf
 split
 ·
  rw [← ext_low l m hm]
  refine ext_mod ?_
  rw [show (m : Int) = ((m + b - 2 * l.length : Nat) - (b : Int)) + (2 * (l.length : Int)) * 1 by omega, Int.add_mul_emod_self_left]
 split
 ·
  unfold ext
  rw [show (((m + b - l.length : Nat) : Int) - (b : Int)) % (2 * (l.length : Int)) = (m : Int) + l.length from emod_mk (q := -1) (by omega) (by omega) (by omega)]
  rw [if_neg (by omega), show ((m : Int) + l.length).toNat - l.length = m by omega]
 · rw [show (((m + b : Nat) : Int) - (b : Int)) = (m : Int) by omega, ext_low l m hm]
theorem prt_low {x n : Int} (hn : 1 ≤ n) (hx : -9223372036854775808 ≤ x) : -9223372036854775808 ≤ x / n := by
 refine (Int.le_ediv_iff_mul_le (by omega)).2 ?_
 omega
theorem prt_high {x n : Int} (hn : 1 ≤ n) (hx : x ≤ 9223372036854775807) : x / n ≤ 9223372036854775807 := by
 refine Int.le_trans (Int.ediv_le_ediv (by omega) hx) ?_
 exact Int.ediv_le_self _ (by decide)
theorem prt_some {x n : Int} (hx : -9223372036854775808 ≤ x ∧ x ≤ 9223372036854775807) (hn : -9223372036854775808 ≤ n ∧ n ≤ 9223372036854775807) (h1 : 1 ≤ n) : round_Parts.f x n = some (x / n, x % n) := by
 have hl := prt_low h1 hx.1
 have hh := prt_high h1 hx.2
 have m0 := Int.emod_nonneg x (show n ≠ 0 by omega)
 have m1 := Int.emod_lt_of_pos x (show 0 < n by omega)
 have e1 := Int.tmod_eq_emod (a := x) (b := n)
 have e2 := Int.tdiv_eq_ediv (a := x) (b := n)
 have s1 : n.sign = 1 := Int.sign_eq_one_of_pos (by omega)
 have s2 : (n.natAbs : Int) = n := by omega
 rw [s1] at e2
 unfold round_Parts.f
 rw [if_neg (by omega), if_neg (by omega)]
 by_cases h : 0 ≤ x ∨ n ∣ x
 ·
  rw [if_pos h] at e1 e2
  rw [if_neg (by omega), e1, e2, Int.natCast_zero]
  rw [show wrap64 (x / n + 0) = x / n by unfold wrap64; omega, Int.sub_zero]
 ·
  rw [if_neg h] at e1 e2
  rw [s2] at e1
  have hx0 : x / n < 0 := by
   rcases Int.lt_or_le (x / n) 0 with h' | h'
   · exact h'
   ·
    have := Int.mul_ediv_add_emod x n
    have := Int.mul_nonneg (show 0 ≤ n by omega) h'
    omega
  rw [if_pos (by omega), e1, e2]
  rw [show wrap64 (x / n + 1) = x / n + 1 by unfold wrap64; omega, show wrap64 (x / n + 1 - 1) = x / n by unfold wrap64; omega, show wrap64 (x % n - n + n) = x % n by unfold wrap64; omega]
theorem prt_none {x n : Int} (h1 : n < 1) : round_Parts.f x n = some (0, 0) := by
 unfold round_Parts.f
 rw [if_pos h1]
def spin_ok (l : List Int) (k : Int) : Bool := decide (l.length ≤ 1000000) && decide (-9223372036854775808 ≤ k) && decide (k ≤ 9223372036854775807)
def spin_Turn.f (l0 : List Int) (a1 : Int) : Option (List Int) := if spin_ok l0 a1 = true then some (turnL l0 a1) else none
set_option maxHeartbeats 8000000 in
theorem turn_put (h m b : Nat) (x : Int) (gh go g cap base : Nat) (xs : List Int) (W : World) (H1 : W.heap[gh]? = some (.cells #[.int .i64 (h : Int)] 3 (0, 0)))
  (H2 : W.heap[go]? = some (.cells #[.slice (some ⟨g, 0, none⟩) h cap] 22 (0, 0))) (HO : W.ownsRow base 3 1 (.slice (some ⟨g, 0, none⟩) h cap) h (nums .i64 xs)) (hm : m < h) (hb : b < 2 * h) (hh : h ≤ 1000000) :
  Calls Tryd.prog 114 #[.int .i64 ((m : Int) + (b : Int)), .int .i64 x, .pointer (some ⟨gh, 0, none⟩), .pointer (some ⟨go, 0, none⟩)] W
   fun e w' => e = .returned (.tuple #[]) ∧ w' = W.setCell ⟨g, posOf h b m, none⟩ (.int .i64 (if m + b ≥ 2 * h then x else if m + b ≥ h then wrap64 (-x) else x)) := by
 have hpos := posOf_lt hm hb
 obtain ⟨⟨y, hy⟩, hfr⟩ := own_free HO _ hpos
 have hc1 := cell_of_one H1
 have hc2 := cell_of_one H2
 obtain ⟨p, hp⟩ : ∃ p : Nat, p = m + b := ⟨_, rfl⟩
 have hpe : (m : Int) + (b : Int) = (p : Int) := by omega
 rw [hpe, ← hp]
 have hp3 : p < 3 * h := by omega
 have hpd : posOf h b m = if p ≥ 2 * h then p - 2 * h else if p ≥ h then p - h else p := by unfold posOf; rw [← hp]
 rw [hpd] at hy hfr hpos ⊢
 clear hpd hpe hm hb HO H1 H2
 by_cases h2 : p ≥ 2 * h
 ·
  rw [if_pos h2] at hy hfr hpos
  rw [if_pos h2, if_pos h2]
  obtain ⟨q, hq⟩ : ∃ q : Nat, p - 2 * h = q := ⟨_, rfl⟩
  rw [hq] at hy hfr hpos ⊢
  obtain rfl : p = q + 2 * h := by omega
  clear hq hp
  go_enter Tryd.func114, Tryd.ntmps114
  go_wp2
  go_end0
  exact ⟨rfl, rfl⟩
 ·
  by_cases h1 : p ≥ h
  ·
   rw [if_neg h2, if_pos h1] at hy hfr hpos
   rw [if_neg h2, if_pos h1, if_neg h2, if_pos h1]
   obtain ⟨q, hq⟩ : ∃ q : Nat, p - h = q := ⟨_, rfl⟩
   rw [hq] at hy hfr hpos ⊢
   obtain rfl : p = q + h := by omega
   clear hq hp
   go_enter Tryd.func114, Tryd.ntmps114
   go_wp2
   go_end0
   exact ⟨rfl, rfl⟩
  ·
   rw [if_neg h2, if_neg h1] at hy hfr hpos
   rw [if_neg h2, if_neg h1, if_neg h2, if_neg h1]
   clear hp
   go_enter Tryd.func114, Tryd.ntmps114
   go_wp2
   go_end0
   exact ⟨rfl, rfl⟩
def sByOf (h : Nat) (k : Int) : Nat := (k % (2 * (h : Int))).toNat
theorem sBy_eq (h : Nat) (k : Int) (h0 : 0 < h) : ((sByOf h k : Nat) : Int) = k % (2 * (h : Int)) := Int.toNat_of_nonneg (Int.emod_nonneg _ (by omega))
theorem sBy_lt (h : Nat) (k : Int) (h0 : 0 < h) : sByOf h k < 2 * h := by have := sBy_eq h k h0; have := Int.emod_lt_of_pos k (show 0 < 2 * (h : Int) by omega); omega
theorem parts_by (h : Nat) (k : Int) (h0 : 0 < h) (hh : h ≤ 1000000) (k0 : -9223372036854775808 ≤ k) (k1 : k ≤ 9223372036854775807) : ∃ q, round_Parts.f k (2 * (h : Int)) = some (q, ((sByOf h k : Nat) : Int)) := by
 rw [prt_some ⟨k0, k1⟩ (by omega) (by omega), sBy_eq h k h0]
 exact ⟨_, rfl⟩
theorem val_eq (l : List Int) (h b m : Nat) (x : Int) (hl : l.length = h) (hx : l.getD m 0 = x) : (if m + b ≥ 2 * h then x else if m + b ≥ h then wrap64 (-x) else x) = valOf l b m := by
 unfold valOf; rw [hl, hx]
set_option maxHeartbeats 8000000 in
theorem turn_go (A0 : Option Addr) (h c0 : Nat) (l0 : List Int) (a1 : Int) (w : World) (hl : l0.length = h) (hr0 : Kd.C (Kd.int .i64) w A0 h l0) (hh : h ≤ 1000000) (k0 : -9223372036854775808 ≤ a1) (k1 : a1 ≤ 9223372036854775807) :
  Calls Tryd.prog 102 #[.slice A0 h c0, .int .i64 a1] w fun e w' => ∃ v0_ : Value, e = .returned v0_ ∧ Kd.R (Kd.int .i64) 3 w' w.heap.size (fun _ => True) v0_ (turnL l0 a1) ∧ Below w.heap.size w w' := by
 have hmf : ∀ (fn : Fn) (first cap : Array Value) (w : World), (Instr.makeFunc fn first cap).run Tryd.prog w = .ok (.func fn first cap) w := fun _ _ _ _ => rfl
 have hmk := print_make 22 3 .i64 8 Tryd.underlying22 turn_info (by decide) h (by omega)
 have HL := Aside0.mk hl
 have HC := Aside0.mk hr0
 have hpar : ∃ (q : Int) (b : Nat), round_Parts.f a1 (2 * (h : Int)) = some (q, (b : Int)) ∧ (0 < h → b < 2 * h) ∧ turnGo l0 b h = turnL l0 a1 := by
  rcases Nat.eq_zero_or_pos h with h0 | h0
  ·
   subst h0
   refine ⟨0, 0, prt_none (by omega), fun h => by omega, ?_⟩
   have : l0 = [] := List.eq_nil_of_length_eq_zero hl
   subst this
   rfl
  ·
   obtain ⟨q, hq⟩ := parts_by h a1 h0 hh k0 k1
   refine ⟨q, _, hq, fun _ => sBy_lt h a1 h0, ?_⟩
   have hT := turnGo_all l0 a1 (sByOf h a1) (by rw [sBy_eq h a1 h0, hl]) (by omega)
   rwa [hl] at hT
 obtain ⟨q, b, hq, hb, hT⟩ := hpar
 have HP := Aside0.mk hq
 have HT := Aside0.mk hT
 have HBB := Aside0.mk hb
 clear hl hr0 k0 k1 hq hT hb
 go_enter Tryd.func102, Tryd.ntmps102
 go_wp2_with (go_at_call 83; (with_reducible refine (round_Parts.calls _ _ _ _ _ HP.out).mono ?_); rintro e w' ⟨rfl, ⟨nd, rfl⟩⟩)
 have hlt0 : w.heap.size < w.heap.size + 1 := by omega
 go_loopw [26] (fun v wr => ∃ (n : Nat) (xs : List Int), n ≤ h ∧ v = .int .i64 (n : Int) ∧ Aside0 (xs = turnGo l0 b n) ∧ Aside0 (wr.heap[w.heap.size]? = some (.cells #[.int .i64 (h : Int)] 3 (0, 0))) ∧ Aside0 (wr.heap[w.heap.size + 1 + 1]? = some (.cells #[.slice (some ⟨w.heap.size + 1, 0, none⟩) h h] 22 (0, 0))) ∧ Aside0 (wr.ownsRow w.heap.size 3 1 (.slice (some ⟨w.heap.size + 1, 0, none⟩) h h) h (nums .i64 xs)) ∧ Aside0 (Below w.heap.size w wr)) (fun v _ => h - (intOf v).toNat)
 case atStart =>
  refine ⟨0, List.replicate h 0, by omega, rfl, ⟨by rw [turnGo, HL.out]⟩, ⟨?_⟩, ⟨?_⟩, ⟨?_⟩, ⟨by repeat (first | exact Below.refl _ _ | apply below_alloc | apply pw_below_drewN)⟩⟩
  ·
   show (((w.alloc _).alloc _).alloc _).heap[w.heap.size]? = _
   rw [Below.heap_alloc _ _ _ (by simp; omega), Below.heap_alloc _ _ _ (by simp)]
   exact heap_alloc_new w _
  ·
   show (((w.alloc _).alloc _).alloc _).heap[w.heap.size + 1 + 1]? = _
   have := heap_alloc_new ((w.alloc (.cells #[.int .i64 (h : Int)] 3)).alloc (.cells (madeCells #[.int .i64 0] h) 3)) (.cells #[.slice (some ⟨w.heap.size + 1, 0, none⟩) h h] 22)
   simpa using this
  ·
   have := own_made (w.alloc (.cells #[.int .i64 (h : Int)] 3)) w.heap.size 3 .i64 h (by simp) (by omega)
   have h2 := pw_own_below this (pw_below_drewN (below_alloc (Below.refl _ _) (.cells #[.slice (some ⟨w.heap.size + 1, 0, none⟩) h h] 22)) nd)
   simpa using h2
 case round =>
  obtain ⟨n, xs, hn, rfl, HX, H1, H2, HO, HB⟩ := hrel
  by_cases hlt : n < h
  ·
   obtain ⟨ad, rfl, hcs⟩ := sp_ad HC.out (by omega)
   have hcell := sp_cell (Kd.C_below HC.out HB.out) n hlt
   obtain ⟨x, hx⟩ : ∃ x, l0.getD n 0 = x := ⟨_, rfl⟩
   rw [hx] at hcell
   have HXV := Aside0.mk hx
   have hb2 := HBB.out (by omega)
   clear hx hcs
   go_wp2_with (go_at_call 114; (with_reducible refine (turn_put h n b x _ _ _ h w.heap.size xs _ H1.out H2.out HO.out hlt hb2 hh).mono ?_); rintro e w' ⟨rfl, rfl⟩)
   go_roundw
   case rel =>
    have hst := own_store HO.out ((posOf h b n : Nat) : Int) (if n + b ≥ 2 * h then x else if n + b ≥ h then wrap64 (-x) else x)
    rw [Int.toNat_natCast] at hst
    refine ⟨n + 1, _, by omega, by go_num, ⟨?_⟩, ⟨blk_grown H1.out hst.2 (by simp)⟩, ⟨blk_grown H2.out hst.2 (by simp)⟩, ⟨hst.1⟩, ⟨Below.grown HB.out hst.2 HB.out.size (fun k hk => by injection hk with hk; omega)⟩⟩
    rw [turnGo, HX.out, HL.out, val_eq l0 h b n x HL.out HXV.out]
   case measure => simp [intOf]; omega
  ·
   obtain rfl : h = n := by omega
   have hlast := H2.out
   have hcl := cell_of_one hlast
   clear hlast
   go_wp2
   go_ret
   refine ⟨_, rfl, ?_, HB.out⟩
   rw [← HT.out, ← HX.out]
   have hxl : xs.length = h := by rw [HX.out, turnGo_length, HL.out]
   exact Kd.R_of_own (enc := Value.int .i64) (h1 := fun _ => rfl) (ok := fun _ => True) (xs := xs) (by rw [hxl]; exact HO.out) (fun _ _ => trivial)
theorem spin_Turn.calls (A0 : Option Addr) (c0 : Nat) (l0 : List Int) (a1 : Int) (r : List Int) (w : World) (hr0 : Kd.C (Kd.int .i64) w A0 l0.length l0) (hc0 : l0.length ≤ c0) (h : spin_Turn.f l0 a1 = some r) :
  Calls Tryd.prog 102 #[.slice A0 l0.length c0, .int .i64 a1] w fun e w' => ∃ v0_ : Value, e = .returned v0_ ∧ Kd.R (Kd.int .i64) 3 w' w.heap.size (fun _ => True) v0_ r ∧ Below w.heap.size w w' := by
 unfold spin_Turn.f at h
 split at h
 case isFalse => cases h
 rename_i hz
 obtain rfl := Option.some.inj h
 simp only [spin_ok, Bool.and_eq_true, decide_eq_true_eq] at hz
 exact turn_go A0 _ c0 l0 a1 w rfl hr0 hz.1.1 hz.1.2 hz.2
theorem add_one (x y : Int) (w : World) : Calls Tryd.prog 116 #[.int .i64 x, .int .i64 y] w fun e w' => e = .returned (.int .i64 (wrap64 (x + y))) ∧ w = w' := by
 go_enter Tryd.func116, Tryd.ntmps116
 go_wp2
 go_ret
 exact ⟨rfl, rfl⟩
set_option maxHeartbeats 8000000 in
theorem each_add (A0 A1 : Option Addr) (n c0 m c1 : Nat) (l0 l1 : List Int) (w : World) (hl0 : l0.length = n) (hr0 : Kd.C (Kd.int .i64) w A0 n l0) (hl1 : l1.length = m) (hr1 : Kd.C (Kd.int .i64) w A1 m l1) (hn : n ≤ 1000000) (hm : m ≤ 1000000) :
  Calls Tryd.prog 115 #[.slice A0 n c0, .slice A1 m c1, .func (.func 116) #[] #[]] w fun e w' => ∃ v0_ : Value, e = .returned v0_ ∧ Kd.R (Kd.int .i64) 3 w' w.heap.size (fun _ => True) v0_ (addL l0 l1) ∧ Below w.heap.size w w' := by
 have hmk := print_make 22 3 .i64 8 Tryd.underlying22 turn_info (by decide) n (by omega)
 have HL0 := Aside0.mk hl0
 have HL1 := Aside0.mk hl1
 have HC0 := Aside0.mk hr0
 have HC1 := Aside0.mk hr1
 by_cases hnm : n = m
 ·
  have HU : Aside0 (∀ xs : List Int, xs.length = n → (∀ j, j < n → xs.getD j 0 = wrap64 (l0.getD j 0 + l1.getD j 0)) → xs = addL l0 l1) := ⟨fun xs hx hj => by
   have e : l0.length = l1.length := by omega
   refine row_ext (by rw [addL_length e, hx, hl0]) (fun i hi => ?_)
   rw [hj i (by omega), addL_getD e i (by omega)]⟩
  subst hnm
  clear hl0 hl1 hr0 hr1
  go_enter Tryd.func115, Tryd.ntmps115
  go_wp2
  go_loopw [20] (fun v wr => ∃ (i : Nat) (xs : List Int), i ≤ n ∧ v = .int .i64 (i : Int) ∧ Aside0 (xs.length = n) ∧ Aside0 (∀ j, j < i → xs.getD j 0 = wrap64 (l0.getD j 0 + l1.getD j 0)) ∧ Aside0 (wr.ownsRow w.heap.size 3 1 (.slice (some ⟨w.heap.size, 0, none⟩) n n) n (nums .i64 xs)) ∧ Aside0 (Below w.heap.size w wr)) (fun v _ => n - (intOf v).toNat)
  case atStart =>
   refine ⟨0, List.replicate n 0, by omega, rfl, ⟨by simp⟩, ⟨fun j hj => by omega⟩, ⟨?_⟩, ⟨by repeat (first | exact Below.refl _ _ | apply below_alloc | apply pw_below_drewN)⟩⟩
   exact own_made w w.heap.size 3 .i64 n (Nat.le_refl _) (by omega)
  case round =>
   obtain ⟨i, xs, hi, rfl, HX, HJ, HO, HB⟩ := hrel
   by_cases hlt : i < n
   ·
    obtain ⟨ad, rfl, hcs⟩ := sp_ad HC0.out (by omega)
    obtain ⟨ad1, rfl, hcs1⟩ := sp_ad HC1.out (by omega)
    have hcell := sp_cell (Kd.C_below HC0.out HB.out) i hlt
    have hcell1 := sp_cell (Kd.C_below HC1.out HB.out) i hlt
    obtain ⟨⟨y, hy⟩, hfr⟩ := own_free HO.out i hlt
    obtain ⟨x0, hx0⟩ : ∃ x, l0.getD i 0 = x := ⟨_, rfl⟩
    obtain ⟨x1, hx1⟩ : ∃ x, l1.getD i 0 = x := ⟨_, rfl⟩
    rw [hx0] at hcell
    rw [hx1] at hcell1
    have HX0 := Aside0.mk hx0
    have HX1 := Aside0.mk hx1
    clear hcs hcs1 hx0 hx1
    go_wp2_with (go_at_call 116; (with_reducible refine (add_one x0 x1 _).mono ?_); rintro e w' ⟨rfl, rfl⟩)
    go_roundw
    case rel =>
     have hst := own_store HO.out (i : Int) (wrap64 (x0 + x1))
     rw [Int.toNat_natCast] at hst
     refine ⟨i + 1, _, by omega, by go_num, ⟨by rw [List.length_set, HX.out]⟩, ⟨?_⟩, ⟨hst.1⟩, ⟨Below.grown HB.out hst.2 HB.out.size (fun k hk => by injection hk with hk; omega)⟩⟩
     intro j hj
     by_cases e : j = i
     ·
      subst e
      rw [List.getD_eq_getElem?_getD, List.getElem?_set_self (by rw [HX.out]; exact hlt), HX0.out, HX1.out]; rfl
     ·
      have := HJ.out j (by omega)
      rw [List.getD_eq_getElem?_getD] at this ⊢
      rw [List.getElem?_set_ne (fun h => e h.symm)]
      exact this
    case measure => simp [intOf]; omega
   ·
    obtain rfl : n = i := by omega
    go_wp2
    go_ret
    refine ⟨_, rfl, ?_, HB.out⟩
    rw [← HU.out xs HX.out HJ.out]
    exact Kd.R_of_own (enc := Value.int .i64) (h1 := fun _ => rfl) (ok := fun _ => True) (xs := xs) (by rw [HX.out]; exact HO.out) (fun _ _ => trivial)
 ·
  have hd : ((n : Int) != (m : Int)) = true := by simp; omega
  have HE : Aside0 (addL l0 l1 = []) := ⟨by unfold addL; rw [if_neg (by omega)]⟩
  clear hnm hl0 hl1 hr0 hr1
  go_enter Tryd.func115, Tryd.ntmps115
  go_wp2
  go_ret
  exact ⟨_, rfl, by rw [HE.out]; exact Kd.R_nil _ _ _ _ _, by repeat (first | exact Below.refl _ _ | apply below_alloc | apply pw_below_drewN)⟩
def addGo (h : Nat) : List (List Int) → List Int → List Int
 | [], o => o
 | v :: vs, o => if (addL o v).length = h then addGo h vs (addL o v) else []
def addAll : List (List Int) → List Int
 | [] => []
 | v :: vs => addGo v.length (v :: vs) (List.replicate v.length 0)
theorem row_at {w : World} {A : Option Addr} {n e : Nat} {vs : List (List Int)} (h : (Kd.slice e (Kd.int .i64)).C w A n vs) (j : Nat) (hj : j < n) :
  ∃ ad B c, A = some ad ∧ w.cell? (ad.add j) = some (.slice B (vs.getD j []).length c) ∧ (vs.getD j []).length ≤ c ∧ (Kd.int .i64).C w B (vs.getD j []).length (vs.getD j []) := by
 obtain ⟨ad, c, ha, hs, ⟨B, cp, hc, hle, hC⟩, hcell⟩ := ReadsRow.get_ h [] (j : Int) (by omega) (by omega)
 rw [Int.toNat_natCast] at hc hle hC hcell
 refine ⟨ad, B, cp, ha, ?_, hle, hC⟩
 have := hcell 0 (.slice B (vs.getD j []).length cp) (by rw [hc]; rfl)
 rwa [show j * (Kd.slice e (Kd.int .i64)).sz + 0 = j from by show j * 1 + 0 = j; omega] at this
def add_ok (vs : List (List Int)) : Bool := decide (vs.length ≤ 1000000) && vs.all fun v => decide (v.length ≤ 1000000)
def spin_Add.f (l0 : List (List Int)) : Option (List Int) := if add_ok l0 = true then some (addAll l0) else none
set_option maxHeartbeats 8000000 in
theorem add_go (A0 : Option Addr) (m c0 : Nat) (vs : List (List Int)) (w : World) (hl : vs.length = m) (hr0 : Kd.C (Kd.slice 3 (Kd.int .i64)) w A0 m vs) (hm : m ≤ 1000000) (hv : ∀ v ∈ vs, v.length ≤ 1000000) :
  Calls Tryd.prog 103 #[.slice A0 m c0] w fun e w' => ∃ v0_ : Value, e = .returned v0_ ∧ Kd.R (Kd.int .i64) 3 w' w.heap.size (fun _ => True) v0_ (addAll vs) ∧ Below w.heap.size w w' := by
 rcases Nat.eq_zero_or_pos m with h0 | h0
 ·
  subst h0
  have HE : Aside0 (addAll vs = []) := ⟨by rw [List.eq_nil_of_length_eq_zero hl]; rfl⟩
  clear hl hr0 hv
  go_enter Tryd.func103, Tryd.ntmps103
  go_wp2
  go_ret
  exact ⟨_, rfl, by rw [HE.out]; exact Kd.R_nil _ _ _ _ _, by repeat (first | exact Below.refl _ _ | apply below_alloc | apply pw_below_drewN)⟩
 ·
  obtain ⟨ad, B0, b0, rfl, hc0, _, _⟩ := row_at hr0 0 h0
  obtain ⟨h, hh⟩ : ∃ h, (vs.getD 0 []).length = h := ⟨_, rfl⟩
  rw [hh] at hc0
  have hmem : ∀ j, j < m → (vs.getD j []).length ≤ 1000000 := fun j hj => by
   rw [List.getD_eq_getElem?_getD, List.getElem?_eq_getElem (by omega)]
   exact hv _ (List.getElem_mem _)
  have hh1 : h ≤ 1000000 := by rw [← hh]; exact hmem 0 h0
  have hst : addGo h vs (List.replicate h 0) = addAll vs := by
   cases vs with
   | nil => simp at hl; omega
   | cons v vs => rw [← hh]; rfl
  have hmk := print_make 22 3 .i64 8 Tryd.underlying22 turn_info (by decide) h (by omega)
  have HL := Aside0.mk hl
  have HC := Aside0.mk hr0
  have HM := Aside0.mk hmem
  have HST := Aside0.mk hst
  rw [show ad.add 0 = ad by simp [Addr.add]] at hc0
  have HC0 := Aside0.mk hc0
  have hm0 : ((m : Int) == 0) = false := by simp; omega
  clear hl hr0 hv hmem hst hh
  go_enter Tryd.func103, Tryd.ntmps103
  go_wp2
  clear hc0
  go_loopw [3, 16] (fun v3 v wr => ∃ (i : Nat) (o : List Int), i ≤ m ∧ v = .int .i64 (i : Int) ∧ Aside0 (o.length = h) ∧ Aside0 (addGo h (vs.drop i) o = addAll vs) ∧ Aside0 (Kd.R (Kd.int .i64) 3 wr w.heap.size (fun _ => True) v3 o) ∧ Aside0 (Below w.heap.size w wr)) (fun _ v _ => m - (intOf v).toNat)
  case atStart =>
   refine ⟨0, List.replicate h 0, by omega, rfl, ⟨by simp⟩, HST, ⟨?_⟩, ⟨by repeat (first | exact Below.refl _ _ | apply below_alloc | apply pw_below_drewN)⟩⟩
   have := own_made w w.heap.size 3 .i64 h (Nat.le_refl _) (by omega)
   exact Kd.R_of_own (enc := Value.int .i64) (h1 := fun _ => rfl) (ok := fun _ => True) (xs := List.replicate h 0) (by rw [List.length_replicate]; exact this) (fun _ _ => trivial)
  case round =>
   obtain ⟨i, o, hi, rfl, HO, HG, HR, HB⟩ := hrel
   by_cases hlt : i < m
   ·
    obtain ⟨ad', B, b, he, hcell, _, hCB⟩ := row_at (Kd.C_below HC.out HB.out) i hlt
    obtain rfl := Option.some.inj he
    obtain ⟨v, hvv⟩ : ∃ v, vs.getD i [] = v := ⟨_, rfl⟩
    have hvl := HM.out i hlt
    rw [hvv] at hcell hCB hvl
    have hdrop : vs.drop i = v :: vs.drop (i + 1) := by
     rw [List.drop_eq_getElem_cons (by rw [HL.out]; exact hlt), ← hvv, List.getD_eq_getElem?_getD, List.getElem?_eq_getElem (by rw [HL.out]; exact hlt)]
     rfl
    obtain ⟨q, hq⟩ : ∃ q, v.length = q := ⟨_, rfl⟩
    rw [hq] at hcell hCB hvl
    obtain ⟨A3, c3, rfl, _, hC3⟩ := Kd.R_reads HR.out
    rw [HO.out] at hC3 ⊢
    have HC3 := Aside0.mk hC3
    have HCB := Aside0.mk hCB
    have HQ := Aside0.mk hq
    have HD := Aside0.mk hdrop
    clear hvv hdrop hq hC3 hCB he
    by_cases hz : (addL o v).length = h
    ·
     have HZ := Aside0.mk hz
     clear hz
     go_wp2_with (go_at_call 115; (with_reducible refine (each_add A3 B h c3 q b o v _ HO.out HC3.out HQ.out HCB.out hh1 hvl).mono ?_); rintro e w2 ⟨v4, rfl, hR, hb⟩; obtain ⟨A4, c4, rfl, _, _⟩ := Kd.R_reads hR; have HR4 := Aside0.mk (Kd.R_lower hR HB.out.size); have HB4 := Aside0.mk (below_step HB.out hb); clear hR hb; have hc1 := pw_cell_below HB4.out HC0.out; rw [HZ.out] at HR4 ⊢)
     go_roundw
     case rel => exact ⟨i + 1, _, by omega, by go_num, HZ, ⟨by rw [← HG.out, HD.out, addGo, if_pos HZ.out]⟩, HR4, HB4⟩
     case measure => simp [intOf]; omega
    ·
     obtain ⟨z, hz2⟩ : ∃ z, (addL o v).length = z := ⟨_, rfl⟩
     rw [hz2] at hz
     have HE : Aside0 (addAll vs = []) := ⟨by rw [← HG.out, HD.out, addGo, if_neg (by rw [hz2]; exact hz)]⟩
     have hd : ((z : Int) != (h : Int)) = true := by simp; omega
     have HZ := Aside0.mk hz2
     clear hz hz2
     go_wp2_with (go_at_call 115; (with_reducible refine (each_add A3 B h c3 q b o v _ HO.out HC3.out HQ.out HCB.out hh1 hvl).mono ?_); rintro e w2 ⟨v4, rfl, hR, hb⟩; obtain ⟨A4, c4, rfl, _, _⟩ := Kd.R_reads hR; have HB4 := Aside0.mk (below_step HB.out hb); clear hR hb; have hc1 := pw_cell_below HB4.out HC0.out; rw [HZ.out])
     go_ret
     exact ⟨_, rfl, by rw [HE.out]; exact Kd.R_nil _ _ _ _ _, HB4.out⟩
   ·
    obtain rfl : m = i := by omega
    go_wp2
    go_ret
    refine ⟨_, rfl, ?_, HB.out⟩
    have hg := HG.out
    rw [← HL.out, List.drop_length, addGo] at hg
    rw [← hg]
    exact HR.out
theorem spin_Add.calls (A0 : Option Addr) (c0 : Nat) (l0 : List (List Int)) (r : List Int) (w : World) (hr0 : Kd.C (Kd.slice 3 (Kd.int .i64)) w A0 l0.length l0) (hc0 : l0.length ≤ c0) (h : spin_Add.f l0 = some r) :
  Calls Tryd.prog 103 #[.slice A0 l0.length c0] w fun e w' => ∃ v0_ : Value, e = .returned v0_ ∧ Kd.R (Kd.int .i64) 3 w' w.heap.size (fun _ => True) v0_ r ∧ Below w.heap.size w w' := by
 unfold spin_Add.f at h
 split at h
 case isFalse => cases h
 rename_i hz
 obtain rfl := Option.some.inj h
 simp only [add_ok, Bool.and_eq_true, decide_eq_true_eq, List.all_eq_true] at hz
 exact add_go A0 _ c0 l0 w rfl hr0 hz.1 hz.2
theorem less_one (x y : Int) (w : World) : Calls Tryd.prog 117 #[.int .i64 x, .int .i64 y] w fun e w' => e = .returned (.int .i64 (wrap64 (x - y))) ∧ w = w' := by
 go_enter Tryd.func117, Tryd.ntmps117
 go_wp2
 go_ret
 exact ⟨rfl, rfl⟩
set_option maxHeartbeats 8000000 in
theorem each_less (A0 A1 : Option Addr) (n c0 m c1 : Nat) (l0 l1 : List Int) (w : World) (hl0 : l0.length = n) (hr0 : Kd.C (Kd.int .i64) w A0 n l0) (hl1 : l1.length = m) (hr1 : Kd.C (Kd.int .i64) w A1 m l1) (hn : n ≤ 1000000) (hm : m ≤ 1000000) :
  Calls Tryd.prog 115 #[.slice A0 n c0, .slice A1 m c1, .func (.func 117) #[] #[]] w fun e w' => ∃ v0_ : Value, e = .returned v0_ ∧ Kd.R (Kd.int .i64) 3 w' w.heap.size (fun _ => True) v0_ (lessL l0 l1) ∧ Below w.heap.size w w' := by
 have hmk := print_make 22 3 .i64 8 Tryd.underlying22 turn_info (by decide) n (by omega)
 have HL0 := Aside0.mk hl0
 have HL1 := Aside0.mk hl1
 have HC0 := Aside0.mk hr0
 have HC1 := Aside0.mk hr1
 by_cases hnm : n = m
 ·
  have HU : Aside0 (∀ xs : List Int, xs.length = n → (∀ j, j < n → xs.getD j 0 = wrap64 (l0.getD j 0 - l1.getD j 0)) → xs = lessL l0 l1) := ⟨fun xs hx hj => by
   have e : l0.length = l1.length := by omega
   refine row_ext (by rw [lessL_length e, hx, hl0]) (fun i hi => ?_)
   rw [hj i (by omega), lessL_getD e i (by omega)]⟩
  subst hnm
  clear hl0 hl1 hr0 hr1
  go_enter Tryd.func115, Tryd.ntmps115
  go_wp2
  go_loopw [20] (fun v wr => ∃ (i : Nat) (xs : List Int), i ≤ n ∧ v = .int .i64 (i : Int) ∧ Aside0 (xs.length = n) ∧ Aside0 (∀ j, j < i → xs.getD j 0 = wrap64 (l0.getD j 0 - l1.getD j 0)) ∧ Aside0 (wr.ownsRow w.heap.size 3 1 (.slice (some ⟨w.heap.size, 0, none⟩) n n) n (nums .i64 xs)) ∧ Aside0 (Below w.heap.size w wr)) (fun v _ => n - (intOf v).toNat)
  case atStart =>
   refine ⟨0, List.replicate n 0, by omega, rfl, ⟨by simp⟩, ⟨fun j hj => by omega⟩, ⟨?_⟩, ⟨by repeat (first | exact Below.refl _ _ | apply below_alloc | apply pw_below_drewN)⟩⟩
   exact own_made w w.heap.size 3 .i64 n (Nat.le_refl _) (by omega)
  case round =>
   obtain ⟨i, xs, hi, rfl, HX, HJ, HO, HB⟩ := hrel
   by_cases hlt : i < n
   ·
    obtain ⟨ad, rfl, hcs⟩ := sp_ad HC0.out (by omega)
    obtain ⟨ad1, rfl, hcs1⟩ := sp_ad HC1.out (by omega)
    have hcell := sp_cell (Kd.C_below HC0.out HB.out) i hlt
    have hcell1 := sp_cell (Kd.C_below HC1.out HB.out) i hlt
    obtain ⟨⟨y, hy⟩, hfr⟩ := own_free HO.out i hlt
    obtain ⟨x0, hx0⟩ : ∃ x, l0.getD i 0 = x := ⟨_, rfl⟩
    obtain ⟨x1, hx1⟩ : ∃ x, l1.getD i 0 = x := ⟨_, rfl⟩
    rw [hx0] at hcell
    rw [hx1] at hcell1
    have HX0 := Aside0.mk hx0
    have HX1 := Aside0.mk hx1
    clear hcs hcs1 hx0 hx1
    go_wp2_with (go_at_call 117; (with_reducible refine (less_one x0 x1 _).mono ?_); rintro e w' ⟨rfl, rfl⟩)
    go_roundw
    case rel =>
     have hst := own_store HO.out (i : Int) (wrap64 (x0 - x1))
     rw [Int.toNat_natCast] at hst
     refine ⟨i + 1, _, by omega, by go_num, ⟨by rw [List.length_set, HX.out]⟩, ⟨?_⟩, ⟨hst.1⟩, ⟨Below.grown HB.out hst.2 HB.out.size (fun k hk => by injection hk with hk; omega)⟩⟩
     intro j hj
     by_cases e : j = i
     ·
      subst e
      rw [List.getD_eq_getElem?_getD, List.getElem?_set_self (by rw [HX.out]; exact hlt), HX0.out, HX1.out]; rfl
     ·
      have := HJ.out j (by omega)
      rw [List.getD_eq_getElem?_getD] at this ⊢
      rw [List.getElem?_set_ne (fun h => e h.symm)]
      exact this
    case measure => simp [intOf]; omega
   ·
    obtain rfl : n = i := by omega
    go_wp2
    go_ret
    refine ⟨_, rfl, ?_, HB.out⟩
    rw [← HU.out xs HX.out HJ.out]
    exact Kd.R_of_own (enc := Value.int .i64) (h1 := fun _ => rfl) (ok := fun _ => True) (xs := xs) (by rw [HX.out]; exact HO.out) (fun _ _ => trivial)
 ·
  have hd : ((n : Int) != (m : Int)) = true := by simp; omega
  have HE : Aside0 (lessL l0 l1 = []) := ⟨by unfold lessL; rw [if_neg (by omega)]⟩
  clear hnm hl0 hl1 hr0 hr1
  go_enter Tryd.func115, Tryd.ntmps115
  go_wp2
  go_ret
  exact ⟨_, rfl, by rw [HE.out]; exact Kd.R_nil _ _ _ _ _, by repeat (first | exact Below.refl _ _ | apply below_alloc | apply pw_below_drewN)⟩
def spin_Less.f (l0 l1 : List Int) : Option (List Int) := if decide (l0.length ≤ 1000000) && decide (l1.length ≤ 1000000) then some (lessL l0 l1) else none
theorem less_go (A0 A1 : Option Addr) (n c0 m c1 : Nat) (l0 l1 : List Int) (w : World) (hl0 : l0.length = n) (hr0 : Kd.C (Kd.int .i64) w A0 n l0) (hl1 : l1.length = m) (hr1 : Kd.C (Kd.int .i64) w A1 m l1) (hn : n ≤ 1000000) (hm : m ≤ 1000000) :
  Calls Tryd.prog 104 #[.slice A0 n c0, .slice A1 m c1] w fun e w' => ∃ v0_ : Value, e = .returned v0_ ∧ Kd.R (Kd.int .i64) 3 w' w.heap.size (fun _ => True) v0_ (lessL l0 l1) ∧ Below w.heap.size w w' := by
 have HL0 := Aside0.mk hl0
 have HL1 := Aside0.mk hl1
 have HC0 := Aside0.mk hr0
 have HC1 := Aside0.mk hr1
 clear hl0 hl1 hr0 hr1
 go_enter Tryd.func104, Tryd.ntmps104
 go_wp2_with (go_at_call 115; (with_reducible refine (each_less A0 A1 n c0 m c1 l0 l1 _ HL0.out HC0.out HL1.out HC1.out hn hm).mono ?_); rintro e w2 ⟨v4, rfl, hR, hb⟩; have HR := Aside0.mk hR; have HB := Aside0.mk hb; clear hR hb)
 go_ret
 exact ⟨_, rfl, HR.out, HB.out⟩
theorem spin_Less.calls (A0 : Option Addr) (c0 : Nat) (l0 : List Int) (A1 : Option Addr) (c1 : Nat) (l1 : List Int) (r : List Int) (w : World) (hr0 : Kd.C (Kd.int .i64) w A0 l0.length l0) (hc0 : l0.length ≤ c0) (hr1 : Kd.C (Kd.int .i64) w A1 l1.length l1) (hc1 : l1.length ≤ c1) (h : spin_Less.f l0 l1 = some r) :
  Calls Tryd.prog 104 #[.slice A0 l0.length c0, .slice A1 l1.length c1] w fun e w' => ∃ v0_ : Value, e = .returned v0_ ∧ Kd.R (Kd.int .i64) 3 w' w.heap.size (fun _ => True) v0_ r ∧ Below w.heap.size w w' := by
 unfold spin_Less.f at h
 split at h
 case isFalse => cases h
 rename_i hz
 obtain rfl := Option.some.inj h
 simp only [Bool.and_eq_true, decide_eq_true_eq] at hz
 exact less_go A0 A1 _ c0 _ c1 l0 l1 w rfl hr0 rfl hr1 hz.1 hz.2
end Go.Proofs.YtmhacdnnnebpdaaDoor.PFrontStream
