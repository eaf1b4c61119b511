-- Written by a program of this work (wip/tools) for this claim; Lean checks it.
import Derived.Test.YtphmfecabbellaaDoorPFftDirectx0
import Derived.Test.YtphmfecabbellaaDoorPFftDirectx1
import Derived.Test.YtphmfecabbellaaDoorPFftDirectx2
import Derived.Test.YtphmfecabbellaaDoorPFftDirectx4
import Derived.Test.YtphmfecabbellaaDoorPFftDirectx5
import Derived.Test.YtphmfecabbellaaDoorPFftDirectx6
namespace Go.Proofs.YtphmfecabbellaaDoor.PFftDirect
open Go.RowKit Go.Proofs.YtphmfecabbellaaDoorW.PrintWords Go.Proofs.YtphmfecabbellaaDoorW.PrintLast Go.Proofs.YtphmfecabbellaaDoorW.PrintMore
attribute [local go_sem] max2_int min2_int max_two min_two max_three min_three max_four min_four   -- for this text's walks alone
set_option linter.unusedVariables false
set_option linter.unusedSimpArgs false

/-! ### earshotlaw10_FftDirect: function 9 -/
-- PURE intro l0 a k _ h8 hw ha hk; unfold earshotlaw10_FftDirect.f; rw [if_pos]; simp only [Bool.and_eq_true, decide_eq_true_eq, List.all_eq_true]; exact ⟨⟨⟨by omega, fun x hx => wf_i64 (hw x hx)⟩, (wf_i64 hk).1⟩, (wf_i64 hk).2⟩
/-- A call's result is a row that reads as xs; the world is as it was, but for what is new. -/
def CRes (w0 W : World) (h : Nat) (xs : List Int) (e : Ending) (w' : World) : Prop :=
  ∃ A c, e = .returned (.slice A h c) ∧ h ≤ c ∧ Aside0 ((Kd.int .i64).C w' A h xs) ∧ Aside0 (Below w0.heap.size w0 w') ∧ Aside0 (Below W.heap.size W w')
theorem cres_of {w0 W w' : World} {h : Nat} {xs : List Int} {v : Value} {t b : Nat} {ok : Nat → Prop} (hB : Below w0.heap.size w0 W) (hR : (Kd.int .i64).R t w' b ok v xs) (hl : xs.length = h) (hb : Below W.heap.size W w') : CRes w0 W h xs (.returned v) w' := by
  subst hl
  obtain ⟨A, c, rfl, h1, h2⟩ := Kd.R_reads hR
  exact ⟨A, c, rfl, h1, ⟨h2⟩, ⟨below_step hB hb⟩, ⟨hb⟩⟩
theorem same_go (l : List Int) (hl : l.length ≤ 100000000) (d : Nat) : ∀ (k i : Nat), i ≤ l.length → l.length - i = d → d < k → earshotref04_Same.l0 k l l (i : Int) = some true := by
  induction d with
  | zero =>
    intro k i h0 hd hk
    obtain ⟨k, rfl⟩ : ∃ m, k = m + 1 := ⟨k - 1, by omega⟩
    simp only [earshotref04_Same.l0]
    rw [if_neg (by omega)]
  | succ d ih =>
    intro k i h0 hd hk
    obtain ⟨k, rfl⟩ : ∃ m, k = m + 1 := ⟨k - 1, by omega⟩
    simp only [earshotref04_Same.l0]
    have hw : wrap64 ((i : Int) + 1) = ((i + 1 : Nat) : Int) := by unfold wrap64; omega
    rw [if_pos (by omega), if_pos (by omega), if_pos (by omega), if_pos trivial, hw]
    exact ih k (i + 1) (by omega) (by omega) (by omega)
theorem same_f (l : List Int) (hl : l.length ≤ 100000000) : earshotref04_Same.f (l.length + 1) l l = some true := by
  unfold earshotref04_Same.f
  rw [if_pos rfl]
  exact same_go l hl l.length _ 0 (by omega) (by omega) (by omega)
/-- Two rows that read the same. -/
theorem same_c {w0 : World} (A1 : Option Addr) (h c1 : Nat) (A2 : Option Addr) (c2 : Nat) (l1 l2 : List Int) (W : World) (hB : Below w0.heap.size w0 W) (hl : l1.length = h) (he : l1 = l2) (hC1 : (Kd.int .i64).C W A1 h l1) (hC2 : (Kd.int .i64).C W A2 h l2) (h1 : h ≤ c1) (h2 : h ≤ c2) (hh : h ≤ 1000000) :
    Calls Tryd.prog 19 #[.slice A1 h c1, .slice A2 h c2] W fun e w' => e = .returned (.bool true) ∧ Aside0 (Below w0.heap.size w0 w') ∧ Aside0 (Below W.heap.size W w') := by
  subst he
  subst hl
  exact (earshotref04_Same.calls _ A1 c1 l1 A2 c2 l1 true W hC1 h1 hC2 h2 (same_f l1 (by omega))).mono fun e w' ⟨a, ⟨n, b⟩⟩ => by
    subst b
    exact ⟨a, ⟨pw_below_drewN hB n⟩, ⟨pw_below_drewN (Below.refl _ _) n⟩⟩
theorem zeros_c (X : World) (g n : Nat) (hg : g = X.heap.size) (hn : n ≤ 1000000) : (Kd.int .i64).C (X.alloc (.cells (madeCells #[.int .i64 0] n) 3)) (some ⟨g, 0, none⟩) n (List.replicate n 0) := by
  subst hg
  have h := own_made X X.heap.size 3 .i64 n (Nat.le_refl _) (by omega)
  have hR := Kd.R_of_own (enc := Value.int .i64) (h1 := fun _ => rfl) (ok := fun _ => True) (xs := List.replicate n 0) (by rw [List.length_replicate]; exact h) (fun _ _ => trivial)
  obtain ⟨A, c, he, _, h2⟩ := Kd.R_reads hR
  rw [List.length_replicate] at he h2
  injection he with e1 e2 e3
  rw [e1]
  exact h2
/-- A callee that draws only, in a region that is walked once, in a world that has drawn before. -/
theorem quiet_add {P : Program} {f : FuncId} {args : Array Value} {W : World} {K x : Nat} {v : Value} (h : Calls P f args (W.drewN (K + x)) fun e w' => e = .returned v ∧ Drawn0 (W.drewN (K + x)) w') :
    Calls P f args (W.drewN (K + x)) fun e w'' => e = .returned v ∧ ∃ n, w'' = W.drewN (K + n) :=
  h.mono fun _ _ ⟨he, ⟨m, hm⟩⟩ => ⟨he, x + m, by rw [hm, World.drewN_drewN, Nat.add_assoc]⟩
/-- .. likewise, in a world that is named by one count. -/
theorem quiet_d {P : Program} {f : FuncId} {args : Array Value} {W : World} {x : Nat} {v : Value} (h : Calls P f args (W.drewN x) fun e w' => e = .returned v ∧ Drawn0 (W.drewN x) w') :
    Calls P f args (W.drewN x) fun e w'' => e = .returned v ∧ ∃ n, w'' = W.drewN n :=
  h.mono fun _ _ ⟨he, ⟨m, hm⟩⟩ => ⟨he, x + m, by rw [hm, World.drewN_drewN]⟩

theorem sizeOf_may (a : Int) : fftMay (sizeOf_ a) = true := by
  have m0 := Int.emod_nonneg a (show (6 : Int) ≠ 0 by decide)
  have m1 := Int.emod_lt_of_pos a (show (0 : Int) < 6 by decide)
  have h : a % 6 = 0 ∨ a % 6 = 1 ∨ a % 6 = 2 ∨ a % 6 = 3 ∨ a % 6 = 4 ∨ a % 6 = 5 := by omega
  unfold sizeOf_
  rcases h with h | h | h | h | h | h <;> rw [h] <;> decide
theorem sizedL_in {n : Nat} {l : List Int} (h : In64 l) : In64 (sizedL n l) := by
  intro x hx
  simp only [sizedL, List.mem_map] at hx
  obtain ⟨i, _, rfl⟩ := hx
  rw [← h.getD]
  exact ⟨W_lo _, W_hi _⟩
theorem sized_c (A0 : Option Addr) (m c0 N : Nat) (l0 v : List Int) (a : Int) (W : World) (hl : l0.length = m) (hC : (Kd.int .i64).C W A0 m l0) (hmc : m ≤ c0) (hm : m ≤ 4000000000000000000) (hN : sizeOf_ a = N) (hv : sizedL N l0 = v) :
    Calls Tryd.prog 25 #[.slice A0 m c0, .int .i64 a] W fun e w' => ∃ A c, e = .returned (.slice A N c) ∧ N ≤ c ∧ Aside0 ((Kd.int .i64).C w' A N v) ∧ Aside0 (Below W.heap.size W w') := by
  subst hl
  refine (earshotlaw10_sized.calls A0 c0 l0 a _ W hC hmc (by unfold earshotlaw10_sized.f; rw [if_pos (by simpa using hm)])).mono ?_
  rintro e w' ⟨v0, rfl, hR, hB⟩
  obtain ⟨A, c, rfl, h1, h2⟩ := Kd.R_reads hR
  rw [hN, hv] at h1 h2 ⊢
  have hvl : v.length = N := by rw [← hv, sizedL_length]
  rw [hvl] at h1 h2 ⊢
  exact ⟨A, c, rfl, h1, ⟨h2⟩, ⟨hB⟩⟩

def earshotlaw10_FftDirect.f (l0 : List Int) (a1 a2 : Int) : Option (Bool) := if decide (l0.length ≤ 4000000000000000000) && l0.all (fun x => decide (-9223372036854775808 ≤ x) && decide (x ≤ 9223372036854775807)) && decide (-9223372036854775808 ≤ a2) && decide (a2 ≤ 9223372036854775807) then some true else none
set_option maxHeartbeats 32000000 in
set_option maxRecDepth 100000 in
theorem direct_go (A0 : Option Addr) (m c0 N H : Nat) (l0 v : List Int) (a k : Int) (w : World) (hG : GlobA w) (hl : l0.length = m) (hC : (Kd.int .i64).C w A0 m l0) (hmc : m ≤ c0) (hm : m ≤ 4000000000000000000) (hin : In64 l0) (hN : sizeOf_ a = N) (hH : N / 2 = H) (hv : sizedL N l0 = v) (k0 : -9223372036854775808 ≤ k) (k1 : k ≤ 9223372036854775807) :
    Calls Tryd.prog 9 #[.slice A0 m c0, .int .i64 a, .int .i64 k] w fun e w' => e = .returned (.bool true) ∧ Below w.heap.size w w' := by
  have hmay := sizeOf_may a
  rw [hN] at hmay
  have hvl : v.length = N := by rw [← hv, sizedL_length]
  have hvin : In64 v := by rw [← hv]; exact sizedL_in hin
  have hN64 : 2 ≤ N ∧ N ≤ 64 ∧ H ≤ 32 := by rcases fftMay_cases hmay with rfl | rfl | rfl | rfl | rfl | rfl <;> omega
  obtain ⟨hN2, hN64, hH32⟩ := hN64
  have HSZ : Aside0 (∀ W : World, (Kd.int .i64).C W A0 m l0 → Calls Tryd.prog 25 #[.slice A0 m c0, .int .i64 a] W fun e w' => ∃ A c, e = .returned (.slice A N c) ∧ N ≤ c ∧ Aside0 ((Kd.int .i64).C w' A N v) ∧ Aside0 (Below W.heap.size W w')) := ⟨fun W h => sized_c A0 m c0 N l0 v a W hl h hmc hm hN hv⟩
  have HSP : Aside0 (∀ (W : World) (A : Option Addr) (c : Nat), (Kd.int .i64).C W A N v → Calls Tryd.prog 26 #[.slice A N c] W fun e w' => ∃ v0_ : Value, e = .returned v0_ ∧ R2 w' W.heap.size (fun _ => True) v0_ (spinsF v) ∧ Below W.heap.size W w') := ⟨fun W A c h => spins_go N c A v W hvl h hvin (by omega)⟩
  have HSS : Aside0 (∀ (q : Int) (W : World) (A : Option Addr) (c : Nat), -9223372036854775808 ≤ q → q ≤ 9223372036854775807 → (Kd.int .i64).C W A N v → Calls Tryd.prog 28 #[.int .i64 q, .slice A N c] W fun e w' => ∃ B d, e = .returned (.slice B H d) ∧ H ≤ d ∧ Aside0 ((Kd.int .i64).C w' B H (spinAt v q)) ∧ Aside0 (Below W.heap.size W w')) := ⟨fun q W A c q0 q1 h => sum_go q N H c A v W hvl h hvin hmay hH q0 q1⟩
  have HRS : Aside0 (∀ (q : Int) (W : World) (A : Option Addr) (c : Nat), -9223372036854775808 ≤ q → q ≤ 9223372036854775807 → (Kd.int .i64).C W A N v → Calls Tryd.prog 27 #[.int .i64 q, .slice A N c] W fun e w' => ∃ B d, e = .returned (.slice B H d) ∧ H ≤ d ∧ Aside0 ((Kd.int .i64).C w' B H (spinAt v q)) ∧ Aside0 (Below W.heap.size W w')) := ⟨fun q W A c q0 q1 h => rsum_go q N H c A v W hvl h hvin hmay hH q0 q1⟩
  have HSL : Aside0 ((spinsF v).length = N) := ⟨by rw [spins_len v (by rw [hvl]; exact hmay), hvl]⟩
  have HROW : Aside0 (∀ i : Nat, i < N → (spinsF v).getD i [] = spinAt v (i : Int)) := ⟨fun i hi => spinAt_row v hvin (by rw [hvl]; exact hmay) i (by omega)⟩
  have HLEN : Aside0 (∀ q : Int, (spinAt v q).length = H) := ⟨fun q => by rw [spinAt_length, hvl, hH]⟩
  have HC := Aside0.mk hC
  have HG := Aside0.mk hG
  clear hG hl hC hin hN hH hv hmay hvl hvin hm
  have ST0 : True := trivial
  go_enter Tryd.func9, Tryd.ntmps9
  go_wp2_with (first
    | (go_at_call 24; clear ST0; (with_reducible refine (awake_go _ HG.out).mono ?_); rintro e_ w1 ⟨rfl, B1⟩; have HB1 := Aside0.mk B1; clear B1; have ST1 : True := trivial)
    | (go_at_call 25; clear ST1; (with_reducible refine (HSZ.out w1 (Kd.C_below HC.out HB1.out)).mono ?_); rintro e_ w2 ⟨AV, cV, rfl, hcV, CV, B2⟩; have HB2 := Aside0.mk (below_step HB1.out B2.out); clear B2 HB1; have ST2 : True := trivial)
    | (go_at_call 26; clear ST2; (with_reducible refine (HSP.out w2 AV cV CV.out).mono ?_); rintro e_ w3 ⟨vS, rfl, RS, BS⟩; obtain ⟨AS, cS, hvS, hcS, _⟩ := Kd.R_reads RS; rw [HSL.out] at hvS hcS; subst hvS; have RS3 := Aside0.mk (Kd.R_lower RS (Below.size HB2.out)); have CV3 := Aside0.mk (Kd.C_below CV.out BS); have HB3 := Aside0.mk (below_step HB2.out BS); clear RS BS HB2 CV hcS; have ST3 : True := trivial))
  go_loopw [10] (fun vi wr => ∃ (i : Nat), i ≤ N ∧ vi = .int .i64 (i : Int) ∧ Aside0 (R2 wr w.heap.size (fun _ => True) (.slice AS N cS) (spinsF v)) ∧ Aside0 ((Kd.int .i64).C wr AV N v) ∧ Aside0 (Below w.heap.size w wr)) (fun v _ => N - (intOf v).toNat)
  case atStart => exact ⟨0, by omega, rfl, RS3, CV3, HB3⟩
  case round =>
    clear RS3 CV3 HB3
    obtain ⟨i, hi, rfl, RS, CV, HB⟩ := hrel
    by_cases hlt : i < N
    · obtain ⟨ad, _, _, rfl, _⟩ := R2_at RS.out i hlt
      have j0 : (0 : Int) ≤ (i : Int) := by omega
      have j1 : (i : Int) < (N : Int) := by omega
      have j2 : -9223372036854775808 ≤ (i : Int) := by omega
      have j3 : (i : Int) ≤ 9223372036854775807 := by omega
      have ST4 : True := trivial
      go_wp2_with (first
        | (go_at_call 27; clear ST4; (with_reducible refine (HRS.out (i : Int) wr AV cV j2 j3 CV.out).mono ?_); rintro e_ w4 ⟨BR, dR, rfl, hdR, CR, B4⟩; have RS4 := Aside0.mk (Kd.R_below RS.out B4.out); have CV4 := Aside0.mk (Kd.C_below CV.out B4.out); have HB4 := Aside0.mk (below_step HB.out B4.out); obtain ⟨ad2, BL, dL, hAd, k5, lB, CB⟩ := R2_at RS4.out i hlt; injection hAd with hAd; subst hAd; rw [HROW.out i hlt, HLEN.out] at k5 lB CB; have HCB := Aside0.mk CB; clear B4 CB; have ST5 : True := trivial)
        | (go_at_call 19; clear ST5; (with_reducible refine (same_c (w0 := w) BL H dL BR dR _ _ w4 HB4.out (HLEN.out _) rfl HCB.out CR.out lB hdR (by omega)).mono ?_); rintro e_ w5 ⟨rfl, HB5, S5⟩; have RS5 := Aside0.mk (Kd.R_below RS4.out S5.out); have CV5 := Aside0.mk (Kd.C_below CV4.out S5.out); have CR5 := Aside0.mk (Kd.C_below CR.out S5.out); clear S5 k5 HCB; have ST6 : True := trivial)
        | (go_at_call 28; clear ST6; (with_reducible refine (HSS.out (i : Int) w5 AV cV j2 j3 CV5.out).mono ?_); rintro e_ w6 ⟨BM, dM, rfl, hdM, CM, B6⟩; have RS6 := Aside0.mk (Kd.R_below RS5.out B6.out); have CV6 := Aside0.mk (Kd.C_below CV5.out B6.out); have CR6 := Aside0.mk (Kd.C_below CR5.out B6.out); have HB6 := Aside0.mk (below_step HB5.out B6.out); clear B6; have ST7 : True := trivial)
        | (go_at_call 19; clear ST7; (with_reducible refine (same_c (w0 := w) BM H dM BR dR _ _ w6 HB6.out (HLEN.out _) rfl CM.out CR6.out hdM hdR (by omega)).mono ?_); rintro e_ w7 ⟨rfl, HB7, S7⟩; have RS7 := Aside0.mk (Kd.R_below RS6.out S7.out); have CV7 := Aside0.mk (Kd.C_below CV6.out S7.out); have ST8 : True := trivial))
      go_roundw
      case rel => exact ⟨i + 1, by omega, by go_num, RS7, CV7, HB7⟩
      case measure => simp [intOf]; omega
    · obtain rfl : N = i := by omega
      have ST4 : True := trivial
      go_wp2_with (first
        | (go_at_call 28; clear ST4; (with_reducible refine (HSS.out k wr AV cV k0 k1 CV.out).mono ?_); rintro e_ w4 ⟨BM, dM, rfl, hdM, CM, B4⟩; have CV4 := Aside0.mk (Kd.C_below CV.out B4.out); have HB4 := Aside0.mk (below_step HB.out B4.out); clear B4; have ST5 : True := trivial)
        | (go_at_call 27; clear ST5; (with_reducible refine (HRS.out k w4 AV cV k0 k1 CV4.out).mono ?_); rintro e_ w5 ⟨BR, dR, rfl, hdR, CR, B5⟩; have CM5 := Aside0.mk (Kd.C_below CM.out B5.out); have HB5 := Aside0.mk (below_step HB4.out B5.out); clear B5; have ST6 : True := trivial)
        | (go_at_call 19; clear ST6; (with_reducible refine (same_c (w0 := w) BM H dM BR dR _ _ w5 HB5.out (HLEN.out _) rfl CM5.out CR.out hdM hdR (by omega)).mono ?_); rintro e_ w6 ⟨rfl, HB6, S6⟩; have ST7 : True := trivial))
      go_ret
      exact ⟨rfl, HB6.out⟩
theorem earshotlaw10_FftDirect.calls (A0 : Option Addr) (c0 : Nat) (l0 : List Int) (a1 a2 : Int) (r : Bool) (w : World) (hG : GlobA w) (hr0 : Kd.C (Kd.int .i64) w A0 l0.length l0) (hc0 : l0.length ≤ c0) (h : earshotlaw10_FftDirect.f l0 a1 a2 = some r) :
    Calls Tryd.prog 9 #[.slice A0 l0.length c0, .int .i64 a1, .int .i64 a2] w fun e w' => e = .returned (.bool r) ∧ Below w.heap.size w w' := by
  unfold earshotlaw10_FftDirect.f at h
  split at h
  case isFalse => cases h
  rename_i hz
  obtain rfl := Option.some.inj h
  simp only [Bool.and_eq_true, decide_eq_true_eq, List.all_eq_true] at hz
  exact direct_go A0 _ c0 _ _ l0 _ a1 a2 w hG rfl hr0 hc0 hz.1.1.1 (fun x hx => hz.1.1.2 x hx) rfl rfl rfl hz.1.2 hz.2

/-- THE ONE PURE STATEMENT of earshotlaw10_FftDirect: yours. -/
def earshotlaw10_FftDirect.Pure : Prop := ∀ (l0 : List Int) (a1 : Int) (a2 : Int), l0.length ≤ maxLen → l0.length * 8 ≤ 140737488351232 → (∀ x ∈ l0, (Lit.int .i64 x).wf = true) → (Lit.int .i64 a1).wf = true → (Lit.int .i64 a2).wf = true → earshotlaw10_FftDirect.f l0 a1 a2 = some true
theorem earshotlaw10_FftDirect.walk (P : earshotlaw10_FftDirect.Pure) (a0 : Option Addr) (len0 cap0 : Nat) (z0 : List Int) (a1 : Int) (a2 : Int) (w : World) (w0 : (a0 = none ∧ len0 = 0 ∧ cap0 = 0 ∧ z0 = []) ∨ ∃ x, a0 = some x ∧ len0 ≤ cap0 ∧ cap0 ≤ maxLen ∧ z0.length = cap0 ∧ (∀ i, i < z0.length → w.cell? (x.add i) = some (.int .i64 (z0.getD i 0))) ∧ ∀ n ∈ z0, (Lit.int .i64 n).wf = true) (y0 : len0 * 8 ≤ 140737488351232) (w1 : (Lit.int .i64 a1).wf = true) (w2 : (Lit.int .i64 a2).wf = true) (hG : GlobA w) :
    Calls Tryd.prog 9 #[.slice a0 len0 cap0, .int .i64 a1, .int .i64 a2] w fun e w' => e = .returned (.bool true) ∧ Below w.heap.size w w' := by
  obtain ⟨l0, rfl, hr0, hm0, hw0, hc0⟩ := ReadsInt.ofRowC w0
  have h := P l0 a1 a2 hm0 y0 hw0 w1 w2
  refine (earshotlaw10_FftDirect.calls _ _ l0 a1 a2 true w hG (Kd.C_of_reads (d := (0 : Int)) (h1 := fun _ => rfl) hr0) hc0 h).mono ?_
  rintro e w' ⟨rfl, hd⟩
  exact ⟨rfl, hd⟩

end Go.Proofs.YtphmfecabbellaaDoor.PFftDirect
