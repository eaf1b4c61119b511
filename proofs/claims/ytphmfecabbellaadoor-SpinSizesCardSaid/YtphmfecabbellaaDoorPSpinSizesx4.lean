-- Written by a program of this work (wip/tools) for this claim; Lean checks it.
import Derived.Test.YtphmfecabbellaaDoorPSpinSizesx0
import Derived.Test.YtphmfecabbellaaDoorPSpinSizesx1
import Derived.Test.YtphmfecabbellaaDoorPSpinSizesx2
import Derived.Test.YtphmfecabbellaaDoorPSpinSizesx3
namespace Go.Proofs.YtphmfecabbellaaDoor.PSpinSizes
open Go.RowKit Go.Proofs.YtphmfecabbellaaDoorW.PrintWords Go.Proofs.YtphmfecabbellaaDoorW.PrintLast Go.Proofs.YtphmfecabbellaaDoorW.PrintMore
attribute [local go_sem] max2_int min2_int max_two min_two max_three min_three max_four min_four   -- for this text's walks alone
set_option linter.unusedVariables false
set_option linter.unusedSimpArgs false

/-! ### earshotlaw09_SpinSizes: function 7 -/
-- PURE intro l0 l1 a _ h8 hw _ h81 hw1 ha; unfold earshotlaw09_SpinSizes.f; rw [if_pos]; simp only [Bool.and_eq_true, decide_eq_true_eq, List.all_eq_true]; exact ⟨⟨⟨⟨⟨by omega, fun x hx => wf_i64 (hw x hx)⟩, by omega⟩, fun x hx => wf_i64 (hw1 x hx)⟩, (wf_i64 ha).1⟩, (wf_i64 ha).2⟩
/-! ### The parts of spins -/
theorem S_turn (F : Int → Int) (h : Nat) (hF : ∀ p, wrap64 (F (p + h)) = wrap64 (F p)) : ∀ k : Nat, wrap64 (S h (fun j => F ((j : Int) + (k : Int)))) = wrap64 (S h (fun j => F (j : Int)))
  | 0 => by simp
  | k + 1 => by
    rw [← S_turn F h hF k]
    have e1 := S_front h (fun j => F ((j : Int) + (k : Int)))
    have e2 : S (h + 1) (fun j => F ((j : Int) + (k : Int))) = S h (fun j => F ((j : Int) + (k : Int))) + F ((h : Int) + k) := rfl
    have e3 : S h (fun i => F (((i + 1 : Nat) : Int) + (k : Int))) = S h (fun j => F ((j : Int) + ((k + 1 : Nat) : Int))) := S_congr (fun i _ => by congr 1; omega)
    have e4 := hF (k : Int)
    rw [show (k : Int) + h = (h : Int) + k by omega] at e4
    rw [← e3]
    have e5 : S h (fun i => F (((i + 1 : Nat) : Int) + (k : Int))) = S h (fun j => F ((j : Int) + (k : Int))) + F ((h : Int) + k) - F (k : Int) := by
      have : F ((0 : Nat) + (k : Int)) = F (k : Int) := by simp
      omega
    rw [e5, ← W_W_sub, ← W_add_W, e4, W_add_W, W_W_sub]
    congr 1; omega
theorem sp_sum_S (l : List Int) (T : Int → Int) (s : Nat) : ∀ n, sp_sum l T s n = wrap64 (S n (fun j => l.getD j 0 * T ((j : Int) * (s : Int))))
  | 0 => (W_in (a := 0) (by decide) (by decide)).symm
  | n + 1 => by rw [sp_sum, sp_sum_S l T s n, W_W_add, W_add_W]; rfl
theorem T_per {T : Int → Int} (hT : ∀ x, T (x + 32) = -T x) (x : Int) (k : Nat) : T (x + 64 * (k : Int)) = T x := by
  induction k with
  | zero => simp
  | succ k ih => rw [show x + 64 * ((k + 1 : Nat) : Int) = x + 64 * (k : Int) + 32 + 32 by omega, hT, hT, ih]; omega
theorem T_mod {T : Int → Int} (hT : ∀ x, T (x + 32) = -T x) {x y : Int} (h : x % 64 = y % 64) : T x = T y := by
  have key : ∀ z : Int, T z = T (z % 64) := fun z => by
    rcases Int.le_total 0 (z / 64) with h0 | h0
    · obtain ⟨k, hk⟩ := Int.eq_ofNat_of_zero_le h0
      have := T_per hT (z % 64) k
      rw [← this]; congr 1; omega
    · obtain ⟨k, hk⟩ := Int.eq_ofNat_of_zero_le (show 0 ≤ -(z / 64) by omega)
      have := T_per hT z k
      rw [← this]; congr 1; omega
  rw [key x, key y, h]
theorem may_s {h : Nat} (hm : sp_may h = true) : 0 < h ∧ (h : Int) * ((32 / h : Nat) : Int) = 32 ∧ h ≤ 32 := by
  rcases sp_may_cases hm with rfl | rfl | rfl | rfl | rfl | rfl <;> decide
theorem part_turn (v : List Int) (hv : In64 v) (T : Int → Int) (hT : ∀ x, T (x + 32) = -T x) (hm : sp_may v.length = true) (k : Int) :
    sp_part (turnL v k) T = wrap64 (S v.length (fun j => v.getD j 0 * T (((j : Int) + k) * ((32 / v.length : Nat) : Int)))) := by
  obtain ⟨h0, hs, _⟩ := may_s hm
  unfold sp_part
  rw [turnL_length, if_pos hm, sp_sum_S]
  generalize hss : ((32 / v.length : Nat) : Int) = s at hs
  have e0 : S v.length (fun j => (turnL v k).getD j 0 * T ((j : Int) * s)) = S v.length (fun j => ext v ((j : Int) - k) * T ((j : Int) * s)) := S_congr (fun i hi => by rw [turnL_getD _ _ _ hi])
  have hF : ∀ p : Int, wrap64 (ext v (p + (v.length : Int) - k) * T ((p + (v.length : Int)) * s)) = wrap64 (ext v (p - k) * T (p * s)) := fun p => by
    rw [show p + (v.length : Int) - k = p - k + v.length by omega, ext_half v hv, Int.add_mul, hs, hT, W_W_mul, Int.neg_mul_neg]
  have hk0 := Int.emod_nonneg k (show 2 * (v.length : Int) ≠ 0 by omega)
  obtain ⟨K, hK⟩ := Int.eq_ofNat_of_zero_le hk0
  have hsh := S_turn (fun p => ext v (p - k) * T (p * s)) v.length hF K
  rw [e0, ← hsh]
  congr 1
  refine S_congr (fun i hi => ?_)
  have ek : k = 2 * (v.length : Int) * (k / (2 * (v.length : Int))) + (K : Int) := by rw [← hK]; exact (Int.mul_ediv_add_emod k _).symm
  obtain ⟨z, hz⟩ : ∃ z, k / (2 * (v.length : Int)) = z := ⟨_, rfl⟩
  rw [hz] at ek
  have e1 : ext v ((i : Int) + (K : Int) - k) = v.getD i 0 := by
    rw [← ext_low v i hi]
    refine ext_mod ?_
    rw [show (i : Int) + (K : Int) - k = (i : Int) + 2 * (v.length : Int) * (-z) by rw [Int.mul_neg]; omega, Int.add_mul_emod_self_left]
  have e2 : T (((i : Int) + (K : Int)) * s) = T (((i : Int) + k) * s) := by
    refine T_mod hT ?_
    have e4 : 2 * (v.length : Int) * z * s = 64 * z := by
      rw [Int.mul_right_comm, Int.mul_assoc 2, hs]; omega
    have e3 : ((i : Int) + k) * s = ((i : Int) + (K : Int)) * s + 64 * z := by
      rw [ek, ← e4, ← Int.add_mul]
      congr 1
      omega
    rw [e3, Int.add_mul_emod_self_left]
  rw [e1, e2]
theorem part_S (v : List Int) (T : Int → Int) (hm : sp_may v.length = true) : sp_part v T = wrap64 (S v.length (fun j => v.getD j 0 * T ((j : Int) * ((32 / v.length : Nat) : Int)))) := by
  unfold sp_part
  rw [if_pos hm, sp_sum_S]
theorem cos_fin : ∀ r : Fin 64, cosT ((r.1 : Nat) : Int) = cosT ((r.1 : Nat) : Int) ∧ cosT (((r.1 : Nat) : Int) + 32) = -cosT ((r.1 : Nat) : Int) ∧ cosT (((r.1 : Nat) : Int) + 16) = -sinT ((r.1 : Nat) : Int) ∧ sinT (((r.1 : Nat) : Int) + 16) = cosT ((r.1 : Nat) : Int) ∧ sinT (((r.1 : Nat) : Int) + 32) = -sinT ((r.1 : Nat) : Int) ∧ cosT (-((r.1 : Nat) : Int)) = cosT ((r.1 : Nat) : Int) ∧ sinT (-((r.1 : Nat) : Int)) = -sinT ((r.1 : Nat) : Int) := by decide +kernel
theorem cosT_mod {x y : Int} (h : x % 64 = y % 64) : cosT x = cosT y := by unfold cosT; rw [h]
theorem sinT_mod {x y : Int} (h : x % 64 = y % 64) : sinT x = sinT y := by unfold sinT; rw [h]
theorem T_all (x : Int) : cosT (x + 32) = -cosT x ∧ cosT (x + 16) = -sinT x ∧ sinT (x + 16) = cosT x ∧ sinT (x + 32) = -sinT x ∧ cosT (-x) = cosT x ∧ sinT (-x) = -sinT x := by
  have m0 := Int.emod_nonneg x (show (64 : Int) ≠ 0 by decide)
  have m1 := Int.emod_lt_of_pos x (show (0 : Int) < 64 by decide)
  obtain ⟨n, hn⟩ := Int.eq_ofNat_of_zero_le m0
  have h := cos_fin ⟨n, by omega⟩
  simp only at h
  rw [← hn] at h
  obtain ⟨_, h1, h2, h3, h4, h5, h6⟩ := h
  rw [cosT_mod (x := x + 32) (y := x % 64 + 32) (by omega), cosT_mod (x := x + 16) (y := x % 64 + 16) (by omega), sinT_mod (x := x + 16) (y := x % 64 + 16) (by omega), sinT_mod (x := x + 32) (y := x % 64 + 32) (by omega), cosT_mod (x := -x) (y := -(x % 64)) (by omega), sinT_mod (x := -x) (y := -(x % 64)) (by omega), cosT_mod (x := x) (y := x % 64) (by omega), sinT_mod (x := x) (y := x % 64) (by omega)]
  exact ⟨h1, h2, h3, h4, h5, h6⟩
theorem cos_half (x : Int) : cosT (x + 32) = -cosT x := (T_all x).1
theorem sin_half (x : Int) : sinT (x + 32) = -sinT x := (T_all x).2.2.2.1
theorem neg_S (n : Nat) (g f : Nat → Int) (h : ∀ i, i < n → g i = -f i) : S n g = -S n f := by rw [← S_neg]; exact S_congr h
theorem part_half (v : List Int) (hv : In64 v) (T : Int → Int) (hT : ∀ x, T (x + 32) = -T x) (hm : sp_may v.length = true) : sp_part (turnL v v.length) T = wrap64 (-(sp_part v T)) := by
  rw [part_turn v hv T hT hm, part_S v T hm, W_neg_W]
  congr 1
  refine neg_S _ _ _ (fun i _ => ?_)
  rw [Int.add_mul, (may_s hm).2.1, hT, Int.mul_neg]
theorem part_add (a b : List Int) (T : Int → Int) (h : a.length = b.length) : sp_part (addL a b) T = wrap64 (sp_part a T + sp_part b T) := by
  by_cases hm : sp_may a.length = true
  · rw [part_S _ T (by rw [addL_length h]; exact hm), part_S a T hm, part_S b T (by rw [← h]; exact hm), addL_length h, ← h, W_W_add, W_add_W, ← S_add, ← W_S]
    rw [← W_S _ (fun i => a.getD i 0 * T (↑i * ↑(32 / a.length)) + b.getD i 0 * T (↑i * ↑(32 / a.length)))]
    congr 1
    refine S_congr (fun i hi => ?_)
    rw [addL_getD h i hi, W_W_mul, Int.add_mul]
  · unfold sp_part
    rw [addL_length h, ← h, if_neg hm, if_neg hm, if_neg hm]
    exact (W_in (a := 0) (by decide) (by decide)).symm
theorem part_less (a b : List Int) (T : Int → Int) (h : a.length = b.length) : sp_part (lessL a b) T = wrap64 (sp_part a T - sp_part b T) := by
  by_cases hm : sp_may a.length = true
  · rw [part_S _ T (by rw [lessL_length h]; exact hm), part_S a T hm, part_S b T (by rw [← h]; exact hm), lessL_length h, ← h, W_W_sub, W_sub_W, ← S_sub, ← W_S]
    rw [← W_S _ (fun i => a.getD i 0 * T (↑i * ↑(32 / a.length)) - b.getD i 0 * T (↑i * ↑(32 / a.length)))]
    congr 1
    refine S_congr (fun i hi => ?_)
    rw [lessL_getD h i hi, W_W_mul, Int.sub_mul]
  · unfold sp_part
    rw [lessL_length h, ← h, if_neg hm, if_neg hm, if_neg hm]
    exact (W_in (a := 0) (by decide) (by decide)).symm

/-- A call's result is a row that reads as xs; the world is as it was, but for what is new. -/
def CRes (w0 W : World) (h : Nat) (xs : List Int) (e : Ending) (w' : World) : Prop :=
  ∃ A c, e = .returned (.slice A h c) ∧ h ≤ c ∧ Aside0 ((Kd.int .i64).C w' A h xs) ∧ Aside0 (Below w0.heap.size w0 w') ∧ Aside0 (Below W.heap.size W w')
theorem cres_of {w0 W w' : World} {h : Nat} {xs : List Int} {v : Value} {t b : Nat} {ok : Nat → Prop} (hB : Below w0.heap.size w0 W) (hR : (Kd.int .i64).R t w' b ok v xs) (hl : xs.length = h) (hb : Below W.heap.size W w') : CRes w0 W h xs (.returned v) w' := by
  subst hl
  obtain ⟨A, c, rfl, h1, h2⟩ := Kd.R_reads hR
  exact ⟨A, c, rfl, h1, ⟨h2⟩, ⟨below_step hB hb⟩, ⟨hb⟩⟩
theorem same_go (l : List Int) (hl : l.length ≤ 100000000) (d : Nat) : ∀ (k i : Nat), i ≤ l.length → l.length - i = d → d < k → earshotref04_Same.l0 k l l (i : Int) = some true := by
  induction d with
  | zero =>
    intro k i h0 hd hk
    obtain ⟨k, rfl⟩ : ∃ m, k = m + 1 := ⟨k - 1, by omega⟩
    simp only [earshotref04_Same.l0]
    rw [if_neg (by omega)]
  | succ d ih =>
    intro k i h0 hd hk
    obtain ⟨k, rfl⟩ : ∃ m, k = m + 1 := ⟨k - 1, by omega⟩
    simp only [earshotref04_Same.l0]
    have hw : wrap64 ((i : Int) + 1) = ((i + 1 : Nat) : Int) := by unfold wrap64; omega
    rw [if_pos (by omega), if_pos (by omega), if_pos (by omega), if_pos trivial, hw]
    exact ih k (i + 1) (by omega) (by omega) (by omega)
theorem same_f (l : List Int) (hl : l.length ≤ 100000000) : earshotref04_Same.f (l.length + 1) l l = some true := by
  unfold earshotref04_Same.f
  rw [if_pos rfl]
  exact same_go l hl l.length _ 0 (by omega) (by omega) (by omega)
/-- Two rows that read the same. -/
theorem same_c {w0 : World} (A1 : Option Addr) (h c1 : Nat) (A2 : Option Addr) (c2 : Nat) (l1 l2 : List Int) (W : World) (hB : Below w0.heap.size w0 W) (hl : l1.length = h) (he : l1 = l2) (hC1 : (Kd.int .i64).C W A1 h l1) (hC2 : (Kd.int .i64).C W A2 h l2) (h1 : h ≤ c1) (h2 : h ≤ c2) (hh : h ≤ 1000000) :
    Calls Tryd.prog 19 #[.slice A1 h c1, .slice A2 h c2] W fun e w' => e = .returned (.bool true) ∧ Aside0 (Below w0.heap.size w0 w') ∧ Aside0 (Below W.heap.size W w') := by
  subst he
  subst hl
  exact (earshotref04_Same.calls _ A1 c1 l1 A2 c2 l1 true W hC1 h1 hC2 h2 (same_f l1 (by omega))).mono fun e w' ⟨a, ⟨n, b⟩⟩ => by
    subst b
    exact ⟨a, ⟨pw_below_drewN hB n⟩, ⟨pw_below_drewN (Below.refl _ _) n⟩⟩
theorem zeros_c (X : World) (g n : Nat) (hg : g = X.heap.size) (hn : n ≤ 1000000) : (Kd.int .i64).C (X.alloc (.cells (madeCells #[.int .i64 0] n) 3)) (some ⟨g, 0, none⟩) n (List.replicate n 0) := by
  subst hg
  have h := own_made X X.heap.size 3 .i64 n (Nat.le_refl _) (by omega)
  have hR := Kd.R_of_own (enc := Value.int .i64) (h1 := fun _ => rfl) (ok := fun _ => True) (xs := List.replicate n 0) (by rw [List.length_replicate]; exact h) (fun _ _ => trivial)
  obtain ⟨A, c, he, _, h2⟩ := Kd.R_reads hR
  rw [List.length_replicate] at he h2
  injection he with e1 e2 e3
  rw [e1]
  exact h2
/-- A callee that draws only, in a region that is walked once, in a world that has drawn before. -/
theorem quiet_add {P : Program} {f : FuncId} {args : Array Value} {W : World} {K x : Nat} {v : Value} (h : Calls P f args (W.drewN (K + x)) fun e w' => e = .returned v ∧ Drawn0 (W.drewN (K + x)) w') :
    Calls P f args (W.drewN (K + x)) fun e w'' => e = .returned v ∧ ∃ n, w'' = W.drewN (K + n) :=
  h.mono fun _ _ ⟨he, ⟨m, hm⟩⟩ => ⟨he, x + m, by rw [hm, World.drewN_drewN, Nat.add_assoc]⟩

theorem q_awake : earshotlaw09_awake.f 10 = some true := by decide +kernel
theorem turn_c {w0 : World} (A : Option Addr) (h c : Nat) (l : List Int) (k : Int) (W : World) (hB : Below w0.heap.size w0 W) (hl : l.length = h) (hC : (Kd.int .i64).C W A h l) (hh : h ≤ 1000000) (k0 : -9223372036854775808 ≤ k) (k1 : k ≤ 9223372036854775807) :
    Calls Tryd.prog 15 #[.slice A h c, .int .i64 k] W (CRes w0 W h (turnL l k)) :=
  (turn_go A h c l k W hl hC hh k0 k1).mono fun e w' ⟨v, he, hR, hb⟩ => by subst he; exact cres_of hB hR (by rw [turnL_length, hl]) hb
theorem awake_d {w0 : World} (W : World) (hB : Below w0.heap.size w0 W) (hG : GlobA W) : Calls Tryd.prog 13 #[] W fun e w' => e = .returned (.bool true) ∧ Aside0 (Below w0.heap.size w0 w') ∧ Aside0 (Below W.heap.size W w') :=
  (earshotlaw09_awake.calls 10 true W hG q_awake).mono fun e w' ⟨a, b⟩ => ⟨a, ⟨below_step hB b⟩, ⟨b⟩⟩

theorem rows_one {W : World} {A : Option Addr} {h c : Nat} {l : List Int} {g j : Nat} (hl : l.length = h) (hC : (Kd.int .i64).C W A h l) (hc : h ≤ c) (hcell : W.cell? ⟨g, j, none⟩ = some (.slice A h c)) :
    ∃ cs : List Value, cs.length = (Kd.slice 3 (Kd.int .i64)).sz ∧ (Kd.slice 3 (Kd.int .i64)).K W l cs ∧ ∀ i u, cs[i]? = some u → W.cell? ((⟨g, 0, none⟩ : Addr).add (j * (Kd.slice 3 (Kd.int .i64)).sz + i)) = some u := by
  subst hl
  refine ⟨[.slice A l.length c], rfl, ⟨A, c, rfl, hc, hC⟩, fun i u hu => ?_⟩
  cases i with
  | zero =>
    have hu' : Value.slice A l.length c = u := by simpa using hu
    subst hu'
    rw [show j * (Kd.slice 3 (Kd.int .i64)).sz + 0 = j from by show j * 1 + 0 = j; omega, add_plain]
    exact hcell
  | succ i => simp at hu
theorem add1_c {w0 : World} (g : Nat) (A1 : Option Addr) (h c1 : Nat) (l1 L : List Int) (W : World) (hB : Below w0.heap.size w0 W) (hg : W.heap[g]? = some (.cells #[.slice A1 h c1] 22 (0, 0))) (hl1 : l1.length = h) (hC1 : (Kd.int .i64).C W A1 h l1) (h1 : h ≤ c1) (hh : h ≤ 1000000) (hL : addAll [l1] = L) (hLl : L.length = h) :
    Calls Tryd.prog 20 #[.slice (some ⟨g, 0, none⟩) 1 1] W (CRes w0 W h L) := by
  have hC : (Kd.slice 3 (Kd.int .i64)).C W (some ⟨g, 0, none⟩) 1 [l1] := ⟨rfl, by decide, fun _ => ⟨⟨g, 0, none⟩, rfl, fun j p hj => by
    match j, hj with
    | 0, hj =>
      obtain rfl : l1 = p := by simpa using hj
      exact rows_one hl1 hC1 h1 ((blk_cell hg 0).trans rfl)⟩⟩
  refine (add_go (some ⟨g, 0, none⟩) 1 1 [l1] W rfl hC (by decide) (fun v hv => by rw [List.mem_singleton.1 hv]; omega)).mono fun e w' ⟨v, he, hR, hb⟩ => ?_
  subst he
  rw [hL] at hR
  exact cres_of hB hR hLl hb
theorem add2_c {w0 : World} (g : Nat) (A1 A2 : Option Addr) (h c1 h' c2 k : Nat) (l1 l2 L : List Int) (W : World) (hB : Below w0.heap.size w0 W) (hg : W.heap[g]? = some (.cells #[.slice A1 h c1, .slice A2 h' c2] 22 (0, 0))) (hl1 : l1.length = h) (hl2 : l2.length = h') (hC1 : (Kd.int .i64).C W A1 h l1) (hC2 : (Kd.int .i64).C W A2 h' l2) (h1 : h ≤ c1) (h2 : h' ≤ c2) (hh : h ≤ 1000000) (hh' : h' ≤ 1000000) (hL : addAll [l1, l2] = L) (hLl : L.length = k) :
    Calls Tryd.prog 20 #[.slice (some ⟨g, 0, none⟩) 2 2] W (CRes w0 W k L) := by
  have hC : (Kd.slice 3 (Kd.int .i64)).C W (some ⟨g, 0, none⟩) 2 [l1, l2] := ⟨rfl, by decide, fun _ => ⟨⟨g, 0, none⟩, rfl, fun j p hj => by
    match j, hj with
    | 0, hj =>
      obtain rfl : l1 = p := by simpa using hj
      exact rows_one hl1 hC1 h1 ((blk_cell hg 0).trans rfl)
    | 1, hj =>
      obtain rfl : l2 = p := by simpa using hj
      exact rows_one hl2 hC2 h2 ((blk_cell hg 1).trans rfl)⟩⟩
  refine (add_go (some ⟨g, 0, none⟩) 2 2 [l1, l2] W rfl hC (by decide) (fun v hv => by
    rcases List.mem_cons.1 hv with rfl | hv
    · omega
    · rw [List.mem_singleton.1 hv]; omega)).mono fun e w' ⟨v, he, hR, hb⟩ => ?_
  subst he
  rw [hL] at hR
  exact cres_of hB hR hLl hb
theorem add3_c {w0 : World} (g : Nat) (A1 A2 A3 : Option Addr) (h c1 h' c2 h'' c3 k : Nat) (l1 l2 l3 L : List Int) (W : World) (hB : Below w0.heap.size w0 W) (hg : W.heap[g]? = some (.cells #[.slice A1 h c1, .slice A2 h' c2, .slice A3 h'' c3] 22 (0, 0))) (hl1 : l1.length = h) (hl2 : l2.length = h') (hl3 : l3.length = h'') (hC1 : (Kd.int .i64).C W A1 h l1) (hC2 : (Kd.int .i64).C W A2 h' l2) (hC3 : (Kd.int .i64).C W A3 h'' l3) (h1 : h ≤ c1) (h2 : h' ≤ c2) (h3 : h'' ≤ c3) (hh : h ≤ 1000000) (hh' : h' ≤ 1000000) (hh'' : h'' ≤ 1000000) (hL : addAll [l1, l2, l3] = L) (hLl : L.length = k) :
    Calls Tryd.prog 20 #[.slice (some ⟨g, 0, none⟩) 3 3] W (CRes w0 W k L) := by
  have hC : (Kd.slice 3 (Kd.int .i64)).C W (some ⟨g, 0, none⟩) 3 [l1, l2, l3] := ⟨rfl, by decide, fun _ => ⟨⟨g, 0, none⟩, rfl, fun j p hj => by
    match j, hj with
    | 0, hj =>
      obtain rfl : l1 = p := by simpa using hj
      exact rows_one hl1 hC1 h1 ((blk_cell hg 0).trans rfl)
    | 1, hj =>
      obtain rfl : l2 = p := by simpa using hj
      exact rows_one hl2 hC2 h2 ((blk_cell hg 1).trans rfl)
    | 2, hj =>
      obtain rfl : l3 = p := by simpa using hj
      exact rows_one hl3 hC3 h3 ((blk_cell hg 2).trans rfl)⟩⟩
  refine (add_go (some ⟨g, 0, none⟩) 3 3 [l1, l2, l3] W rfl hC (by decide) (fun v hv => by
    rcases List.mem_cons.1 hv with rfl | hv
    · omega
    rcases List.mem_cons.1 hv with rfl | hv
    · omega
    · rw [List.mem_singleton.1 hv]; omega)).mono fun e w' ⟨v, he, hR, hb⟩ => ?_
  subst he
  rw [hL] at hR
  exact cres_of hB hR hLl hb
theorem add_zero_l (a : List Int) (ha : In64 a) : addL (List.replicate a.length 0) a = a := by
  refine row_ext (by rw [addL_length (by simp)]; simp) (fun i hi => ?_)
  rw [addL_length (by simp), List.length_replicate] at hi
  rw [addL_getD (by simp) i (by simpa using hi)]
  have : (List.replicate a.length (0 : Int)).getD i 0 = 0 := by rw [List.getD_eq_getElem?_getD, List.getElem?_replicate, if_pos hi]; rfl
  rw [this, Int.zero_add, ha.getD]
theorem addAll_one (a : List Int) (ha : In64 a) : addAll [a] = a := by
  show addGo a.length [a] (List.replicate a.length 0) = a
  rw [addGo, add_zero_l a ha, if_pos rfl, addGo]
theorem addAll_two (a b : List Int) (ha : In64 a) : addAll [a, b] = addL a b := by
  show addGo a.length [a, b] (List.replicate a.length 0) = _
  rw [addGo, add_zero_l a ha, if_pos rfl, addGo, addGo]
  split
  · rfl
  · rename_i h
    unfold addL at h ⊢
    split at h
    · rename_i e
      rw [List.length_zipWith] at h; omega
    · rw [if_neg ‹_›]
theorem addAll_three (a b c : List Int) (ha : In64 a) (hb : a.length = b.length) (hc : a.length = c.length) : addAll [a, b, c] = addL (addL a b) c := by
  show addGo a.length [a, b, c] (List.replicate a.length 0) = _
  rw [addGo, add_zero_l a ha, if_pos rfl, addGo, if_pos (addL_length hb), addGo, if_pos, addGo]
  rw [addL_length (by rw [addL_length hb, hc]), addL_length hb]
theorem half_zero (v : List Int) (hv : In64 v) : addL (turnL v v.length) v = List.replicate v.length 0 := by
  refine row_ext (by rw [addL_length (by simp [turnL_length]), turnL_length]; simp) (fun i hi => ?_)
  rw [addL_length (by simp [turnL_length]), turnL_length] at hi
  rw [addL_getD (by simp [turnL_length]) i (by rw [turnL_length]; exact hi), turn_half_getD v hv i hi, W_W_add]
  have : (List.replicate v.length (0 : Int)).getD i 0 = 0 := by rw [List.getD_eq_getElem?_getD, List.getElem?_replicate, if_pos hi]; rfl
  rw [this, show -(v.getD i 0) + v.getD i 0 = 0 by omega]
  exact W_in (by decide) (by decide)

theorem less_c {w0 : World} (A1 A2 : Option Addr) (h c1 h' c2 k : Nat) (l1 l2 : List Int) (W : World) (hB : Below w0.heap.size w0 W) (hl1 : l1.length = h) (hl2 : l2.length = h') (hC1 : (Kd.int .i64).C W A1 h l1) (hC2 : (Kd.int .i64).C W A2 h' l2) (hh : h ≤ 1000000) (hh' : h' ≤ 1000000) (hLl : (lessL l1 l2).length = k) :
    Calls Tryd.prog 22 #[.slice A1 h c1, .slice A2 h' c2] W (CRes w0 W k (lessL l1 l2)) :=
  (less_go A1 A2 h c1 h' c2 l1 l2 W hl1 hC1 hl2 hC2 hh hh').mono fun e w' ⟨v, he, hR, hb⟩ => by subst he; exact cres_of hB hR hLl hb

theorem real_d {w0 : World} (A : Option Addr) (h c : Nat) (l : List Int) (r : Int) (W : World) (hB : Below w0.heap.size w0 W) (hG : GlobA W) (hl : l.length = h) (hC : (Kd.int .i64).C W A h l) (hh : h ≤ 1000000) (hr : sp_part l cosT = r) :
    Calls Tryd.prog 16 #[.slice A h c] W fun e w' => e = .returned (.int .i64 r) ∧ Aside0 (Below w0.heap.size w0 w') ∧ Aside0 (Below W.heap.size W w') := by
  subst hr
  exact (real_go A h c l W hG hl hC hh).mono fun e w' ⟨a, ⟨n, b⟩⟩ => by
    subst b
    exact ⟨a, ⟨pw_below_drewN hB n⟩, ⟨pw_below_drewN (Below.refl _ _) n⟩⟩
theorem imag_d {w0 : World} (A : Option Addr) (h c : Nat) (l : List Int) (r : Int) (W : World) (hB : Below w0.heap.size w0 W) (hG : GlobA W) (hl : l.length = h) (hC : (Kd.int .i64).C W A h l) (hh : h ≤ 1000000) (hr : wrap64 (-(sp_part l sinT)) = r) :
    Calls Tryd.prog 17 #[.slice A h c] W fun e w' => e = .returned (.int .i64 r) ∧ Aside0 (Below w0.heap.size w0 w') ∧ Aside0 (Below W.heap.size W w') := by
  subst hr
  exact (imag_go A h c l W hG hl hC hh).mono fun e w' ⟨a, ⟨n, b⟩⟩ => by
    subst b
    exact ⟨a, ⟨pw_below_drewN hB n⟩, ⟨pw_below_drewN (Below.refl _ _) n⟩⟩

theorem rmay_f (h : Nat) : earshotref09_May.f (h : Int) = some (sp_may h) := by
  unfold earshotref09_May.f sp_may
  by_cases h1 : h = 1
  · subst h1; rfl
  by_cases h2 : h = 2
  · subst h2; rfl
  by_cases h4 : h = 4
  · subst h4; rfl
  by_cases h8 : h = 8
  · subst h8; rfl
  by_cases h16 : h = 16
  · subst h16; rfl
  rw [if_neg (by omega), if_neg (by omega), if_neg (by omega), if_neg (by omega), if_neg (by omega)]
  have e : ∀ a b : Nat, a ≠ b → (a == b) = false := fun a b h => by simp [h]
  rw [e h 1 h1, e h 2 h2, e h 4 h4, e h 8 h8, e h 16 h16]
  simp only [Bool.false_or]
  congr 1
  by_cases h32 : h = 32
  · subst h32; rfl
  · rw [e h 32 h32]; simp; omega
theorem may_d {w0 : World} (h : Nat) (b : Bool) (W : World) (hB : Below w0.heap.size w0 W) (hb : sp_may h = b) : Calls Tryd.prog 23 #[.int .i64 (h : Int)] W fun e w' => e = .returned (.bool b) ∧ Aside0 (Below w0.heap.size w0 w') ∧ Aside0 (Below W.heap.size W w') :=
  (earshotref09_May.calls (h : Int) b W (by rw [rmay_f, hb])).mono fun e w' ⟨a, ⟨n, b⟩⟩ => by
    subst b
    exact ⟨a, ⟨pw_below_drewN hB n⟩, ⟨pw_below_drewN (Below.refl _ _) n⟩⟩
theorem rform_ {e : Nat} {w : World} {base : Nat} {ok : Nat → Prop} {v : Value} {xs : List Int} {m : Nat} (h : (Kd.int .i64).R e w base ok v xs) (hm : xs.length = m) : ∃ A c, v = .slice A m c ∧ m ≤ c ∧ Aside0 ((Kd.int .i64).C w A m xs) := by
  subst hm
  obtain ⟨A, c, rfl, h1, h2⟩ := Kd.R_reads h
  exact ⟨A, c, rfl, h1, ⟨h2⟩⟩
theorem own_at_some {W : World} {b n c : Nat} {A : Option Addr} {xs : List Int} (h : W.ownsRow b 3 1 (.slice A n c) xs.length (encs (Value.int .i64) xs)) (hl : xs.length = n) (h0 : 0 < n) : ∃ g, A = some ⟨g, 0, none⟩ ∧ b ≤ g := by
  rw [hl] at h
  obtain ⟨g, cap, he, _⟩ := World.ownsRow.form h h0
  injection he with e1 e2 e3
  subst e1
  exact ⟨g, rfl, own_base h g rfl⟩
theorem addAll_ne (a b c : List Int) (ha : In64 a) (hb : a.length ≠ b.length) : addAll [a, b, c] = [] := by
  show addGo a.length [a, b, c] (List.replicate a.length 0) = _
  rw [addGo, add_zero_l a ha, if_pos rfl, addGo]
  have e : addL a b = [] := by unfold addL; rw [if_neg hb]
  rw [e]
  split
  · rename_i h
    have h0 : a.length = 0 := by simpa using h.symm
    rw [addGo]
    have e2 : addL [] c = [] := by unfold addL; split <;> rfl
    rw [e2, if_pos h, addGo]
  · rfl
def earshotlaw09_SpinSizes.f (l0 l1 : List Int) (a2 : Int) : Option (Bool) := if decide (l0.length ≤ 4000000000000000000) && l0.all (fun x => decide (-9223372036854775808 ≤ x) && decide (x ≤ 9223372036854775807)) && decide (l1.length ≤ 4000000000000000000) && l1.all (fun x => decide (-9223372036854775808 ≤ x) && decide (x ≤ 9223372036854775807)) && decide (-9223372036854775808 ≤ a2) && decide (a2 ≤ 9223372036854775807) then some true else none
set_option maxHeartbeats 32000000 in
set_option maxRecDepth 100000 in
theorem sizes_em (A0 A1 : Option Addr) (m c0 m1 c1 : Nat) (l0 l1 : List Int) (q : Int) (w : World) (hG : GlobA w) (hl : l0.length = m) (hC : Kd.C (Kd.int .i64) w A0 m l0) (hmc : m ≤ c0) (hv : In64 l0) (hl1 : l1.length = m1) (hC1 : Kd.C (Kd.int .i64) w A1 m1 l1) (hmc1 : m1 ≤ c1) (q0 : -9223372036854775808 ≤ q) (q1 : q ≤ 9223372036854775807) (hnm : min 40 m = min 40 m1) (hmay : sp_may (min 40 m) = true) :
    Calls Tryd.prog 7 #[.slice A0 m c0, .slice A1 m1 c1, .int .i64 q] w fun e w' => e = .returned (.bool true) ∧ Below w.heap.size w w' := by
  obtain ⟨n, hk⟩ : ∃ k, min 40 m = k := ⟨_, rfl⟩
  obtain ⟨k1, hk'⟩ : ∃ k, min 40 m1 = k := ⟨_, rfl⟩
  obtain ⟨x, hx⟩ : ∃ x, l0.take n = x := ⟨_, rfl⟩
  obtain ⟨y, hy⟩ : ∃ y, l1.take k1 = y := ⟨_, rfl⟩
  have hxl : x.length = n := by rw [← hx, List.length_take]; omega
  have hyl : y.length = k1 := by rw [← hy, List.length_take]; omega
  have HCX : Aside0 (Kd.C (Kd.int .i64) w A0 n x) := ⟨by
    subst hl
    have := Kd.C_take hC (m := n) (by omega)
    rwa [hx, hxl] at this⟩
  have HCY : Aside0 (Kd.C (Kd.int .i64) w A1 k1 y) := ⟨by
    subst hl1
    have := Kd.C_take hC1 (m := k1) (by omega)
    rwa [hy, hyl] at this⟩
  have hix : In64 x := fun a ha => hv a (by rw [← hx] at ha; exact List.mem_of_mem_take ha)
  have HLX := Aside0.mk hxl
  have HLY := Aside0.mk hyl
  have hk0c : n ≤ c0 := by omega
  have hk1c : k1 ≤ c1 := by omega
  have hn40 : n ≤ 40 := by omega
  have hk40 : k1 ≤ 40 := by omega
  have HK0 := Aside0.mk hk
  have HK1 := Aside0.mk hk'
  have HG0 := Aside0.mk hG
  have HG := HG0
  have HB : Aside0 (Below w.heap.size w w) := ⟨Below.refl _ _⟩
  have HLT : Aside0 ((turnL x q).length = n) := ⟨by rw [turnL_length, hxl]⟩
  have ST0 : True := trivial
  obtain ⟨sl, hsl⟩ : ∃ sl, addAll [x, y, x] = sl := ⟨_, rfl⟩
  have HE0 := Aside0.mk hsl
  have hR0 : sp_may n = false → sp_part x cosT = 0 ∧ wrap64 (-(sp_part x sinT)) = 0 := fun h => by
    unfold sp_part
    rw [hxl, h, if_neg (by decide), if_neg (by decide)]
    exact ⟨rfl, W_in (a := -0) (by decide) (by decide)⟩
  rw [hk] at hmay hnm
  rw [hk'] at hnm
  subst hnm
  have HLS : Aside0 (sl.length = n) := ⟨by rw [← hsl, addAll_three x y x hix (by rw [hxl, hyl]) rfl, addL_length (by rw [addL_length (by rw [hxl, hyl])]), addL_length (by rw [hxl, hyl]), hxl]⟩
  have HLD : Aside0 ((lessL x y).length = n) := ⟨by rw [lessL_length (by rw [hxl, hyl]), hxl]⟩
  have HMAY := Aside0.mk hmay
  clear hG hl hC hv hl1 hC1 hk hk' hx hy hxl hyl hix hsl hR0 hmay
  go_enter Tryd.func7, Tryd.ntmps7
  go_wp2_with (first
    | (go_at_call 13; clear ST0; (with_reducible refine (awake_d (w0 := w) _ (by repeat (first | exact HB.out | apply below_alloc | apply pw_below_drewN | apply below_drew1)) HG.out).mono ?_); rintro e wk0 ⟨rfl, HBm, Sm⟩; have HBn := HBm; clear HB; have HB := HBn; clear HBn HBm; have HGn := Aside0.mk (HG0.out.below HB.out); clear HG; have HG := HGn; clear HGn; clear Sm; have ST1 : True := trivial)
    | ((with_reducible refine gate_dst (N := 18) rfl ?_); clear ST1; refine Kd.R_lit (Kd.int .i64) (w0 := wk0) wk0.heap.size 3 ?hg (N := 18) ?hd (xs := ([] : List Int)) (inner := []) (ok := fun _ => True) (okp := fun _ => True) ?hr ?hp (fun _ hk => hk) trivial (Below.refl _ _) (Nat.le_refl _) (by simp) ?_; (case hd => rfl); (case hg => first | rfl | exact wanted_on rfl rfl rfl (by first | assumption | rfl | (simp [*]; done))); (case hr => first | (go_simp; done) | (go_simp; rfl)); (case hp => exact Reps.none _ _); intro ve wl1 ho hbl hg_ hnew_; clear hg_ hnew_; have HE := Aside0.mk ho; have HBL := Aside0.mk hbl; have ST2 : True := trivial; clear ho hbl)
    | (go_at_call 18; clear ST2; (with_reducible refine (few_go A0 m c0 _ hmc).mono ?_); rintro e w' ⟨rfl, rfl⟩; rw [HK0.out]; have ST3 : True := trivial)
    | ((with_reducible refine gate_builtin (b := .append) (xs := #[.tmp 18, .tmp 20]) rfl ?_); at_builtin; clear ST3; refine Kd.R_append_row (Value.int .i64) (0 : Int) (h1 := fun _ => rfl) (w0 := wk0) wk0.heap.size rfl (.tmp 18) (.tmp 20) 22 3 (.int .i64 0) 8 rfl Tryd.underlying22 turn_info rfl (by decide) ve [] x A0 n c0 (fun _ => True) rfl rfl (fun _ _ => trivial) HE.out ?aC HBL.out HBL.out.size ?aL ?_; (case aC => exact Kd.C_below HCX.out (below_step HB.out HBL.out)); (case aL => simp only [List.length_nil]; omega); intro va wa1 ho hbl hg hat; clear hg hat HE HBL; rw [List.nil_append] at ho; obtain ⟨AV, cV, rfl, lV, CV⟩ := rform_ ho HLX.out; have HBm := Aside0.mk (below_step HB.out hbl); have Sm := Aside0.mk hbl; clear ho hbl; have HBn := HBm; clear HB; have HB := HBn; clear HBn HBm; have HGn := Aside0.mk (HG0.out.below HB.out); clear HG; have HG := HGn; clear HGn; clear Sm; have ST4 : True := trivial)
    | ((with_reducible refine gate_dst (N := 22) rfl ?_); clear ST4; refine Kd.R_lit (Kd.int .i64) (w0 := wa1) wa1.heap.size 3 ?hg (N := 22) ?hd (xs := ([] : List Int)) (inner := []) (ok := fun _ => True) (okp := fun _ => True) ?hr ?hp (fun _ hk => hk) trivial (Below.refl _ _) (Nat.le_refl _) (by simp) ?_; (case hd => rfl); (case hg => first | rfl | exact wanted_on rfl rfl rfl (by first | assumption | rfl | (simp [*]; done))); (case hr => first | (go_simp; done) | (go_simp; rfl)); (case hp => exact Reps.none _ _); intro ve wl4 ho hbl hg_ hnew_; clear hg_ hnew_; have HE := Aside0.mk ho; have HBL := Aside0.mk hbl; have ST5 : True := trivial; clear ho hbl)
    | (go_at_call 18; clear ST5; (with_reducible refine (few_go A1 m1 c1 _ hmc1).mono ?_); rintro e w' ⟨rfl, rfl⟩; rw [HK1.out]; have ST6 : True := trivial)
    | ((with_reducible refine gate_builtin (b := .append) (xs := #[.tmp 22, .tmp 24]) rfl ?_); at_builtin; clear ST6; refine Kd.R_append_row (Value.int .i64) (0 : Int) (h1 := fun _ => rfl) (w0 := wa1) wa1.heap.size rfl (.tmp 22) (.tmp 24) 22 3 (.int .i64 0) 8 rfl Tryd.underlying22 turn_info rfl (by decide) ve [] y A1 n c1 (fun _ => True) rfl rfl (fun _ _ => trivial) HE.out ?aC HBL.out HBL.out.size ?aL ?_; (case aC => exact Kd.C_below HCY.out (below_step HB.out HBL.out)); (case aL => simp only [List.length_nil]; omega); intro va wa4 ho hbl hg hat; clear hg hat HE HBL; rw [List.nil_append] at ho; obtain ⟨AU, cU, rfl, lU, CU⟩ := rform_ ho HLY.out; have HBm := Aside0.mk (below_step HB.out hbl); have Sm := Aside0.mk hbl; clear ho hbl; have HBn := HBm; clear HB; have HB := HBn; clear HBn HBm; have Cn := Aside0.mk (Kd.C_below (d := Kd.int .i64) (A := AV) (n := n) (xs := x) (by repeat (first | exact CV.out | refine Kd.C_alloc ?_ _ | refine Kd.C_drewN ?_ _ | refine Kd.C_drew ?_)) Sm.out); clear CV; have CV := Cn; clear Cn; have HGn := Aside0.mk (HG0.out.below HB.out); clear HG; have HG := HGn; clear HGn; clear Sm; have ST7 : True := trivial)
    | (go_at_call 23; clear ST7; (with_reducible refine (may_d (w0 := w) n true _ (by repeat (first | exact HB.out | apply below_alloc | apply pw_below_drewN | apply below_drew1)) HMAY.out).mono ?_); rintro e wk7 ⟨rfl, HBm, Sm⟩; have HBn := HBm; clear HB; have HB := HBn; clear HBn HBm; have Cn := Aside0.mk (Kd.C_below (d := Kd.int .i64) (A := AV) (n := n) (xs := x) (by repeat (first | exact CV.out | refine Kd.C_alloc ?_ _ | refine Kd.C_drewN ?_ _ | refine Kd.C_drew ?_)) Sm.out); clear CV; have CV := Cn; clear Cn; have Cn := Aside0.mk (Kd.C_below (d := Kd.int .i64) (A := AU) (n := n) (xs := y) (by repeat (first | exact CU.out | refine Kd.C_alloc ?_ _ | refine Kd.C_drewN ?_ _ | refine Kd.C_drew ?_)) Sm.out); clear CU; have CU := Cn; clear Cn; have HGn := Aside0.mk (HG0.out.below HB.out); clear HG; have HG := HGn; clear HGn; clear Sm; have ST8 : True := trivial)
    | (go_at_call 20; clear ST8; (with_reducible refine (add3_c (w0 := w) _ AV AU AV n cV n cU n cV n x y x sl _ (by repeat (first | exact HB.out | apply below_alloc | apply pw_below_drewN | apply below_drew1)) (by first | exact heap_alloc_new _ _ | (rw [Below.heap_alloc _ _ _ (by simp)]; exact heap_alloc_new _ _) | (simpa using heap_alloc_new _ _)) HLX.out HLY.out HLX.out (by repeat (first | exact CV.out | refine Kd.C_alloc ?_ _ | refine Kd.C_drewN ?_ _ | refine Kd.C_drew ?_)) (by repeat (first | exact CU.out | refine Kd.C_alloc ?_ _ | refine Kd.C_drewN ?_ _ | refine Kd.C_drew ?_)) (by repeat (first | exact CV.out | refine Kd.C_alloc ?_ _ | refine Kd.C_drewN ?_ _ | refine Kd.C_drew ?_)) lV lU lV (by omega) (by omega) (by omega) HE0.out HLS.out).mono ?_); rintro e wk8 ⟨AS, cS, rfl, lS, CS, HBm, Sm⟩; have HBn := HBm; clear HB; have HB := HBn; clear HBn HBm; have Cn := Aside0.mk (Kd.C_below (d := Kd.int .i64) (A := AV) (n := n) (xs := x) (by repeat (first | exact CV.out | refine Kd.C_alloc ?_ _ | refine Kd.C_drewN ?_ _ | refine Kd.C_drew ?_)) Sm.out); clear CV; have CV := Cn; clear Cn; have Cn := Aside0.mk (Kd.C_below (d := Kd.int .i64) (A := AU) (n := n) (xs := y) (by repeat (first | exact CU.out | refine Kd.C_alloc ?_ _ | refine Kd.C_drewN ?_ _ | refine Kd.C_drew ?_)) Sm.out); clear CU; have CU := Cn; clear Cn; have HGn := Aside0.mk (HG0.out.below HB.out); clear HG; have HG := HGn; clear HGn; clear Sm; have ST9 : True := trivial)
    | (go_at_call 22; clear ST9; (with_reducible refine (less_c (w0 := w) AV AU n cV n cU n x y _ (by repeat (first | exact HB.out | apply below_alloc | apply pw_below_drewN | apply below_drew1)) HLX.out HLY.out (by repeat (first | exact CV.out | refine Kd.C_alloc ?_ _ | refine Kd.C_drewN ?_ _ | refine Kd.C_drew ?_)) (by repeat (first | exact CU.out | refine Kd.C_alloc ?_ _ | refine Kd.C_drewN ?_ _ | refine Kd.C_drew ?_)) (by omega) (by omega) HLD.out).mono ?_); rintro e wk9 ⟨AD, cD, rfl, lD, CD, HBm, Sm⟩; have HBn := HBm; clear HB; have HB := HBn; clear HBn HBm; have Cn := Aside0.mk (Kd.C_below (d := Kd.int .i64) (A := AV) (n := n) (xs := x) (by repeat (first | exact CV.out | refine Kd.C_alloc ?_ _ | refine Kd.C_drewN ?_ _ | refine Kd.C_drew ?_)) Sm.out); clear CV; have CV := Cn; clear Cn; have Cn := Aside0.mk (Kd.C_below (d := Kd.int .i64) (A := AU) (n := n) (xs := y) (by repeat (first | exact CU.out | refine Kd.C_alloc ?_ _ | refine Kd.C_drewN ?_ _ | refine Kd.C_drew ?_)) Sm.out); clear CU; have CU := Cn; clear Cn; have HGn := Aside0.mk (HG0.out.below HB.out); clear HG; have HG := HGn; clear HGn; clear CS; clear Sm; have ST10 : True := trivial)
    | (go_at_call 15; clear ST10; (with_reducible refine (turn_go AV n cV x q _ HLX.out (by repeat (first | exact CV.out | refine Kd.C_alloc ?_ _ | refine Kd.C_drewN ?_ _ | refine Kd.C_drew ?_)) (by omega) q0 q1).mono ?_); rintro e wt ⟨vt, rfl, hRt, hbt⟩; obtain ⟨At, ct, rfl, lt, Ct⟩ := rform_ hRt HLT.out; have HRT := Aside0.mk (Kd.own_of_R hRt); have HST := Aside0.mk hbt; clear hRt hbt))
  have HAT : Aside0 (0 < n → ∃ g, At = some ⟨g, 0, none⟩ ∧ wk9.heap.size ≤ g) := ⟨fun h0 => own_at_some HRT.out HLT.out h0⟩
  have HRT2 : Aside0 (wt.ownsRow wk9.heap.size 3 1 (.slice At n ct) n (nums .i64 (turnL x q))) := ⟨by have := HRT.out; rwa [HLT.out] at this⟩
  have VP := Aside0.mk CV.out
  have UP := Aside0.mk CU.out
  have HBP := Aside0.mk HB.out
  go_loopw [14] (fun v wr => ∃ (i : Nat) (xs : List Int), i ≤ n ∧ v = .int .i64 (i : Int) ∧ Aside0 (wr.ownsRow wk9.heap.size 3 1 (.slice At n ct) n (nums .i64 xs)) ∧ Aside0 (Below wk9.heap.size wk9 wr)) (fun v _ => n - (intOf v).toNat)
  case atStart => exact ⟨0, _, by omega, rfl, HRT2, HST⟩
  case round =>
    obtain ⟨i, xs, hi, rfl, HO, HBR⟩ := hrel
    by_cases hlt : i < n
    · obtain ⟨g, rfl, hg⟩ := HAT.out (by omega)
      obtain ⟨⟨z, hz⟩, hfr⟩ := own_free HO.out i hlt
      go_wp2
      go_roundw
      case rel =>
        have hst := own_store HO.out (i : Int) 5
        rw [Int.toNat_natCast] at hst
        exact ⟨i + 1, _, by omega, by go_num, ⟨hst.1⟩, ⟨Below.grown HBR.out hst.2 HBR.out.size (fun k hk => by injection hk with hk; omega)⟩⟩
      case measure => simp [intOf]; omega
    · obtain rfl : n = i := by omega
      have HB3 := Aside0.mk (below_step HBP.out HBR.out)
      have V3 := Aside0.mk (Kd.C_below VP.out HBR.out)
      have U3 := Aside0.mk (Kd.C_below UP.out HBR.out)
      have ST50 : True := trivial
      go_wp2_with (first
        | (go_at_call 18; clear ST50; (with_reducible refine (few_go A0 m c0 _ hmc).mono ?_); rintro e w' ⟨rfl, rfl⟩; rw [HK0.out]; have ST51 : True := trivial)
        | (go_at_call 19; clear ST51; (with_reducible refine (same_c (w0 := w) AV n cV A0 c0 _ _ _ HB3.out HLX.out rfl V3.out (Kd.C_below HCX.out HB3.out) lV hk0c (by omega)).mono ?_); rintro e w51 ⟨rfl, HB4, S4⟩; have U4 := Aside0.mk (Kd.C_below U3.out S4.out); have ST52 : True := trivial)
        | (go_at_call 18; clear ST52; (with_reducible refine (few_go A1 m1 c1 _ hmc1).mono ?_); rintro e w' ⟨rfl, rfl⟩; rw [HK1.out]; have ST53 : True := trivial)
        | (go_at_call 19; clear ST53; (with_reducible refine (same_c (w0 := w) AU n cU A1 c1 _ _ _ HB4.out HLY.out rfl U4.out (Kd.C_below HCY.out HB4.out) lU hk1c (by omega)).mono ?_); rintro e w53 ⟨rfl, HB5, S5⟩))
      go_ret
      exact ⟨rfl, HB5.out⟩
set_option maxHeartbeats 32000000 in
set_option maxRecDepth 100000 in
theorem sizes_eo (A0 A1 : Option Addr) (m c0 m1 c1 : Nat) (l0 l1 : List Int) (q : Int) (w : World) (hG : GlobA w) (hl : l0.length = m) (hC : Kd.C (Kd.int .i64) w A0 m l0) (hmc : m ≤ c0) (hv : In64 l0) (hl1 : l1.length = m1) (hC1 : Kd.C (Kd.int .i64) w A1 m1 l1) (hmc1 : m1 ≤ c1) (q0 : -9223372036854775808 ≤ q) (q1 : q ≤ 9223372036854775807) (hnm : min 40 m = min 40 m1) (hmay : sp_may (min 40 m) = false) :
    Calls Tryd.prog 7 #[.slice A0 m c0, .slice A1 m1 c1, .int .i64 q] w fun e w' => e = .returned (.bool true) ∧ Below w.heap.size w w' := by
  obtain ⟨n, hk⟩ : ∃ k, min 40 m = k := ⟨_, rfl⟩
  obtain ⟨k1, hk'⟩ : ∃ k, min 40 m1 = k := ⟨_, rfl⟩
  obtain ⟨x, hx⟩ : ∃ x, l0.take n = x := ⟨_, rfl⟩
  obtain ⟨y, hy⟩ : ∃ y, l1.take k1 = y := ⟨_, rfl⟩
  have hxl : x.length = n := by rw [← hx, List.length_take]; omega
  have hyl : y.length = k1 := by rw [← hy, List.length_take]; omega
  have HCX : Aside0 (Kd.C (Kd.int .i64) w A0 n x) := ⟨by
    subst hl
    have := Kd.C_take hC (m := n) (by omega)
    rwa [hx, hxl] at this⟩
  have HCY : Aside0 (Kd.C (Kd.int .i64) w A1 k1 y) := ⟨by
    subst hl1
    have := Kd.C_take hC1 (m := k1) (by omega)
    rwa [hy, hyl] at this⟩
  have hix : In64 x := fun a ha => hv a (by rw [← hx] at ha; exact List.mem_of_mem_take ha)
  have HLX := Aside0.mk hxl
  have HLY := Aside0.mk hyl
  have hk0c : n ≤ c0 := by omega
  have hk1c : k1 ≤ c1 := by omega
  have hn40 : n ≤ 40 := by omega
  have hk40 : k1 ≤ 40 := by omega
  have HK0 := Aside0.mk hk
  have HK1 := Aside0.mk hk'
  have HG0 := Aside0.mk hG
  have HG := HG0
  have HB : Aside0 (Below w.heap.size w w) := ⟨Below.refl _ _⟩
  have HLT : Aside0 ((turnL x q).length = n) := ⟨by rw [turnL_length, hxl]⟩
  have ST0 : True := trivial
  obtain ⟨sl, hsl⟩ : ∃ sl, addAll [x, y, x] = sl := ⟨_, rfl⟩
  have HE0 := Aside0.mk hsl
  have hR0 : sp_may n = false → sp_part x cosT = 0 ∧ wrap64 (-(sp_part x sinT)) = 0 := fun h => by
    unfold sp_part
    rw [hxl, h, if_neg (by decide), if_neg (by decide)]
    exact ⟨rfl, W_in (a := -0) (by decide) (by decide)⟩
  rw [hk] at hmay hnm
  rw [hk'] at hnm
  subst hnm
  have HLS : Aside0 (sl.length = n) := ⟨by rw [← hsl, addAll_three x y x hix (by rw [hxl, hyl]) rfl, addL_length (by rw [addL_length (by rw [hxl, hyl])]), addL_length (by rw [hxl, hyl]), hxl]⟩
  have HLD : Aside0 ((lessL x y).length = n) := ⟨by rw [lessL_length (by rw [hxl, hyl]), hxl]⟩
  have HR := Aside0.mk (hR0 hmay).1
  have HI := Aside0.mk (hR0 hmay).2
  have HMAY := Aside0.mk hmay
  clear hG hl hC hv hl1 hC1 hk hk' hx hy hxl hyl hix hsl hR0 hmay
  go_enter Tryd.func7, Tryd.ntmps7
  go_wp2_with (first
    | (go_at_call 13; clear ST0; (with_reducible refine (awake_d (w0 := w) _ (by repeat (first | exact HB.out | apply below_alloc | apply pw_below_drewN | apply below_drew1)) HG.out).mono ?_); rintro e wk0 ⟨rfl, HBm, Sm⟩; have HBn := HBm; clear HB; have HB := HBn; clear HBn HBm; have HGn := Aside0.mk (HG0.out.below HB.out); clear HG; have HG := HGn; clear HGn; clear Sm; have ST1 : True := trivial)
    | ((with_reducible refine gate_dst (N := 18) rfl ?_); clear ST1; refine Kd.R_lit (Kd.int .i64) (w0 := wk0) wk0.heap.size 3 ?hg (N := 18) ?hd (xs := ([] : List Int)) (inner := []) (ok := fun _ => True) (okp := fun _ => True) ?hr ?hp (fun _ hk => hk) trivial (Below.refl _ _) (Nat.le_refl _) (by simp) ?_; (case hd => rfl); (case hg => first | rfl | exact wanted_on rfl rfl rfl (by first | assumption | rfl | (simp [*]; done))); (case hr => first | (go_simp; done) | (go_simp; rfl)); (case hp => exact Reps.none _ _); intro ve wl1 ho hbl hg_ hnew_; clear hg_ hnew_; have HE := Aside0.mk ho; have HBL := Aside0.mk hbl; have ST2 : True := trivial; clear ho hbl)
    | (go_at_call 18; clear ST2; (with_reducible refine (few_go A0 m c0 _ hmc).mono ?_); rintro e w' ⟨rfl, rfl⟩; rw [HK0.out]; have ST3 : True := trivial)
    | ((with_reducible refine gate_builtin (b := .append) (xs := #[.tmp 18, .tmp 20]) rfl ?_); at_builtin; clear ST3; refine Kd.R_append_row (Value.int .i64) (0 : Int) (h1 := fun _ => rfl) (w0 := wk0) wk0.heap.size rfl (.tmp 18) (.tmp 20) 22 3 (.int .i64 0) 8 rfl Tryd.underlying22 turn_info rfl (by decide) ve [] x A0 n c0 (fun _ => True) rfl rfl (fun _ _ => trivial) HE.out ?aC HBL.out HBL.out.size ?aL ?_; (case aC => exact Kd.C_below HCX.out (below_step HB.out HBL.out)); (case aL => simp only [List.length_nil]; omega); intro va wa1 ho hbl hg hat; clear hg hat HE HBL; rw [List.nil_append] at ho; obtain ⟨AV, cV, rfl, lV, CV⟩ := rform_ ho HLX.out; have HBm := Aside0.mk (below_step HB.out hbl); have Sm := Aside0.mk hbl; clear ho hbl; have HBn := HBm; clear HB; have HB := HBn; clear HBn HBm; have HGn := Aside0.mk (HG0.out.below HB.out); clear HG; have HG := HGn; clear HGn; clear Sm; have ST4 : True := trivial)
    | ((with_reducible refine gate_dst (N := 22) rfl ?_); clear ST4; refine Kd.R_lit (Kd.int .i64) (w0 := wa1) wa1.heap.size 3 ?hg (N := 22) ?hd (xs := ([] : List Int)) (inner := []) (ok := fun _ => True) (okp := fun _ => True) ?hr ?hp (fun _ hk => hk) trivial (Below.refl _ _) (Nat.le_refl _) (by simp) ?_; (case hd => rfl); (case hg => first | rfl | exact wanted_on rfl rfl rfl (by first | assumption | rfl | (simp [*]; done))); (case hr => first | (go_simp; done) | (go_simp; rfl)); (case hp => exact Reps.none _ _); intro ve wl4 ho hbl hg_ hnew_; clear hg_ hnew_; have HE := Aside0.mk ho; have HBL := Aside0.mk hbl; have ST5 : True := trivial; clear ho hbl)
    | (go_at_call 18; clear ST5; (with_reducible refine (few_go A1 m1 c1 _ hmc1).mono ?_); rintro e w' ⟨rfl, rfl⟩; rw [HK1.out]; have ST6 : True := trivial)
    | ((with_reducible refine gate_builtin (b := .append) (xs := #[.tmp 22, .tmp 24]) rfl ?_); at_builtin; clear ST6; refine Kd.R_append_row (Value.int .i64) (0 : Int) (h1 := fun _ => rfl) (w0 := wa1) wa1.heap.size rfl (.tmp 22) (.tmp 24) 22 3 (.int .i64 0) 8 rfl Tryd.underlying22 turn_info rfl (by decide) ve [] y A1 n c1 (fun _ => True) rfl rfl (fun _ _ => trivial) HE.out ?aC HBL.out HBL.out.size ?aL ?_; (case aC => exact Kd.C_below HCY.out (below_step HB.out HBL.out)); (case aL => simp only [List.length_nil]; omega); intro va wa4 ho hbl hg hat; clear hg hat HE HBL; rw [List.nil_append] at ho; obtain ⟨AU, cU, rfl, lU, CU⟩ := rform_ ho HLY.out; have HBm := Aside0.mk (below_step HB.out hbl); have Sm := Aside0.mk hbl; clear ho hbl; have HBn := HBm; clear HB; have HB := HBn; clear HBn HBm; have Cn := Aside0.mk (Kd.C_below (d := Kd.int .i64) (A := AV) (n := n) (xs := x) (by repeat (first | exact CV.out | refine Kd.C_alloc ?_ _ | refine Kd.C_drewN ?_ _ | refine Kd.C_drew ?_)) Sm.out); clear CV; have CV := Cn; clear Cn; have HGn := Aside0.mk (HG0.out.below HB.out); clear HG; have HG := HGn; clear HGn; clear Sm; have ST7 : True := trivial)
    | (go_at_call 23; clear ST7; (with_reducible refine (may_d (w0 := w) n false _ (by repeat (first | exact HB.out | apply below_alloc | apply pw_below_drewN | apply below_drew1)) HMAY.out).mono ?_); rintro e wk7 ⟨rfl, HBm, Sm⟩; have HBn := HBm; clear HB; have HB := HBn; clear HBn HBm; have Cn := Aside0.mk (Kd.C_below (d := Kd.int .i64) (A := AV) (n := n) (xs := x) (by repeat (first | exact CV.out | refine Kd.C_alloc ?_ _ | refine Kd.C_drewN ?_ _ | refine Kd.C_drew ?_)) Sm.out); clear CV; have CV := Cn; clear Cn; have Cn := Aside0.mk (Kd.C_below (d := Kd.int .i64) (A := AU) (n := n) (xs := y) (by repeat (first | exact CU.out | refine Kd.C_alloc ?_ _ | refine Kd.C_drewN ?_ _ | refine Kd.C_drew ?_)) Sm.out); clear CU; have CU := Cn; clear Cn; have HGn := Aside0.mk (HG0.out.below HB.out); clear HG; have HG := HGn; clear HGn; clear Sm; have ST8 : True := trivial)
    | (go_at_call 16; clear ST8; (with_reducible refine (real_d (w0 := w) AV n cV x 0 _ (by repeat (first | exact HB.out | apply below_alloc | apply pw_below_drewN | apply below_drew1)) (by repeat (first | exact HG.out | apply GlobA.drewN)) HLX.out (by repeat (first | exact CV.out | refine Kd.C_alloc ?_ _ | refine Kd.C_drewN ?_ _ | refine Kd.C_drew ?_)) (by omega) HR.out).mono ?_); rintro e wk8 ⟨rfl, HBm, Sm⟩; have HBn := HBm; clear HB; have HB := HBn; clear HBn HBm; have Cn := Aside0.mk (Kd.C_below (d := Kd.int .i64) (A := AV) (n := n) (xs := x) (by repeat (first | exact CV.out | refine Kd.C_alloc ?_ _ | refine Kd.C_drewN ?_ _ | refine Kd.C_drew ?_)) Sm.out); clear CV; have CV := Cn; clear Cn; have Cn := Aside0.mk (Kd.C_below (d := Kd.int .i64) (A := AU) (n := n) (xs := y) (by repeat (first | exact CU.out | refine Kd.C_alloc ?_ _ | refine Kd.C_drewN ?_ _ | refine Kd.C_drew ?_)) Sm.out); clear CU; have CU := Cn; clear Cn; have HGn := Aside0.mk (HG0.out.below HB.out); clear HG; have HG := HGn; clear HGn; clear Sm; have ST9 : True := trivial)
    | (go_at_call 17; clear ST9; (with_reducible refine (imag_d (w0 := w) AV n cV x 0 _ (by repeat (first | exact HB.out | apply below_alloc | apply pw_below_drewN | apply below_drew1)) (by repeat (first | exact HG.out | apply GlobA.drewN)) HLX.out (by repeat (first | exact CV.out | refine Kd.C_alloc ?_ _ | refine Kd.C_drewN ?_ _ | refine Kd.C_drew ?_)) (by omega) HI.out).mono ?_); rintro e wk9 ⟨rfl, HBm, Sm⟩; have HBn := HBm; clear HB; have HB := HBn; clear HBn HBm; have Cn := Aside0.mk (Kd.C_below (d := Kd.int .i64) (A := AV) (n := n) (xs := x) (by repeat (first | exact CV.out | refine Kd.C_alloc ?_ _ | refine Kd.C_drewN ?_ _ | refine Kd.C_drew ?_)) Sm.out); clear CV; have CV := Cn; clear Cn; have Cn := Aside0.mk (Kd.C_below (d := Kd.int .i64) (A := AU) (n := n) (xs := y) (by repeat (first | exact CU.out | refine Kd.C_alloc ?_ _ | refine Kd.C_drewN ?_ _ | refine Kd.C_drew ?_)) Sm.out); clear CU; have CU := Cn; clear Cn; have HGn := Aside0.mk (HG0.out.below HB.out); clear HG; have HG := HGn; clear HGn; clear Sm; have ST10 : True := trivial)
    | (go_at_call 20; clear ST10; (with_reducible refine (add3_c (w0 := w) _ AV AU AV n cV n cU n cV n x y x sl _ (by repeat (first | exact HB.out | apply below_alloc | apply pw_below_drewN | apply below_drew1)) (by first | exact heap_alloc_new _ _ | (rw [Below.heap_alloc _ _ _ (by simp)]; exact heap_alloc_new _ _) | (simpa using heap_alloc_new _ _)) HLX.out HLY.out HLX.out (by repeat (first | exact CV.out | refine Kd.C_alloc ?_ _ | refine Kd.C_drewN ?_ _ | refine Kd.C_drew ?_)) (by repeat (first | exact CU.out | refine Kd.C_alloc ?_ _ | refine Kd.C_drewN ?_ _ | refine Kd.C_drew ?_)) (by repeat (first | exact CV.out | refine Kd.C_alloc ?_ _ | refine Kd.C_drewN ?_ _ | refine Kd.C_drew ?_)) lV lU lV (by omega) (by omega) (by omega) HE0.out HLS.out).mono ?_); rintro e wk10 ⟨AS, cS, rfl, lS, CS, HBm, Sm⟩; have HBn := HBm; clear HB; have HB := HBn; clear HBn HBm; have Cn := Aside0.mk (Kd.C_below (d := Kd.int .i64) (A := AV) (n := n) (xs := x) (by repeat (first | exact CV.out | refine Kd.C_alloc ?_ _ | refine Kd.C_drewN ?_ _ | refine Kd.C_drew ?_)) Sm.out); clear CV; have CV := Cn; clear Cn; have Cn := Aside0.mk (Kd.C_below (d := Kd.int .i64) (A := AU) (n := n) (xs := y) (by repeat (first | exact CU.out | refine Kd.C_alloc ?_ _ | refine Kd.C_drewN ?_ _ | refine Kd.C_drew ?_)) Sm.out); clear CU; have CU := Cn; clear Cn; have HGn := Aside0.mk (HG0.out.below HB.out); clear HG; have HG := HGn; clear HGn; clear Sm; have ST11 : True := trivial)
    | (go_at_call 22; clear ST11; (with_reducible refine (less_c (w0 := w) AV AU n cV n cU n x y _ (by repeat (first | exact HB.out | apply below_alloc | apply pw_below_drewN | apply below_drew1)) HLX.out HLY.out (by repeat (first | exact CV.out | refine Kd.C_alloc ?_ _ | refine Kd.C_drewN ?_ _ | refine Kd.C_drew ?_)) (by repeat (first | exact CU.out | refine Kd.C_alloc ?_ _ | refine Kd.C_drewN ?_ _ | refine Kd.C_drew ?_)) (by omega) (by omega) HLD.out).mono ?_); rintro e wk11 ⟨AD, cD, rfl, lD, CD, HBm, Sm⟩; have HBn := HBm; clear HB; have HB := HBn; clear HBn HBm; have Cn := Aside0.mk (Kd.C_below (d := Kd.int .i64) (A := AV) (n := n) (xs := x) (by repeat (first | exact CV.out | refine Kd.C_alloc ?_ _ | refine Kd.C_drewN ?_ _ | refine Kd.C_drew ?_)) Sm.out); clear CV; have CV := Cn; clear Cn; have Cn := Aside0.mk (Kd.C_below (d := Kd.int .i64) (A := AU) (n := n) (xs := y) (by repeat (first | exact CU.out | refine Kd.C_alloc ?_ _ | refine Kd.C_drewN ?_ _ | refine Kd.C_drew ?_)) Sm.out); clear CU; have CU := Cn; clear Cn; have HGn := Aside0.mk (HG0.out.below HB.out); clear HG; have HG := HGn; clear HGn; clear CS; clear Sm; have ST12 : True := trivial)
    | (go_at_call 15; clear ST12; (with_reducible refine (turn_go AV n cV x q _ HLX.out (by repeat (first | exact CV.out | refine Kd.C_alloc ?_ _ | refine Kd.C_drewN ?_ _ | refine Kd.C_drew ?_)) (by omega) q0 q1).mono ?_); rintro e wt ⟨vt, rfl, hRt, hbt⟩; obtain ⟨At, ct, rfl, lt, Ct⟩ := rform_ hRt HLT.out; have HRT := Aside0.mk (Kd.own_of_R hRt); have HST := Aside0.mk hbt; clear hRt hbt))
  have HAT : Aside0 (0 < n → ∃ g, At = some ⟨g, 0, none⟩ ∧ wk11.heap.size ≤ g) := ⟨fun h0 => own_at_some HRT.out HLT.out h0⟩
  have HRT2 : Aside0 (wt.ownsRow wk11.heap.size 3 1 (.slice At n ct) n (nums .i64 (turnL x q))) := ⟨by have := HRT.out; rwa [HLT.out] at this⟩
  have VP := Aside0.mk CV.out
  have UP := Aside0.mk CU.out
  have HBP := Aside0.mk HB.out
  go_loopw [14] (fun v wr => ∃ (i : Nat) (xs : List Int), i ≤ n ∧ v = .int .i64 (i : Int) ∧ Aside0 (wr.ownsRow wk11.heap.size 3 1 (.slice At n ct) n (nums .i64 xs)) ∧ Aside0 (Below wk11.heap.size wk11 wr)) (fun v _ => n - (intOf v).toNat)
  case atStart => exact ⟨0, _, by omega, rfl, HRT2, HST⟩
  case round =>
    obtain ⟨i, xs, hi, rfl, HO, HBR⟩ := hrel
    by_cases hlt : i < n
    · obtain ⟨g, rfl, hg⟩ := HAT.out (by omega)
      obtain ⟨⟨z, hz⟩, hfr⟩ := own_free HO.out i hlt
      go_wp2
      go_roundw
      case rel =>
        have hst := own_store HO.out (i : Int) 5
        rw [Int.toNat_natCast] at hst
        exact ⟨i + 1, _, by omega, by go_num, ⟨hst.1⟩, ⟨Below.grown HBR.out hst.2 HBR.out.size (fun k hk => by injection hk with hk; omega)⟩⟩
      case measure => simp [intOf]; omega
    · obtain rfl : n = i := by omega
      have HB3 := Aside0.mk (below_step HBP.out HBR.out)
      have V3 := Aside0.mk (Kd.C_below VP.out HBR.out)
      have U3 := Aside0.mk (Kd.C_below UP.out HBR.out)
      have ST50 : True := trivial
      go_wp2_with (first
        | (go_at_call 18; clear ST50; (with_reducible refine (few_go A0 m c0 _ hmc).mono ?_); rintro e w' ⟨rfl, rfl⟩; rw [HK0.out]; have ST51 : True := trivial)
        | (go_at_call 19; clear ST51; (with_reducible refine (same_c (w0 := w) AV n cV A0 c0 _ _ _ HB3.out HLX.out rfl V3.out (Kd.C_below HCX.out HB3.out) lV hk0c (by omega)).mono ?_); rintro e w51 ⟨rfl, HB4, S4⟩; have U4 := Aside0.mk (Kd.C_below U3.out S4.out); have ST52 : True := trivial)
        | (go_at_call 18; clear ST52; (with_reducible refine (few_go A1 m1 c1 _ hmc1).mono ?_); rintro e w' ⟨rfl, rfl⟩; rw [HK1.out]; have ST53 : True := trivial)
        | (go_at_call 19; clear ST53; (with_reducible refine (same_c (w0 := w) AU n cU A1 c1 _ _ _ HB4.out HLY.out rfl U4.out (Kd.C_below HCY.out HB4.out) lU hk1c (by omega)).mono ?_); rintro e w53 ⟨rfl, HB5, S5⟩))
      go_ret
      exact ⟨rfl, HB5.out⟩
set_option maxHeartbeats 32000000 in
set_option maxRecDepth 100000 in
theorem sizes_nm (A0 A1 : Option Addr) (m c0 m1 c1 : Nat) (l0 l1 : List Int) (q : Int) (w : World) (hG : GlobA w) (hl : l0.length = m) (hC : Kd.C (Kd.int .i64) w A0 m l0) (hmc : m ≤ c0) (hv : In64 l0) (hl1 : l1.length = m1) (hC1 : Kd.C (Kd.int .i64) w A1 m1 l1) (hmc1 : m1 ≤ c1) (q0 : -9223372036854775808 ≤ q) (q1 : q ≤ 9223372036854775807) (hnm : min 40 m ≠ min 40 m1) (hmay : sp_may (min 40 m) = true) :
    Calls Tryd.prog 7 #[.slice A0 m c0, .slice A1 m1 c1, .int .i64 q] w fun e w' => e = .returned (.bool true) ∧ Below w.heap.size w w' := by
  obtain ⟨n, hk⟩ : ∃ k, min 40 m = k := ⟨_, rfl⟩
  obtain ⟨k1, hk'⟩ : ∃ k, min 40 m1 = k := ⟨_, rfl⟩
  obtain ⟨x, hx⟩ : ∃ x, l0.take n = x := ⟨_, rfl⟩
  obtain ⟨y, hy⟩ : ∃ y, l1.take k1 = y := ⟨_, rfl⟩
  have hxl : x.length = n := by rw [← hx, List.length_take]; omega
  have hyl : y.length = k1 := by rw [← hy, List.length_take]; omega
  have HCX : Aside0 (Kd.C (Kd.int .i64) w A0 n x) := ⟨by
    subst hl
    have := Kd.C_take hC (m := n) (by omega)
    rwa [hx, hxl] at this⟩
  have HCY : Aside0 (Kd.C (Kd.int .i64) w A1 k1 y) := ⟨by
    subst hl1
    have := Kd.C_take hC1 (m := k1) (by omega)
    rwa [hy, hyl] at this⟩
  have hix : In64 x := fun a ha => hv a (by rw [← hx] at ha; exact List.mem_of_mem_take ha)
  have HLX := Aside0.mk hxl
  have HLY := Aside0.mk hyl
  have hk0c : n ≤ c0 := by omega
  have hk1c : k1 ≤ c1 := by omega
  have hn40 : n ≤ 40 := by omega
  have hk40 : k1 ≤ 40 := by omega
  have HK0 := Aside0.mk hk
  have HK1 := Aside0.mk hk'
  have HG0 := Aside0.mk hG
  have HG := HG0
  have HB : Aside0 (Below w.heap.size w w) := ⟨Below.refl _ _⟩
  have HLT : Aside0 ((turnL x q).length = n) := ⟨by rw [turnL_length, hxl]⟩
  have ST0 : True := trivial
  obtain ⟨sl, hsl⟩ : ∃ sl, addAll [x, y, x] = sl := ⟨_, rfl⟩
  have HE0 := Aside0.mk hsl
  have hR0 : sp_may n = false → sp_part x cosT = 0 ∧ wrap64 (-(sp_part x sinT)) = 0 := fun h => by
    unfold sp_part
    rw [hxl, h, if_neg (by decide), if_neg (by decide)]
    exact ⟨rfl, W_in (a := -0) (by decide) (by decide)⟩
  rw [hk] at hmay hnm
  rw [hk'] at hnm
  have HLS : Aside0 (sl.length = 0) := ⟨by rw [← hsl, addAll_ne x y x hix (by rw [hxl, hyl]; exact hnm)]; rfl⟩
  have HLD : Aside0 ((lessL x y).length = 0) := ⟨by unfold lessL; rw [if_neg (by rw [hxl, hyl]; exact hnm)]; rfl⟩
  have hd1 : ((n : Int) == (k1 : Int)) = false := by simp; omega
  have hd2 : ((n : Int) != (k1 : Int)) = true := by simp; omega
  have HMAY := Aside0.mk hmay
  clear hG hl hC hv hl1 hC1 hk hk' hx hy hxl hyl hix hsl hR0 hmay
  go_enter Tryd.func7, Tryd.ntmps7
  go_wp2_with (first
    | (go_at_call 13; clear ST0; (with_reducible refine (awake_d (w0 := w) _ (by repeat (first | exact HB.out | apply below_alloc | apply pw_below_drewN | apply below_drew1)) HG.out).mono ?_); rintro e wk0 ⟨rfl, HBm, Sm⟩; have HBn := HBm; clear HB; have HB := HBn; clear HBn HBm; have HGn := Aside0.mk (HG0.out.below HB.out); clear HG; have HG := HGn; clear HGn; clear Sm; have ST1 : True := trivial)
    | ((with_reducible refine gate_dst (N := 18) rfl ?_); clear ST1; refine Kd.R_lit (Kd.int .i64) (w0 := wk0) wk0.heap.size 3 ?hg (N := 18) ?hd (xs := ([] : List Int)) (inner := []) (ok := fun _ => True) (okp := fun _ => True) ?hr ?hp (fun _ hk => hk) trivial (Below.refl _ _) (Nat.le_refl _) (by simp) ?_; (case hd => rfl); (case hg => first | rfl | exact wanted_on rfl rfl rfl (by first | assumption | rfl | (simp [*]; done))); (case hr => first | (go_simp; done) | (go_simp; rfl)); (case hp => exact Reps.none _ _); intro ve wl1 ho hbl hg_ hnew_; clear hg_ hnew_; have HE := Aside0.mk ho; have HBL := Aside0.mk hbl; have ST2 : True := trivial; clear ho hbl)
    | (go_at_call 18; clear ST2; (with_reducible refine (few_go A0 m c0 _ hmc).mono ?_); rintro e w' ⟨rfl, rfl⟩; rw [HK0.out]; have ST3 : True := trivial)
    | ((with_reducible refine gate_builtin (b := .append) (xs := #[.tmp 18, .tmp 20]) rfl ?_); at_builtin; clear ST3; refine Kd.R_append_row (Value.int .i64) (0 : Int) (h1 := fun _ => rfl) (w0 := wk0) wk0.heap.size rfl (.tmp 18) (.tmp 20) 22 3 (.int .i64 0) 8 rfl Tryd.underlying22 turn_info rfl (by decide) ve [] x A0 n c0 (fun _ => True) rfl rfl (fun _ _ => trivial) HE.out ?aC HBL.out HBL.out.size ?aL ?_; (case aC => exact Kd.C_below HCX.out (below_step HB.out HBL.out)); (case aL => simp only [List.length_nil]; omega); intro va wa1 ho hbl hg hat; clear hg hat HE HBL; rw [List.nil_append] at ho; obtain ⟨AV, cV, rfl, lV, CV⟩ := rform_ ho HLX.out; have HBm := Aside0.mk (below_step HB.out hbl); have Sm := Aside0.mk hbl; clear ho hbl; have HBn := HBm; clear HB; have HB := HBn; clear HBn HBm; have HGn := Aside0.mk (HG0.out.below HB.out); clear HG; have HG := HGn; clear HGn; clear Sm; have ST4 : True := trivial)
    | ((with_reducible refine gate_dst (N := 22) rfl ?_); clear ST4; refine Kd.R_lit (Kd.int .i64) (w0 := wa1) wa1.heap.size 3 ?hg (N := 22) ?hd (xs := ([] : List Int)) (inner := []) (ok := fun _ => True) (okp := fun _ => True) ?hr ?hp (fun _ hk => hk) trivial (Below.refl _ _) (Nat.le_refl _) (by simp) ?_; (case hd => rfl); (case hg => first | rfl | exact wanted_on rfl rfl rfl (by first | assumption | rfl | (simp [*]; done))); (case hr => first | (go_simp; done) | (go_simp; rfl)); (case hp => exact Reps.none _ _); intro ve wl4 ho hbl hg_ hnew_; clear hg_ hnew_; have HE := Aside0.mk ho; have HBL := Aside0.mk hbl; have ST5 : True := trivial; clear ho hbl)
    | (go_at_call 18; clear ST5; (with_reducible refine (few_go A1 m1 c1 _ hmc1).mono ?_); rintro e w' ⟨rfl, rfl⟩; rw [HK1.out]; have ST6 : True := trivial)
    | ((with_reducible refine gate_builtin (b := .append) (xs := #[.tmp 22, .tmp 24]) rfl ?_); at_builtin; clear ST6; refine Kd.R_append_row (Value.int .i64) (0 : Int) (h1 := fun _ => rfl) (w0 := wa1) wa1.heap.size rfl (.tmp 22) (.tmp 24) 22 3 (.int .i64 0) 8 rfl Tryd.underlying22 turn_info rfl (by decide) ve [] y A1 k1 c1 (fun _ => True) rfl rfl (fun _ _ => trivial) HE.out ?aC HBL.out HBL.out.size ?aL ?_; (case aC => exact Kd.C_below HCY.out (below_step HB.out HBL.out)); (case aL => simp only [List.length_nil]; omega); intro va wa4 ho hbl hg hat; clear hg hat HE HBL; rw [List.nil_append] at ho; obtain ⟨AU, cU, rfl, lU, CU⟩ := rform_ ho HLY.out; have HBm := Aside0.mk (below_step HB.out hbl); have Sm := Aside0.mk hbl; clear ho hbl; have HBn := HBm; clear HB; have HB := HBn; clear HBn HBm; have Cn := Aside0.mk (Kd.C_below (d := Kd.int .i64) (A := AV) (n := n) (xs := x) (by repeat (first | exact CV.out | refine Kd.C_alloc ?_ _ | refine Kd.C_drewN ?_ _ | refine Kd.C_drew ?_)) Sm.out); clear CV; have CV := Cn; clear Cn; have HGn := Aside0.mk (HG0.out.below HB.out); clear HG; have HG := HGn; clear HGn; clear Sm; have ST7 : True := trivial)
    | (go_at_call 23; clear ST7; (with_reducible refine (may_d (w0 := w) n true _ (by repeat (first | exact HB.out | apply below_alloc | apply pw_below_drewN | apply below_drew1)) HMAY.out).mono ?_); rintro e wk7 ⟨rfl, HBm, Sm⟩; have HBn := HBm; clear HB; have HB := HBn; clear HBn HBm; have Cn := Aside0.mk (Kd.C_below (d := Kd.int .i64) (A := AV) (n := n) (xs := x) (by repeat (first | exact CV.out | refine Kd.C_alloc ?_ _ | refine Kd.C_drewN ?_ _ | refine Kd.C_drew ?_)) Sm.out); clear CV; have CV := Cn; clear Cn; have Cn := Aside0.mk (Kd.C_below (d := Kd.int .i64) (A := AU) (n := k1) (xs := y) (by repeat (first | exact CU.out | refine Kd.C_alloc ?_ _ | refine Kd.C_drewN ?_ _ | refine Kd.C_drew ?_)) Sm.out); clear CU; have CU := Cn; clear Cn; have HGn := Aside0.mk (HG0.out.below HB.out); clear HG; have HG := HGn; clear HGn; clear Sm; have ST8 : True := trivial)
    | (go_at_call 20; clear ST8; (with_reducible refine (add3_c (w0 := w) _ AV AU AV n cV k1 cU n cV 0 x y x sl _ (by repeat (first | exact HB.out | apply below_alloc | apply pw_below_drewN | apply below_drew1)) (by first | exact heap_alloc_new _ _ | (rw [Below.heap_alloc _ _ _ (by simp)]; exact heap_alloc_new _ _) | (simpa using heap_alloc_new _ _)) HLX.out HLY.out HLX.out (by repeat (first | exact CV.out | refine Kd.C_alloc ?_ _ | refine Kd.C_drewN ?_ _ | refine Kd.C_drew ?_)) (by repeat (first | exact CU.out | refine Kd.C_alloc ?_ _ | refine Kd.C_drewN ?_ _ | refine Kd.C_drew ?_)) (by repeat (first | exact CV.out | refine Kd.C_alloc ?_ _ | refine Kd.C_drewN ?_ _ | refine Kd.C_drew ?_)) lV lU lV (by omega) (by omega) (by omega) HE0.out HLS.out).mono ?_); rintro e wk8 ⟨AS, cS, rfl, lS, CS, HBm, Sm⟩; have HBn := HBm; clear HB; have HB := HBn; clear HBn HBm; have Cn := Aside0.mk (Kd.C_below (d := Kd.int .i64) (A := AV) (n := n) (xs := x) (by repeat (first | exact CV.out | refine Kd.C_alloc ?_ _ | refine Kd.C_drewN ?_ _ | refine Kd.C_drew ?_)) Sm.out); clear CV; have CV := Cn; clear Cn; have Cn := Aside0.mk (Kd.C_below (d := Kd.int .i64) (A := AU) (n := k1) (xs := y) (by repeat (first | exact CU.out | refine Kd.C_alloc ?_ _ | refine Kd.C_drewN ?_ _ | refine Kd.C_drew ?_)) Sm.out); clear CU; have CU := Cn; clear Cn; have HGn := Aside0.mk (HG0.out.below HB.out); clear HG; have HG := HGn; clear HGn; clear Sm; have ST9 : True := trivial)
    | (go_at_call 22; clear ST9; (with_reducible refine (less_c (w0 := w) AV AU n cV k1 cU 0 x y _ (by repeat (first | exact HB.out | apply below_alloc | apply pw_below_drewN | apply below_drew1)) HLX.out HLY.out (by repeat (first | exact CV.out | refine Kd.C_alloc ?_ _ | refine Kd.C_drewN ?_ _ | refine Kd.C_drew ?_)) (by repeat (first | exact CU.out | refine Kd.C_alloc ?_ _ | refine Kd.C_drewN ?_ _ | refine Kd.C_drew ?_)) (by omega) (by omega) HLD.out).mono ?_); rintro e wk9 ⟨AD, cD, rfl, lD, CD, HBm, Sm⟩; have HBn := HBm; clear HB; have HB := HBn; clear HBn HBm; have Cn := Aside0.mk (Kd.C_below (d := Kd.int .i64) (A := AV) (n := n) (xs := x) (by repeat (first | exact CV.out | refine Kd.C_alloc ?_ _ | refine Kd.C_drewN ?_ _ | refine Kd.C_drew ?_)) Sm.out); clear CV; have CV := Cn; clear Cn; have Cn := Aside0.mk (Kd.C_below (d := Kd.int .i64) (A := AU) (n := k1) (xs := y) (by repeat (first | exact CU.out | refine Kd.C_alloc ?_ _ | refine Kd.C_drewN ?_ _ | refine Kd.C_drew ?_)) Sm.out); clear CU; have CU := Cn; clear Cn; have HGn := Aside0.mk (HG0.out.below HB.out); clear HG; have HG := HGn; clear HGn; clear CS; clear Sm; have ST10 : True := trivial)
    | (go_at_call 15; clear ST10; (with_reducible refine (turn_go AV n cV x q _ HLX.out (by repeat (first | exact CV.out | refine Kd.C_alloc ?_ _ | refine Kd.C_drewN ?_ _ | refine Kd.C_drew ?_)) (by omega) q0 q1).mono ?_); rintro e wt ⟨vt, rfl, hRt, hbt⟩; obtain ⟨At, ct, rfl, lt, Ct⟩ := rform_ hRt HLT.out; have HRT := Aside0.mk (Kd.own_of_R hRt); have HST := Aside0.mk hbt; clear hRt hbt))
  have HAT : Aside0 (0 < n → ∃ g, At = some ⟨g, 0, none⟩ ∧ wk9.heap.size ≤ g) := ⟨fun h0 => own_at_some HRT.out HLT.out h0⟩
  have HRT2 : Aside0 (wt.ownsRow wk9.heap.size 3 1 (.slice At n ct) n (nums .i64 (turnL x q))) := ⟨by have := HRT.out; rwa [HLT.out] at this⟩
  have VP := Aside0.mk CV.out
  have UP := Aside0.mk CU.out
  have HBP := Aside0.mk HB.out
  go_loopw [14] (fun v wr => ∃ (i : Nat) (xs : List Int), i ≤ n ∧ v = .int .i64 (i : Int) ∧ Aside0 (wr.ownsRow wk9.heap.size 3 1 (.slice At n ct) n (nums .i64 xs)) ∧ Aside0 (Below wk9.heap.size wk9 wr)) (fun v _ => n - (intOf v).toNat)
  case atStart => exact ⟨0, _, by omega, rfl, HRT2, HST⟩
  case round =>
    obtain ⟨i, xs, hi, rfl, HO, HBR⟩ := hrel
    by_cases hlt : i < n
    · obtain ⟨g, rfl, hg⟩ := HAT.out (by omega)
      obtain ⟨⟨z, hz⟩, hfr⟩ := own_free HO.out i hlt
      go_wp2
      go_roundw
      case rel =>
        have hst := own_store HO.out (i : Int) 5
        rw [Int.toNat_natCast] at hst
        exact ⟨i + 1, _, by omega, by go_num, ⟨hst.1⟩, ⟨Below.grown HBR.out hst.2 HBR.out.size (fun k hk => by injection hk with hk; omega)⟩⟩
      case measure => simp [intOf]; omega
    · obtain rfl : n = i := by omega
      have HB3 := Aside0.mk (below_step HBP.out HBR.out)
      have V3 := Aside0.mk (Kd.C_below VP.out HBR.out)
      have U3 := Aside0.mk (Kd.C_below UP.out HBR.out)
      have ST50 : True := trivial
      go_wp2_with (first
        | (go_at_call 18; clear ST50; (with_reducible refine (few_go A0 m c0 _ hmc).mono ?_); rintro e w' ⟨rfl, rfl⟩; rw [HK0.out]; have ST51 : True := trivial)
        | (go_at_call 19; clear ST51; (with_reducible refine (same_c (w0 := w) AV n cV A0 c0 _ _ _ HB3.out HLX.out rfl V3.out (Kd.C_below HCX.out HB3.out) lV hk0c (by omega)).mono ?_); rintro e w51 ⟨rfl, HB4, S4⟩; have U4 := Aside0.mk (Kd.C_below U3.out S4.out); have ST52 : True := trivial)
        | (go_at_call 18; clear ST52; (with_reducible refine (few_go A1 m1 c1 _ hmc1).mono ?_); rintro e w' ⟨rfl, rfl⟩; rw [HK1.out]; have ST53 : True := trivial)
        | (go_at_call 19; clear ST53; (with_reducible refine (same_c (w0 := w) AU k1 cU A1 c1 _ _ _ HB4.out HLY.out rfl U4.out (Kd.C_below HCY.out HB4.out) lU hk1c (by omega)).mono ?_); rintro e w53 ⟨rfl, HB5, S5⟩))
      go_ret
      exact ⟨rfl, HB5.out⟩
set_option maxHeartbeats 32000000 in
set_option maxRecDepth 100000 in
theorem sizes_no (A0 A1 : Option Addr) (m c0 m1 c1 : Nat) (l0 l1 : List Int) (q : Int) (w : World) (hG : GlobA w) (hl : l0.length = m) (hC : Kd.C (Kd.int .i64) w A0 m l0) (hmc : m ≤ c0) (hv : In64 l0) (hl1 : l1.length = m1) (hC1 : Kd.C (Kd.int .i64) w A1 m1 l1) (hmc1 : m1 ≤ c1) (q0 : -9223372036854775808 ≤ q) (q1 : q ≤ 9223372036854775807) (hnm : min 40 m ≠ min 40 m1) (hmay : sp_may (min 40 m) = false) :
    Calls Tryd.prog 7 #[.slice A0 m c0, .slice A1 m1 c1, .int .i64 q] w fun e w' => e = .returned (.bool true) ∧ Below w.heap.size w w' := by
  obtain ⟨n, hk⟩ : ∃ k, min 40 m = k := ⟨_, rfl⟩
  obtain ⟨k1, hk'⟩ : ∃ k, min 40 m1 = k := ⟨_, rfl⟩
  obtain ⟨x, hx⟩ : ∃ x, l0.take n = x := ⟨_, rfl⟩
  obtain ⟨y, hy⟩ : ∃ y, l1.take k1 = y := ⟨_, rfl⟩
  have hxl : x.length = n := by rw [← hx, List.length_take]; omega
  have hyl : y.length = k1 := by rw [← hy, List.length_take]; omega
  have HCX : Aside0 (Kd.C (Kd.int .i64) w A0 n x) := ⟨by
    subst hl
    have := Kd.C_take hC (m := n) (by omega)
    rwa [hx, hxl] at this⟩
  have HCY : Aside0 (Kd.C (Kd.int .i64) w A1 k1 y) := ⟨by
    subst hl1
    have := Kd.C_take hC1 (m := k1) (by omega)
    rwa [hy, hyl] at this⟩
  have hix : In64 x := fun a ha => hv a (by rw [← hx] at ha; exact List.mem_of_mem_take ha)
  have HLX := Aside0.mk hxl
  have HLY := Aside0.mk hyl
  have hk0c : n ≤ c0 := by omega
  have hk1c : k1 ≤ c1 := by omega
  have hn40 : n ≤ 40 := by omega
  have hk40 : k1 ≤ 40 := by omega
  have HK0 := Aside0.mk hk
  have HK1 := Aside0.mk hk'
  have HG0 := Aside0.mk hG
  have HG := HG0
  have HB : Aside0 (Below w.heap.size w w) := ⟨Below.refl _ _⟩
  have HLT : Aside0 ((turnL x q).length = n) := ⟨by rw [turnL_length, hxl]⟩
  have ST0 : True := trivial
  obtain ⟨sl, hsl⟩ : ∃ sl, addAll [x, y, x] = sl := ⟨_, rfl⟩
  have HE0 := Aside0.mk hsl
  have hR0 : sp_may n = false → sp_part x cosT = 0 ∧ wrap64 (-(sp_part x sinT)) = 0 := fun h => by
    unfold sp_part
    rw [hxl, h, if_neg (by decide), if_neg (by decide)]
    exact ⟨rfl, W_in (a := -0) (by decide) (by decide)⟩
  rw [hk] at hmay hnm
  rw [hk'] at hnm
  have HLS : Aside0 (sl.length = 0) := ⟨by rw [← hsl, addAll_ne x y x hix (by rw [hxl, hyl]; exact hnm)]; rfl⟩
  have HLD : Aside0 ((lessL x y).length = 0) := ⟨by unfold lessL; rw [if_neg (by rw [hxl, hyl]; exact hnm)]; rfl⟩
  have hd1 : ((n : Int) == (k1 : Int)) = false := by simp; omega
  have hd2 : ((n : Int) != (k1 : Int)) = true := by simp; omega
  have HR := Aside0.mk (hR0 hmay).1
  have HI := Aside0.mk (hR0 hmay).2
  have HMAY := Aside0.mk hmay
  clear hG hl hC hv hl1 hC1 hk hk' hx hy hxl hyl hix hsl hR0 hmay
  go_enter Tryd.func7, Tryd.ntmps7
  go_wp2_with (first
    | (go_at_call 13; clear ST0; (with_reducible refine (awake_d (w0 := w) _ (by repeat (first | exact HB.out | apply below_alloc | apply pw_below_drewN | apply below_drew1)) HG.out).mono ?_); rintro e wk0 ⟨rfl, HBm, Sm⟩; have HBn := HBm; clear HB; have HB := HBn; clear HBn HBm; have HGn := Aside0.mk (HG0.out.below HB.out); clear HG; have HG := HGn; clear HGn; clear Sm; have ST1 : True := trivial)
    | ((with_reducible refine gate_dst (N := 18) rfl ?_); clear ST1; refine Kd.R_lit (Kd.int .i64) (w0 := wk0) wk0.heap.size 3 ?hg (N := 18) ?hd (xs := ([] : List Int)) (inner := []) (ok := fun _ => True) (okp := fun _ => True) ?hr ?hp (fun _ hk => hk) trivial (Below.refl _ _) (Nat.le_refl _) (by simp) ?_; (case hd => rfl); (case hg => first | rfl | exact wanted_on rfl rfl rfl (by first | assumption | rfl | (simp [*]; done))); (case hr => first | (go_simp; done) | (go_simp; rfl)); (case hp => exact Reps.none _ _); intro ve wl1 ho hbl hg_ hnew_; clear hg_ hnew_; have HE := Aside0.mk ho; have HBL := Aside0.mk hbl; have ST2 : True := trivial; clear ho hbl)
    | (go_at_call 18; clear ST2; (with_reducible refine (few_go A0 m c0 _ hmc).mono ?_); rintro e w' ⟨rfl, rfl⟩; rw [HK0.out]; have ST3 : True := trivial)
    | ((with_reducible refine gate_builtin (b := .append) (xs := #[.tmp 18, .tmp 20]) rfl ?_); at_builtin; clear ST3; refine Kd.R_append_row (Value.int .i64) (0 : Int) (h1 := fun _ => rfl) (w0 := wk0) wk0.heap.size rfl (.tmp 18) (.tmp 20) 22 3 (.int .i64 0) 8 rfl Tryd.underlying22 turn_info rfl (by decide) ve [] x A0 n c0 (fun _ => True) rfl rfl (fun _ _ => trivial) HE.out ?aC HBL.out HBL.out.size ?aL ?_; (case aC => exact Kd.C_below HCX.out (below_step HB.out HBL.out)); (case aL => simp only [List.length_nil]; omega); intro va wa1 ho hbl hg hat; clear hg hat HE HBL; rw [List.nil_append] at ho; obtain ⟨AV, cV, rfl, lV, CV⟩ := rform_ ho HLX.out; have HBm := Aside0.mk (below_step HB.out hbl); have Sm := Aside0.mk hbl; clear ho hbl; have HBn := HBm; clear HB; have HB := HBn; clear HBn HBm; have HGn := Aside0.mk (HG0.out.below HB.out); clear HG; have HG := HGn; clear HGn; clear Sm; have ST4 : True := trivial)
    | ((with_reducible refine gate_dst (N := 22) rfl ?_); clear ST4; refine Kd.R_lit (Kd.int .i64) (w0 := wa1) wa1.heap.size 3 ?hg (N := 22) ?hd (xs := ([] : List Int)) (inner := []) (ok := fun _ => True) (okp := fun _ => True) ?hr ?hp (fun _ hk => hk) trivial (Below.refl _ _) (Nat.le_refl _) (by simp) ?_; (case hd => rfl); (case hg => first | rfl | exact wanted_on rfl rfl rfl (by first | assumption | rfl | (simp [*]; done))); (case hr => first | (go_simp; done) | (go_simp; rfl)); (case hp => exact Reps.none _ _); intro ve wl4 ho hbl hg_ hnew_; clear hg_ hnew_; have HE := Aside0.mk ho; have HBL := Aside0.mk hbl; have ST5 : True := trivial; clear ho hbl)
    | (go_at_call 18; clear ST5; (with_reducible refine (few_go A1 m1 c1 _ hmc1).mono ?_); rintro e w' ⟨rfl, rfl⟩; rw [HK1.out]; have ST6 : True := trivial)
    | ((with_reducible refine gate_builtin (b := .append) (xs := #[.tmp 22, .tmp 24]) rfl ?_); at_builtin; clear ST6; refine Kd.R_append_row (Value.int .i64) (0 : Int) (h1 := fun _ => rfl) (w0 := wa1) wa1.heap.size rfl (.tmp 22) (.tmp 24) 22 3 (.int .i64 0) 8 rfl Tryd.underlying22 turn_info rfl (by decide) ve [] y A1 k1 c1 (fun _ => True) rfl rfl (fun _ _ => trivial) HE.out ?aC HBL.out HBL.out.size ?aL ?_; (case aC => exact Kd.C_below HCY.out (below_step HB.out HBL.out)); (case aL => simp only [List.length_nil]; omega); intro va wa4 ho hbl hg hat; clear hg hat HE HBL; rw [List.nil_append] at ho; obtain ⟨AU, cU, rfl, lU, CU⟩ := rform_ ho HLY.out; have HBm := Aside0.mk (below_step HB.out hbl); have Sm := Aside0.mk hbl; clear ho hbl; have HBn := HBm; clear HB; have HB := HBn; clear HBn HBm; have Cn := Aside0.mk (Kd.C_below (d := Kd.int .i64) (A := AV) (n := n) (xs := x) (by repeat (first | exact CV.out | refine Kd.C_alloc ?_ _ | refine Kd.C_drewN ?_ _ | refine Kd.C_drew ?_)) Sm.out); clear CV; have CV := Cn; clear Cn; have HGn := Aside0.mk (HG0.out.below HB.out); clear HG; have HG := HGn; clear HGn; clear Sm; have ST7 : True := trivial)
    | (go_at_call 23; clear ST7; (with_reducible refine (may_d (w0 := w) n false _ (by repeat (first | exact HB.out | apply below_alloc | apply pw_below_drewN | apply below_drew1)) HMAY.out).mono ?_); rintro e wk7 ⟨rfl, HBm, Sm⟩; have HBn := HBm; clear HB; have HB := HBn; clear HBn HBm; have Cn := Aside0.mk (Kd.C_below (d := Kd.int .i64) (A := AV) (n := n) (xs := x) (by repeat (first | exact CV.out | refine Kd.C_alloc ?_ _ | refine Kd.C_drewN ?_ _ | refine Kd.C_drew ?_)) Sm.out); clear CV; have CV := Cn; clear Cn; have Cn := Aside0.mk (Kd.C_below (d := Kd.int .i64) (A := AU) (n := k1) (xs := y) (by repeat (first | exact CU.out | refine Kd.C_alloc ?_ _ | refine Kd.C_drewN ?_ _ | refine Kd.C_drew ?_)) Sm.out); clear CU; have CU := Cn; clear Cn; have HGn := Aside0.mk (HG0.out.below HB.out); clear HG; have HG := HGn; clear HGn; clear Sm; have ST8 : True := trivial)
    | (go_at_call 16; clear ST8; (with_reducible refine (real_d (w0 := w) AV n cV x 0 _ (by repeat (first | exact HB.out | apply below_alloc | apply pw_below_drewN | apply below_drew1)) (by repeat (first | exact HG.out | apply GlobA.drewN)) HLX.out (by repeat (first | exact CV.out | refine Kd.C_alloc ?_ _ | refine Kd.C_drewN ?_ _ | refine Kd.C_drew ?_)) (by omega) HR.out).mono ?_); rintro e wk8 ⟨rfl, HBm, Sm⟩; have HBn := HBm; clear HB; have HB := HBn; clear HBn HBm; have Cn := Aside0.mk (Kd.C_below (d := Kd.int .i64) (A := AV) (n := n) (xs := x) (by repeat (first | exact CV.out | refine Kd.C_alloc ?_ _ | refine Kd.C_drewN ?_ _ | refine Kd.C_drew ?_)) Sm.out); clear CV; have CV := Cn; clear Cn; have Cn := Aside0.mk (Kd.C_below (d := Kd.int .i64) (A := AU) (n := k1) (xs := y) (by repeat (first | exact CU.out | refine Kd.C_alloc ?_ _ | refine Kd.C_drewN ?_ _ | refine Kd.C_drew ?_)) Sm.out); clear CU; have CU := Cn; clear Cn; have HGn := Aside0.mk (HG0.out.below HB.out); clear HG; have HG := HGn; clear HGn; clear Sm; have ST9 : True := trivial)
    | (go_at_call 17; clear ST9; (with_reducible refine (imag_d (w0 := w) AV n cV x 0 _ (by repeat (first | exact HB.out | apply below_alloc | apply pw_below_drewN | apply below_drew1)) (by repeat (first | exact HG.out | apply GlobA.drewN)) HLX.out (by repeat (first | exact CV.out | refine Kd.C_alloc ?_ _ | refine Kd.C_drewN ?_ _ | refine Kd.C_drew ?_)) (by omega) HI.out).mono ?_); rintro e wk9 ⟨rfl, HBm, Sm⟩; have HBn := HBm; clear HB; have HB := HBn; clear HBn HBm; have Cn := Aside0.mk (Kd.C_below (d := Kd.int .i64) (A := AV) (n := n) (xs := x) (by repeat (first | exact CV.out | refine Kd.C_alloc ?_ _ | refine Kd.C_drewN ?_ _ | refine Kd.C_drew ?_)) Sm.out); clear CV; have CV := Cn; clear Cn; have Cn := Aside0.mk (Kd.C_below (d := Kd.int .i64) (A := AU) (n := k1) (xs := y) (by repeat (first | exact CU.out | refine Kd.C_alloc ?_ _ | refine Kd.C_drewN ?_ _ | refine Kd.C_drew ?_)) Sm.out); clear CU; have CU := Cn; clear Cn; have HGn := Aside0.mk (HG0.out.below HB.out); clear HG; have HG := HGn; clear HGn; clear Sm; have ST10 : True := trivial)
    | (go_at_call 20; clear ST10; (with_reducible refine (add3_c (w0 := w) _ AV AU AV n cV k1 cU n cV 0 x y x sl _ (by repeat (first | exact HB.out | apply below_alloc | apply pw_below_drewN | apply below_drew1)) (by first | exact heap_alloc_new _ _ | (rw [Below.heap_alloc _ _ _ (by simp)]; exact heap_alloc_new _ _) | (simpa using heap_alloc_new _ _)) HLX.out HLY.out HLX.out (by repeat (first | exact CV.out | refine Kd.C_alloc ?_ _ | refine Kd.C_drewN ?_ _ | refine Kd.C_drew ?_)) (by repeat (first | exact CU.out | refine Kd.C_alloc ?_ _ | refine Kd.C_drewN ?_ _ | refine Kd.C_drew ?_)) (by repeat (first | exact CV.out | refine Kd.C_alloc ?_ _ | refine Kd.C_drewN ?_ _ | refine Kd.C_drew ?_)) lV lU lV (by omega) (by omega) (by omega) HE0.out HLS.out).mono ?_); rintro e wk10 ⟨AS, cS, rfl, lS, CS, HBm, Sm⟩; have HBn := HBm; clear HB; have HB := HBn; clear HBn HBm; have Cn := Aside0.mk (Kd.C_below (d := Kd.int .i64) (A := AV) (n := n) (xs := x) (by repeat (first | exact CV.out | refine Kd.C_alloc ?_ _ | refine Kd.C_drewN ?_ _ | refine Kd.C_drew ?_)) Sm.out); clear CV; have CV := Cn; clear Cn; have Cn := Aside0.mk (Kd.C_below (d := Kd.int .i64) (A := AU) (n := k1) (xs := y) (by repeat (first | exact CU.out | refine Kd.C_alloc ?_ _ | refine Kd.C_drewN ?_ _ | refine Kd.C_drew ?_)) Sm.out); clear CU; have CU := Cn; clear Cn; have HGn := Aside0.mk (HG0.out.below HB.out); clear HG; have HG := HGn; clear HGn; clear Sm; have ST11 : True := trivial)
    | (go_at_call 22; clear ST11; (with_reducible refine (less_c (w0 := w) AV AU n cV k1 cU 0 x y _ (by repeat (first | exact HB.out | apply below_alloc | apply pw_below_drewN | apply below_drew1)) HLX.out HLY.out (by repeat (first | exact CV.out | refine Kd.C_alloc ?_ _ | refine Kd.C_drewN ?_ _ | refine Kd.C_drew ?_)) (by repeat (first | exact CU.out | refine Kd.C_alloc ?_ _ | refine Kd.C_drewN ?_ _ | refine Kd.C_drew ?_)) (by omega) (by omega) HLD.out).mono ?_); rintro e wk11 ⟨AD, cD, rfl, lD, CD, HBm, Sm⟩; have HBn := HBm; clear HB; have HB := HBn; clear HBn HBm; have Cn := Aside0.mk (Kd.C_below (d := Kd.int .i64) (A := AV) (n := n) (xs := x) (by repeat (first | exact CV.out | refine Kd.C_alloc ?_ _ | refine Kd.C_drewN ?_ _ | refine Kd.C_drew ?_)) Sm.out); clear CV; have CV := Cn; clear Cn; have Cn := Aside0.mk (Kd.C_below (d := Kd.int .i64) (A := AU) (n := k1) (xs := y) (by repeat (first | exact CU.out | refine Kd.C_alloc ?_ _ | refine Kd.C_drewN ?_ _ | refine Kd.C_drew ?_)) Sm.out); clear CU; have CU := Cn; clear Cn; have HGn := Aside0.mk (HG0.out.below HB.out); clear HG; have HG := HGn; clear HGn; clear CS; clear Sm; have ST12 : True := trivial)
    | (go_at_call 15; clear ST12; (with_reducible refine (turn_go AV n cV x q _ HLX.out (by repeat (first | exact CV.out | refine Kd.C_alloc ?_ _ | refine Kd.C_drewN ?_ _ | refine Kd.C_drew ?_)) (by omega) q0 q1).mono ?_); rintro e wt ⟨vt, rfl, hRt, hbt⟩; obtain ⟨At, ct, rfl, lt, Ct⟩ := rform_ hRt HLT.out; have HRT := Aside0.mk (Kd.own_of_R hRt); have HST := Aside0.mk hbt; clear hRt hbt))
  have HAT : Aside0 (0 < n → ∃ g, At = some ⟨g, 0, none⟩ ∧ wk11.heap.size ≤ g) := ⟨fun h0 => own_at_some HRT.out HLT.out h0⟩
  have HRT2 : Aside0 (wt.ownsRow wk11.heap.size 3 1 (.slice At n ct) n (nums .i64 (turnL x q))) := ⟨by have := HRT.out; rwa [HLT.out] at this⟩
  have VP := Aside0.mk CV.out
  have UP := Aside0.mk CU.out
  have HBP := Aside0.mk HB.out
  go_loopw [14] (fun v wr => ∃ (i : Nat) (xs : List Int), i ≤ n ∧ v = .int .i64 (i : Int) ∧ Aside0 (wr.ownsRow wk11.heap.size 3 1 (.slice At n ct) n (nums .i64 xs)) ∧ Aside0 (Below wk11.heap.size wk11 wr)) (fun v _ => n - (intOf v).toNat)
  case atStart => exact ⟨0, _, by omega, rfl, HRT2, HST⟩
  case round =>
    obtain ⟨i, xs, hi, rfl, HO, HBR⟩ := hrel
    by_cases hlt : i < n
    · obtain ⟨g, rfl, hg⟩ := HAT.out (by omega)
      obtain ⟨⟨z, hz⟩, hfr⟩ := own_free HO.out i hlt
      go_wp2
      go_roundw
      case rel =>
        have hst := own_store HO.out (i : Int) 5
        rw [Int.toNat_natCast] at hst
        exact ⟨i + 1, _, by omega, by go_num, ⟨hst.1⟩, ⟨Below.grown HBR.out hst.2 HBR.out.size (fun k hk => by injection hk with hk; omega)⟩⟩
      case measure => simp [intOf]; omega
    · obtain rfl : n = i := by omega
      have HB3 := Aside0.mk (below_step HBP.out HBR.out)
      have V3 := Aside0.mk (Kd.C_below VP.out HBR.out)
      have U3 := Aside0.mk (Kd.C_below UP.out HBR.out)
      have ST50 : True := trivial
      go_wp2_with (first
        | (go_at_call 18; clear ST50; (with_reducible refine (few_go A0 m c0 _ hmc).mono ?_); rintro e w' ⟨rfl, rfl⟩; rw [HK0.out]; have ST51 : True := trivial)
        | (go_at_call 19; clear ST51; (with_reducible refine (same_c (w0 := w) AV n cV A0 c0 _ _ _ HB3.out HLX.out rfl V3.out (Kd.C_below HCX.out HB3.out) lV hk0c (by omega)).mono ?_); rintro e w51 ⟨rfl, HB4, S4⟩; have U4 := Aside0.mk (Kd.C_below U3.out S4.out); have ST52 : True := trivial)
        | (go_at_call 18; clear ST52; (with_reducible refine (few_go A1 m1 c1 _ hmc1).mono ?_); rintro e w' ⟨rfl, rfl⟩; rw [HK1.out]; have ST53 : True := trivial)
        | (go_at_call 19; clear ST53; (with_reducible refine (same_c (w0 := w) AU k1 cU A1 c1 _ _ _ HB4.out HLY.out rfl U4.out (Kd.C_below HCY.out HB4.out) lU hk1c (by omega)).mono ?_); rintro e w53 ⟨rfl, HB5, S5⟩))
      go_ret
      exact ⟨rfl, HB5.out⟩
theorem earshotlaw09_SpinSizes.calls (A0 : Option Addr) (c0 : Nat) (l0 : List Int) (A1 : Option Addr) (c1 : Nat) (l1 : List Int) (a2 : Int) (r : Bool) (w : World) (hG : GlobA w) (hr0 : Kd.C (Kd.int .i64) w A0 l0.length l0) (hc0 : l0.length ≤ c0) (hr1 : Kd.C (Kd.int .i64) w A1 l1.length l1) (hc1 : l1.length ≤ c1) (h : earshotlaw09_SpinSizes.f l0 l1 a2 = some r) :
    Calls Tryd.prog 7 #[.slice A0 l0.length c0, .slice A1 l1.length c1, .int .i64 a2] w fun e w' => e = .returned (.bool r) ∧ Below w.heap.size w w' := by
  unfold earshotlaw09_SpinSizes.f at h
  split at h
  case isFalse => cases h
  rename_i hz
  obtain rfl := Option.some.inj h
  simp only [Bool.and_eq_true, decide_eq_true_eq, List.all_eq_true] at hz
  have hv : In64 l0 := fun x hx => hz.1.1.1.1.2 x hx
  by_cases he : min 40 l0.length = min 40 l1.length
  · rcases Bool.eq_false_or_eq_true (sp_may (min 40 l0.length)) with hm | hm
    · exact sizes_em A0 A1 _ c0 _ c1 l0 l1 a2 w hG rfl hr0 hc0 hv rfl hr1 hc1 hz.1.2 hz.2 he hm
    · exact sizes_eo A0 A1 _ c0 _ c1 l0 l1 a2 w hG rfl hr0 hc0 hv rfl hr1 hc1 hz.1.2 hz.2 he hm
  · rcases Bool.eq_false_or_eq_true (sp_may (min 40 l0.length)) with hm | hm
    · exact sizes_nm A0 A1 _ c0 _ c1 l0 l1 a2 w hG rfl hr0 hc0 hv rfl hr1 hc1 hz.1.2 hz.2 he hm
    · exact sizes_no A0 A1 _ c0 _ c1 l0 l1 a2 w hG rfl hr0 hc0 hv rfl hr1 hc1 hz.1.2 hz.2 he hm

/-- THE ONE PURE STATEMENT of earshotlaw09_SpinSizes: yours. -/
def earshotlaw09_SpinSizes.Pure : Prop := ∀ (l0 : List Int) (l1 : List Int) (a2 : Int), l0.length ≤ maxLen → l0.length * 8 ≤ 140737488351232 → (∀ x ∈ l0, (Lit.int .i64 x).wf = true) → l1.length ≤ maxLen → l1.length * 8 ≤ 140737488351232 → (∀ x ∈ l1, (Lit.int .i64 x).wf = true) → (Lit.int .i64 a2).wf = true → earshotlaw09_SpinSizes.f l0 l1 a2 = some true
theorem earshotlaw09_SpinSizes.walk (P : earshotlaw09_SpinSizes.Pure) (a0 : Option Addr) (len0 cap0 : Nat) (z0 : List Int) (a1 : Option Addr) (len1 cap1 : Nat) (z1 : List Int) (a2 : Int) (w : World) (w0 : (a0 = none ∧ len0 = 0 ∧ cap0 = 0 ∧ z0 = []) ∨ ∃ x, a0 = some x ∧ len0 ≤ cap0 ∧ cap0 ≤ maxLen ∧ z0.length = cap0 ∧ (∀ i, i < z0.length → w.cell? (x.add i) = some (.int .i64 (z0.getD i 0))) ∧ ∀ n ∈ z0, (Lit.int .i64 n).wf = true) (y0 : len0 * 8 ≤ 140737488351232) (w1 : (a1 = none ∧ len1 = 0 ∧ cap1 = 0 ∧ z1 = []) ∨ ∃ x, a1 = some x ∧ len1 ≤ cap1 ∧ cap1 ≤ maxLen ∧ z1.length = cap1 ∧ (∀ i, i < z1.length → w.cell? (x.add i) = some (.int .i64 (z1.getD i 0))) ∧ ∀ n ∈ z1, (Lit.int .i64 n).wf = true) (y1 : len1 * 8 ≤ 140737488351232) (w2 : (Lit.int .i64 a2).wf = true) (hG : GlobA w) :
    Calls Tryd.prog 7 #[.slice a0 len0 cap0, .slice a1 len1 cap1, .int .i64 a2] w fun e w' => e = .returned (.bool true) ∧ Below w.heap.size w w' := by
  obtain ⟨l0, rfl, hr0, hm0, hw0, hc0⟩ := ReadsInt.ofRowC w0
  obtain ⟨l1, rfl, hr1, hm1, hw1, hc1⟩ := ReadsInt.ofRowC w1
  have h := P l0 l1 a2 hm0 y0 hw0 hm1 y1 hw1 w2
  refine (earshotlaw09_SpinSizes.calls _ _ l0 _ _ l1 a2 true w hG (Kd.C_of_reads (d := (0 : Int)) (h1 := fun _ => rfl) hr0) hc0 (Kd.C_of_reads (d := (0 : Int)) (h1 := fun _ => rfl) hr1) hc1 h).mono ?_
  rintro e w' ⟨rfl, hd⟩
  exact ⟨rfl, hd⟩

end Go.Proofs.YtphmfecabbellaaDoor.PSpinSizes
