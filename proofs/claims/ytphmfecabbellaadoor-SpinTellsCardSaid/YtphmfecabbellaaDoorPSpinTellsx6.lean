-- Written by a program of this work (wip/tools) for this claim; Lean checks it.
import Derived.Test.YtphmfecabbellaaDoorPSpinTellsx0
import Derived.Test.YtphmfecabbellaaDoorPSpinTellsx1
import Derived.Test.YtphmfecabbellaaDoorPSpinTellsx2
import Derived.Test.YtphmfecabbellaaDoorPSpinTellsx3
import Derived.Test.YtphmfecabbellaaDoorPSpinTellsx4
import Derived.Test.YtphmfecabbellaaDoorPSpinTellsx5
namespace Go.Proofs.YtphmfecabbellaaDoor.PSpinTells
open Go.RowKit Go.Proofs.YtphmfecabbellaaDoorW.PrintWords Go.Proofs.YtphmfecabbellaaDoorW.PrintLast Go.Proofs.YtphmfecabbellaaDoorW.PrintMore
attribute [local go_sem] max2_int min2_int max_two min_two max_three min_three max_four min_four   -- for this text's walks alone
set_option linter.unusedVariables false
set_option linter.unusedSimpArgs false

/-! ### earshotlaw09_SpinTells: function 5 -/
-- PURE intro l0 l1 a b _ h8 hw _ h81 hw1 ha hb; unfold earshotlaw09_SpinTells.f; rw [if_pos]; simp only [Bool.and_eq_true, decide_eq_true_eq, List.all_eq_true]; exact ⟨⟨⟨⟨⟨by omega, fun x hx => wf_i64 (hw x hx)⟩, by omega⟩, fun x hx => wf_i64 (hw1 x hx)⟩, (wf_i64 ha).1⟩, (wf_i64 ha).2⟩
/-! ### The parts of spins -/
theorem S_turn (F : Int → Int) (h : Nat) (hF : ∀ p, wrap64 (F (p + h)) = wrap64 (F p)) : ∀ k : Nat, wrap64 (S h (fun j => F ((j : Int) + (k : Int)))) = wrap64 (S h (fun j => F (j : Int)))
  | 0 => by simp
  | k + 1 => by
    rw [← S_turn F h hF k]
    have e1 := S_front h (fun j => F ((j : Int) + (k : Int)))
    have e2 : S (h + 1) (fun j => F ((j : Int) + (k : Int))) = S h (fun j => F ((j : Int) + (k : Int))) + F ((h : Int) + k) := rfl
    have e3 : S h (fun i => F (((i + 1 : Nat) : Int) + (k : Int))) = S h (fun j => F ((j : Int) + ((k + 1 : Nat) : Int))) := S_congr (fun i _ => by congr 1; omega)
    have e4 := hF (k : Int)
    rw [show (k : Int) + h = (h : Int) + k by omega] at e4
    rw [← e3]
    have e5 : S h (fun i => F (((i + 1 : Nat) : Int) + (k : Int))) = S h (fun j => F ((j : Int) + (k : Int))) + F ((h : Int) + k) - F (k : Int) := by
      have : F ((0 : Nat) + (k : Int)) = F (k : Int) := by simp
      omega
    rw [e5, ← W_W_sub, ← W_add_W, e4, W_add_W, W_W_sub]
    congr 1; omega
theorem sp_sum_S (l : List Int) (T : Int → Int) (s : Nat) : ∀ n, sp_sum l T s n = wrap64 (S n (fun j => l.getD j 0 * T ((j : Int) * (s : Int))))
  | 0 => (W_in (a := 0) (by decide) (by decide)).symm
  | n + 1 => by rw [sp_sum, sp_sum_S l T s n, W_W_add, W_add_W]; rfl
theorem T_per {T : Int → Int} (hT : ∀ x, T (x + 32) = -T x) (x : Int) (k : Nat) : T (x + 64 * (k : Int)) = T x := by
  induction k with
  | zero => simp
  | succ k ih => rw [show x + 64 * ((k + 1 : Nat) : Int) = x + 64 * (k : Int) + 32 + 32 by omega, hT, hT, ih]; omega
theorem T_mod {T : Int → Int} (hT : ∀ x, T (x + 32) = -T x) {x y : Int} (h : x % 64 = y % 64) : T x = T y := by
  have key : ∀ z : Int, T z = T (z % 64) := fun z => by
    rcases Int.le_total 0 (z / 64) with h0 | h0
    · obtain ⟨k, hk⟩ := Int.eq_ofNat_of_zero_le h0
      have := T_per hT (z % 64) k
      rw [← this]; congr 1; omega
    · obtain ⟨k, hk⟩ := Int.eq_ofNat_of_zero_le (show 0 ≤ -(z / 64) by omega)
      have := T_per hT z k
      rw [← this]; congr 1; omega
  rw [key x, key y, h]
theorem may_s {h : Nat} (hm : sp_may h = true) : 0 < h ∧ (h : Int) * ((32 / h : Nat) : Int) = 32 ∧ h ≤ 32 := by
  rcases sp_may_cases hm with rfl | rfl | rfl | rfl | rfl | rfl <;> decide
theorem part_turn (v : List Int) (hv : In64 v) (T : Int → Int) (hT : ∀ x, T (x + 32) = -T x) (hm : sp_may v.length = true) (k : Int) :
    sp_part (turnL v k) T = wrap64 (S v.length (fun j => v.getD j 0 * T (((j : Int) + k) * ((32 / v.length : Nat) : Int)))) := by
  obtain ⟨h0, hs, _⟩ := may_s hm
  unfold sp_part
  rw [turnL_length, if_pos hm, sp_sum_S]
  generalize hss : ((32 / v.length : Nat) : Int) = s at hs
  have e0 : S v.length (fun j => (turnL v k).getD j 0 * T ((j : Int) * s)) = S v.length (fun j => ext v ((j : Int) - k) * T ((j : Int) * s)) := S_congr (fun i hi => by rw [turnL_getD _ _ _ hi])
  have hF : ∀ p : Int, wrap64 (ext v (p + (v.length : Int) - k) * T ((p + (v.length : Int)) * s)) = wrap64 (ext v (p - k) * T (p * s)) := fun p => by
    rw [show p + (v.length : Int) - k = p - k + v.length by omega, ext_half v hv, Int.add_mul, hs, hT, W_W_mul, Int.neg_mul_neg]
  have hk0 := Int.emod_nonneg k (show 2 * (v.length : Int) ≠ 0 by omega)
  obtain ⟨K, hK⟩ := Int.eq_ofNat_of_zero_le hk0
  have hsh := S_turn (fun p => ext v (p - k) * T (p * s)) v.length hF K
  rw [e0, ← hsh]
  congr 1
  refine S_congr (fun i hi => ?_)
  have ek : k = 2 * (v.length : Int) * (k / (2 * (v.length : Int))) + (K : Int) := by rw [← hK]; exact (Int.mul_ediv_add_emod k _).symm
  obtain ⟨z, hz⟩ : ∃ z, k / (2 * (v.length : Int)) = z := ⟨_, rfl⟩
  rw [hz] at ek
  have e1 : ext v ((i : Int) + (K : Int) - k) = v.getD i 0 := by
    rw [← ext_low v i hi]
    refine ext_mod ?_
    rw [show (i : Int) + (K : Int) - k = (i : Int) + 2 * (v.length : Int) * (-z) by rw [Int.mul_neg]; omega, Int.add_mul_emod_self_left]
  have e2 : T (((i : Int) + (K : Int)) * s) = T (((i : Int) + k) * s) := by
    refine T_mod hT ?_
    have e4 : 2 * (v.length : Int) * z * s = 64 * z := by
      rw [Int.mul_right_comm, Int.mul_assoc 2, hs]; omega
    have e3 : ((i : Int) + k) * s = ((i : Int) + (K : Int)) * s + 64 * z := by
      rw [ek, ← e4, ← Int.add_mul]
      congr 1
      omega
    rw [e3, Int.add_mul_emod_self_left]
  rw [e1, e2]
theorem part_S (v : List Int) (T : Int → Int) (hm : sp_may v.length = true) : sp_part v T = wrap64 (S v.length (fun j => v.getD j 0 * T ((j : Int) * ((32 / v.length : Nat) : Int)))) := by
  unfold sp_part
  rw [if_pos hm, sp_sum_S]
theorem cos_fin : ∀ r : Fin 64, cosT ((r.1 : Nat) : Int) = cosT ((r.1 : Nat) : Int) ∧ cosT (((r.1 : Nat) : Int) + 32) = -cosT ((r.1 : Nat) : Int) ∧ cosT (((r.1 : Nat) : Int) + 16) = -sinT ((r.1 : Nat) : Int) ∧ sinT (((r.1 : Nat) : Int) + 16) = cosT ((r.1 : Nat) : Int) ∧ sinT (((r.1 : Nat) : Int) + 32) = -sinT ((r.1 : Nat) : Int) ∧ cosT (-((r.1 : Nat) : Int)) = cosT ((r.1 : Nat) : Int) ∧ sinT (-((r.1 : Nat) : Int)) = -sinT ((r.1 : Nat) : Int) := by decide +kernel
theorem cosT_mod {x y : Int} (h : x % 64 = y % 64) : cosT x = cosT y := by unfold cosT; rw [h]
theorem sinT_mod {x y : Int} (h : x % 64 = y % 64) : sinT x = sinT y := by unfold sinT; rw [h]
theorem T_all (x : Int) : cosT (x + 32) = -cosT x ∧ cosT (x + 16) = -sinT x ∧ sinT (x + 16) = cosT x ∧ sinT (x + 32) = -sinT x ∧ cosT (-x) = cosT x ∧ sinT (-x) = -sinT x := by
  have m0 := Int.emod_nonneg x (show (64 : Int) ≠ 0 by decide)
  have m1 := Int.emod_lt_of_pos x (show (0 : Int) < 64 by decide)
  obtain ⟨n, hn⟩ := Int.eq_ofNat_of_zero_le m0
  have h := cos_fin ⟨n, by omega⟩
  simp only at h
  rw [← hn] at h
  obtain ⟨_, h1, h2, h3, h4, h5, h6⟩ := h
  rw [cosT_mod (x := x + 32) (y := x % 64 + 32) (by omega), cosT_mod (x := x + 16) (y := x % 64 + 16) (by omega), sinT_mod (x := x + 16) (y := x % 64 + 16) (by omega), sinT_mod (x := x + 32) (y := x % 64 + 32) (by omega), cosT_mod (x := -x) (y := -(x % 64)) (by omega), sinT_mod (x := -x) (y := -(x % 64)) (by omega), cosT_mod (x := x) (y := x % 64) (by omega), sinT_mod (x := x) (y := x % 64) (by omega)]
  exact ⟨h1, h2, h3, h4, h5, h6⟩
theorem cos_half (x : Int) : cosT (x + 32) = -cosT x := (T_all x).1
theorem sin_half (x : Int) : sinT (x + 32) = -sinT x := (T_all x).2.2.2.1
theorem neg_S (n : Nat) (g f : Nat → Int) (h : ∀ i, i < n → g i = -f i) : S n g = -S n f := by rw [← S_neg]; exact S_congr h
theorem part_half (v : List Int) (hv : In64 v) (T : Int → Int) (hT : ∀ x, T (x + 32) = -T x) (hm : sp_may v.length = true) : sp_part (turnL v v.length) T = wrap64 (-(sp_part v T)) := by
  rw [part_turn v hv T hT hm, part_S v T hm, W_neg_W]
  congr 1
  refine neg_S _ _ _ (fun i _ => ?_)
  rw [Int.add_mul, (may_s hm).2.1, hT, Int.mul_neg]
theorem part_add (a b : List Int) (T : Int → Int) (h : a.length = b.length) : sp_part (addL a b) T = wrap64 (sp_part a T + sp_part b T) := by
  by_cases hm : sp_may a.length = true
  · rw [part_S _ T (by rw [addL_length h]; exact hm), part_S a T hm, part_S b T (by rw [← h]; exact hm), addL_length h, ← h, W_W_add, W_add_W, ← S_add, ← W_S]
    rw [← W_S _ (fun i => a.getD i 0 * T (↑i * ↑(32 / a.length)) + b.getD i 0 * T (↑i * ↑(32 / a.length)))]
    congr 1
    refine S_congr (fun i hi => ?_)
    rw [addL_getD h i hi, W_W_mul, Int.add_mul]
  · unfold sp_part
    rw [addL_length h, ← h, if_neg hm, if_neg hm, if_neg hm]
    exact (W_in (a := 0) (by decide) (by decide)).symm
theorem part_less (a b : List Int) (T : Int → Int) (h : a.length = b.length) : sp_part (lessL a b) T = wrap64 (sp_part a T - sp_part b T) := by
  by_cases hm : sp_may a.length = true
  · rw [part_S _ T (by rw [lessL_length h]; exact hm), part_S a T hm, part_S b T (by rw [← h]; exact hm), lessL_length h, ← h, W_W_sub, W_sub_W, ← S_sub, ← W_S]
    rw [← W_S _ (fun i => a.getD i 0 * T (↑i * ↑(32 / a.length)) - b.getD i 0 * T (↑i * ↑(32 / a.length)))]
    congr 1
    refine S_congr (fun i hi => ?_)
    rw [lessL_getD h i hi, W_W_mul, Int.sub_mul]
  · unfold sp_part
    rw [lessL_length h, ← h, if_neg hm, if_neg hm, if_neg hm]
    exact (W_in (a := 0) (by decide) (by decide)).symm

/-- A call's result is a row that reads as xs; the world is as it was, but for what is new. -/
def CRes (w0 W : World) (h : Nat) (xs : List Int) (e : Ending) (w' : World) : Prop :=
  ∃ A c, e = .returned (.slice A h c) ∧ h ≤ c ∧ Aside0 ((Kd.int .i64).C w' A h xs) ∧ Aside0 (Below w0.heap.size w0 w') ∧ Aside0 (Below W.heap.size W w')
theorem cres_of {w0 W w' : World} {h : Nat} {xs : List Int} {v : Value} {t b : Nat} {ok : Nat → Prop} (hB : Below w0.heap.size w0 W) (hR : (Kd.int .i64).R t w' b ok v xs) (hl : xs.length = h) (hb : Below W.heap.size W w') : CRes w0 W h xs (.returned v) w' := by
  subst hl
  obtain ⟨A, c, rfl, h1, h2⟩ := Kd.R_reads hR
  exact ⟨A, c, rfl, h1, ⟨h2⟩, ⟨below_step hB hb⟩, ⟨hb⟩⟩
theorem same_go (l : List Int) (hl : l.length ≤ 100000000) (d : Nat) : ∀ (k i : Nat), i ≤ l.length → l.length - i = d → d < k → earshotref04_Same.l0 k l l (i : Int) = some true := by
  induction d with
  | zero =>
    intro k i h0 hd hk
    obtain ⟨k, rfl⟩ : ∃ m, k = m + 1 := ⟨k - 1, by omega⟩
    simp only [earshotref04_Same.l0]
    rw [if_neg (by omega)]
  | succ d ih =>
    intro k i h0 hd hk
    obtain ⟨k, rfl⟩ : ∃ m, k = m + 1 := ⟨k - 1, by omega⟩
    simp only [earshotref04_Same.l0]
    have hw : wrap64 ((i : Int) + 1) = ((i + 1 : Nat) : Int) := by unfold wrap64; omega
    rw [if_pos (by omega), if_pos (by omega), if_pos (by omega), if_pos trivial, hw]
    exact ih k (i + 1) (by omega) (by omega) (by omega)
theorem same_f (l : List Int) (hl : l.length ≤ 100000000) : earshotref04_Same.f (l.length + 1) l l = some true := by
  unfold earshotref04_Same.f
  rw [if_pos rfl]
  exact same_go l hl l.length _ 0 (by omega) (by omega) (by omega)
/-- Two rows that read the same. -/
theorem same_c {w0 : World} (A1 : Option Addr) (h c1 : Nat) (A2 : Option Addr) (c2 : Nat) (l1 l2 : List Int) (W : World) (hB : Below w0.heap.size w0 W) (hl : l1.length = h) (he : l1 = l2) (hC1 : (Kd.int .i64).C W A1 h l1) (hC2 : (Kd.int .i64).C W A2 h l2) (h1 : h ≤ c1) (h2 : h ≤ c2) (hh : h ≤ 1000000) :
    Calls Tryd.prog 19 #[.slice A1 h c1, .slice A2 h c2] W fun e w' => e = .returned (.bool true) ∧ Aside0 (Below w0.heap.size w0 w') ∧ Aside0 (Below W.heap.size W w') := by
  subst he
  subst hl
  exact (earshotref04_Same.calls _ A1 c1 l1 A2 c2 l1 true W hC1 h1 hC2 h2 (same_f l1 (by omega))).mono fun e w' ⟨a, ⟨n, b⟩⟩ => by
    subst b
    exact ⟨a, ⟨pw_below_drewN hB n⟩, ⟨pw_below_drewN (Below.refl _ _) n⟩⟩
theorem zeros_c (X : World) (g n : Nat) (hg : g = X.heap.size) (hn : n ≤ 1000000) : (Kd.int .i64).C (X.alloc (.cells (madeCells #[.int .i64 0] n) 3)) (some ⟨g, 0, none⟩) n (List.replicate n 0) := by
  subst hg
  have h := own_made X X.heap.size 3 .i64 n (Nat.le_refl _) (by omega)
  have hR := Kd.R_of_own (enc := Value.int .i64) (h1 := fun _ => rfl) (ok := fun _ => True) (xs := List.replicate n 0) (by rw [List.length_replicate]; exact h) (fun _ _ => trivial)
  obtain ⟨A, c, he, _, h2⟩ := Kd.R_reads hR
  rw [List.length_replicate] at he h2
  injection he with e1 e2 e3
  rw [e1]
  exact h2
/-- A callee that draws only, in a region that is walked once, in a world that has drawn before. -/
theorem quiet_add {P : Program} {f : FuncId} {args : Array Value} {W : World} {K x : Nat} {v : Value} (h : Calls P f args (W.drewN (K + x)) fun e w' => e = .returned v ∧ Drawn0 (W.drewN (K + x)) w') :
    Calls P f args (W.drewN (K + x)) fun e w'' => e = .returned v ∧ ∃ n, w'' = W.drewN (K + n) :=
  h.mono fun _ _ ⟨he, ⟨m, hm⟩⟩ => ⟨he, x + m, by rw [hm, World.drewN_drewN, Nat.add_assoc]⟩

theorem q_awake : earshotlaw09_awake.f 10 = some true := by decide +kernel
theorem turn_c {w0 : World} (A : Option Addr) (h c : Nat) (l : List Int) (k : Int) (W : World) (hB : Below w0.heap.size w0 W) (hl : l.length = h) (hC : (Kd.int .i64).C W A h l) (hh : h ≤ 1000000) (k0 : -9223372036854775808 ≤ k) (k1 : k ≤ 9223372036854775807) :
    Calls Tryd.prog 15 #[.slice A h c, .int .i64 k] W (CRes w0 W h (turnL l k)) :=
  (turn_go A h c l k W hl hC hh k0 k1).mono fun e w' ⟨v, he, hR, hb⟩ => by subst he; exact cres_of hB hR (by rw [turnL_length, hl]) hb
theorem awake_d {w0 : World} (W : World) (hB : Below w0.heap.size w0 W) (hG : GlobA W) : Calls Tryd.prog 13 #[] W fun e w' => e = .returned (.bool true) ∧ Aside0 (Below w0.heap.size w0 w') ∧ Aside0 (Below W.heap.size W w') :=
  (earshotlaw09_awake.calls 10 true W hG q_awake).mono fun e w' ⟨a, b⟩ => ⟨a, ⟨below_step hB b⟩, ⟨b⟩⟩

theorem rows_one {W : World} {A : Option Addr} {h c : Nat} {l : List Int} {g j : Nat} (hl : l.length = h) (hC : (Kd.int .i64).C W A h l) (hc : h ≤ c) (hcell : W.cell? ⟨g, j, none⟩ = some (.slice A h c)) :
    ∃ cs : List Value, cs.length = (Kd.slice 3 (Kd.int .i64)).sz ∧ (Kd.slice 3 (Kd.int .i64)).K W l cs ∧ ∀ i u, cs[i]? = some u → W.cell? ((⟨g, 0, none⟩ : Addr).add (j * (Kd.slice 3 (Kd.int .i64)).sz + i)) = some u := by
  subst hl
  refine ⟨[.slice A l.length c], rfl, ⟨A, c, rfl, hc, hC⟩, fun i u hu => ?_⟩
  cases i with
  | zero =>
    have hu' : Value.slice A l.length c = u := by simpa using hu
    subst hu'
    rw [show j * (Kd.slice 3 (Kd.int .i64)).sz + 0 = j from by show j * 1 + 0 = j; omega, add_plain]
    exact hcell
  | succ i => simp at hu
theorem add1_c {w0 : World} (g : Nat) (A1 : Option Addr) (h c1 : Nat) (l1 L : List Int) (W : World) (hB : Below w0.heap.size w0 W) (hg : W.heap[g]? = some (.cells #[.slice A1 h c1] 22 (0, 0))) (hl1 : l1.length = h) (hC1 : (Kd.int .i64).C W A1 h l1) (h1 : h ≤ c1) (hh : h ≤ 1000000) (hL : addAll [l1] = L) (hLl : L.length = h) :
    Calls Tryd.prog 20 #[.slice (some ⟨g, 0, none⟩) 1 1] W (CRes w0 W h L) := by
  have hC : (Kd.slice 3 (Kd.int .i64)).C W (some ⟨g, 0, none⟩) 1 [l1] := ⟨rfl, by decide, fun _ => ⟨⟨g, 0, none⟩, rfl, fun j p hj => by
    match j, hj with
    | 0, hj =>
      obtain rfl : l1 = p := by simpa using hj
      exact rows_one hl1 hC1 h1 ((blk_cell hg 0).trans rfl)⟩⟩
  refine (add_go (some ⟨g, 0, none⟩) 1 1 [l1] W rfl hC (by decide) (fun v hv => by rw [List.mem_singleton.1 hv]; omega)).mono fun e w' ⟨v, he, hR, hb⟩ => ?_
  subst he
  rw [hL] at hR
  exact cres_of hB hR hLl hb
theorem add2_c {w0 : World} (g : Nat) (A1 A2 : Option Addr) (h c1 h' c2 k : Nat) (l1 l2 L : List Int) (W : World) (hB : Below w0.heap.size w0 W) (hg : W.heap[g]? = some (.cells #[.slice A1 h c1, .slice A2 h' c2] 22 (0, 0))) (hl1 : l1.length = h) (hl2 : l2.length = h') (hC1 : (Kd.int .i64).C W A1 h l1) (hC2 : (Kd.int .i64).C W A2 h' l2) (h1 : h ≤ c1) (h2 : h' ≤ c2) (hh : h ≤ 1000000) (hh' : h' ≤ 1000000) (hL : addAll [l1, l2] = L) (hLl : L.length = k) :
    Calls Tryd.prog 20 #[.slice (some ⟨g, 0, none⟩) 2 2] W (CRes w0 W k L) := by
  have hC : (Kd.slice 3 (Kd.int .i64)).C W (some ⟨g, 0, none⟩) 2 [l1, l2] := ⟨rfl, by decide, fun _ => ⟨⟨g, 0, none⟩, rfl, fun j p hj => by
    match j, hj with
    | 0, hj =>
      obtain rfl : l1 = p := by simpa using hj
      exact rows_one hl1 hC1 h1 ((blk_cell hg 0).trans rfl)
    | 1, hj =>
      obtain rfl : l2 = p := by simpa using hj
      exact rows_one hl2 hC2 h2 ((blk_cell hg 1).trans rfl)⟩⟩
  refine (add_go (some ⟨g, 0, none⟩) 2 2 [l1, l2] W rfl hC (by decide) (fun v hv => by
    rcases List.mem_cons.1 hv with rfl | hv
    · omega
    · rw [List.mem_singleton.1 hv]; omega)).mono fun e w' ⟨v, he, hR, hb⟩ => ?_
  subst he
  rw [hL] at hR
  exact cres_of hB hR hLl hb
theorem add3_c {w0 : World} (g : Nat) (A1 A2 A3 : Option Addr) (h c1 h' c2 h'' c3 k : Nat) (l1 l2 l3 L : List Int) (W : World) (hB : Below w0.heap.size w0 W) (hg : W.heap[g]? = some (.cells #[.slice A1 h c1, .slice A2 h' c2, .slice A3 h'' c3] 22 (0, 0))) (hl1 : l1.length = h) (hl2 : l2.length = h') (hl3 : l3.length = h'') (hC1 : (Kd.int .i64).C W A1 h l1) (hC2 : (Kd.int .i64).C W A2 h' l2) (hC3 : (Kd.int .i64).C W A3 h'' l3) (h1 : h ≤ c1) (h2 : h' ≤ c2) (h3 : h'' ≤ c3) (hh : h ≤ 1000000) (hh' : h' ≤ 1000000) (hh'' : h'' ≤ 1000000) (hL : addAll [l1, l2, l3] = L) (hLl : L.length = k) :
    Calls Tryd.prog 20 #[.slice (some ⟨g, 0, none⟩) 3 3] W (CRes w0 W k L) := by
  have hC : (Kd.slice 3 (Kd.int .i64)).C W (some ⟨g, 0, none⟩) 3 [l1, l2, l3] := ⟨rfl, by decide, fun _ => ⟨⟨g, 0, none⟩, rfl, fun j p hj => by
    match j, hj with
    | 0, hj =>
      obtain rfl : l1 = p := by simpa using hj
      exact rows_one hl1 hC1 h1 ((blk_cell hg 0).trans rfl)
    | 1, hj =>
      obtain rfl : l2 = p := by simpa using hj
      exact rows_one hl2 hC2 h2 ((blk_cell hg 1).trans rfl)
    | 2, hj =>
      obtain rfl : l3 = p := by simpa using hj
      exact rows_one hl3 hC3 h3 ((blk_cell hg 2).trans rfl)⟩⟩
  refine (add_go (some ⟨g, 0, none⟩) 3 3 [l1, l2, l3] W rfl hC (by decide) (fun v hv => by
    rcases List.mem_cons.1 hv with rfl | hv
    · omega
    rcases List.mem_cons.1 hv with rfl | hv
    · omega
    · rw [List.mem_singleton.1 hv]; omega)).mono fun e w' ⟨v, he, hR, hb⟩ => ?_
  subst he
  rw [hL] at hR
  exact cres_of hB hR hLl hb
theorem add_zero_l (a : List Int) (ha : In64 a) : addL (List.replicate a.length 0) a = a := by
  refine row_ext (by rw [addL_length (by simp)]; simp) (fun i hi => ?_)
  rw [addL_length (by simp), List.length_replicate] at hi
  rw [addL_getD (by simp) i (by simpa using hi)]
  have : (List.replicate a.length (0 : Int)).getD i 0 = 0 := by rw [List.getD_eq_getElem?_getD, List.getElem?_replicate, if_pos hi]; rfl
  rw [this, Int.zero_add, ha.getD]
theorem addAll_one (a : List Int) (ha : In64 a) : addAll [a] = a := by
  show addGo a.length [a] (List.replicate a.length 0) = a
  rw [addGo, add_zero_l a ha, if_pos rfl, addGo]
theorem addAll_two (a b : List Int) (ha : In64 a) : addAll [a, b] = addL a b := by
  show addGo a.length [a, b] (List.replicate a.length 0) = _
  rw [addGo, add_zero_l a ha, if_pos rfl, addGo, addGo]
  split
  · rfl
  · rename_i h
    unfold addL at h ⊢
    split at h
    · rename_i e
      rw [List.length_zipWith] at h; omega
    · rw [if_neg ‹_›]
theorem addAll_three (a b c : List Int) (ha : In64 a) (hb : a.length = b.length) (hc : a.length = c.length) : addAll [a, b, c] = addL (addL a b) c := by
  show addGo a.length [a, b, c] (List.replicate a.length 0) = _
  rw [addGo, add_zero_l a ha, if_pos rfl, addGo, if_pos (addL_length hb), addGo, if_pos, addGo]
  rw [addL_length (by rw [addL_length hb, hc]), addL_length hb]
theorem half_zero (v : List Int) (hv : In64 v) : addL (turnL v v.length) v = List.replicate v.length 0 := by
  refine row_ext (by rw [addL_length (by simp [turnL_length]), turnL_length]; simp) (fun i hi => ?_)
  rw [addL_length (by simp [turnL_length]), turnL_length] at hi
  rw [addL_getD (by simp [turnL_length]) i (by rw [turnL_length]; exact hi), turn_half_getD v hv i hi, W_W_add]
  have : (List.replicate v.length (0 : Int)).getD i 0 = 0 := by rw [List.getD_eq_getElem?_getD, List.getElem?_replicate, if_pos hi]; rfl
  rw [this, show -(v.getD i 0) + v.getD i 0 = 0 by omega]
  exact W_in (by decide) (by decide)

theorem less_c {w0 : World} (A1 A2 : Option Addr) (h c1 h' c2 k : Nat) (l1 l2 : List Int) (W : World) (hB : Below w0.heap.size w0 W) (hl1 : l1.length = h) (hl2 : l2.length = h') (hC1 : (Kd.int .i64).C W A1 h l1) (hC2 : (Kd.int .i64).C W A2 h' l2) (hh : h ≤ 1000000) (hh' : h' ≤ 1000000) (hLl : (lessL l1 l2).length = k) :
    Calls Tryd.prog 22 #[.slice A1 h c1, .slice A2 h' c2] W (CRes w0 W k (lessL l1 l2)) :=
  (less_go A1 A2 h c1 h' c2 l1 l2 W hl1 hC1 hl2 hC2 hh hh').mono fun e w' ⟨v, he, hR, hb⟩ => by subst he; exact cres_of hB hR hLl hb

theorem real_d {w0 : World} (A : Option Addr) (h c : Nat) (l : List Int) (r : Int) (W : World) (hB : Below w0.heap.size w0 W) (hG : GlobA W) (hl : l.length = h) (hC : (Kd.int .i64).C W A h l) (hh : h ≤ 1000000) (hr : sp_part l cosT = r) :
    Calls Tryd.prog 16 #[.slice A h c] W fun e w' => e = .returned (.int .i64 r) ∧ Aside0 (Below w0.heap.size w0 w') ∧ Aside0 (Below W.heap.size W w') := by
  subst hr
  exact (real_go A h c l W hG hl hC hh).mono fun e w' ⟨a, ⟨n, b⟩⟩ => by
    subst b
    exact ⟨a, ⟨pw_below_drewN hB n⟩, ⟨pw_below_drewN (Below.refl _ _) n⟩⟩
theorem imag_d {w0 : World} (A : Option Addr) (h c : Nat) (l : List Int) (r : Int) (W : World) (hB : Below w0.heap.size w0 W) (hG : GlobA W) (hl : l.length = h) (hC : (Kd.int .i64).C W A h l) (hh : h ≤ 1000000) (hr : wrap64 (-(sp_part l sinT)) = r) :
    Calls Tryd.prog 17 #[.slice A h c] W fun e w' => e = .returned (.int .i64 r) ∧ Aside0 (Below w0.heap.size w0 w') ∧ Aside0 (Below W.heap.size W w') := by
  subst hr
  exact (imag_go A h c l W hG hl hC hh).mono fun e w' ⟨a, ⟨n, b⟩⟩ => by
    subst b
    exact ⟨a, ⟨pw_below_drewN hB n⟩, ⟨pw_below_drewN (Below.refl _ _) n⟩⟩

theorem sized_d {w0 : World} (A : Option Addr) (m c n : Nat) (l v : List Int) (s : Int) (W : World) (hB : Below w0.heap.size w0 W) (hl : l.length = m) (hC : (Kd.int .i64).C W A m l) (hc : m ≤ c) (hm : m ≤ 4000000000000000000) (hn : sizeOf_ s = n) (hv : sizedL n l = v) :
    Calls Tryd.prog 14 #[.slice A m c, .int .i64 s] W (CRes w0 W n v) := by
  subst hl
  subst hn
  subst hv
  refine (earshotlaw09_sized.calls A c l s (sizedL (sizeOf_ s) l) W hC hc (by unfold earshotlaw09_sized.f; rw [if_pos (decide_eq_true hm)])).mono fun e w' ⟨v, he, hR, hb⟩ => ?_
  subst he
  exact cres_of hB hR (sizedL_length _ _) hb

theorem sized_in {l : List Int} (h : In64 l) (n : Nat) : In64 (sizedL n l) := by
  intro x hx
  simp only [sizedL, List.mem_map] at hx
  obtain ⟨i, _, rfl⟩ := hx
  rw [← h.getD]
  exact ⟨W_lo _, W_hi _⟩
theorem sizeOf_may (s : Int) : sp_may (sizeOf_ s) = true := by
  unfold sizeOf_
  have m0 := Int.emod_nonneg s (show (6 : Int) ≠ 0 by decide)
  have m1 := Int.emod_lt_of_pos s (show (0 : Int) < 6 by decide)
  have : (s % 6).toNat = 0 ∨ (s % 6).toNat = 1 ∨ (s % 6).toNat = 2 ∨ (s % 6).toNat = 3 ∨ (s % 6).toNat = 4 ∨ (s % 6).toNat = 5 := by omega
  rcases this with e | e | e | e | e | e <;> rw [e] <;> decide
theorem part_quarter_cos (v : List Int) (hv : In64 v) (hm : sp_may v.length = true) (h2 : v.length ≠ 1) : sp_part (turnL v ((v.length / 2 : Nat) : Int)) cosT = wrap64 (-(sp_part v sinT)) := by
  rw [part_turn v hv cosT cos_half hm, part_S v sinT hm, W_neg_W]
  congr 1
  refine neg_S _ _ _ (fun i _ => ?_)
  rw [Int.add_mul]
  have : ((v.length / 2 : Nat) : Int) * ((32 / v.length : Nat) : Int) = 16 := by
    rcases sp_may_cases hm with e | e | e | e | e | e <;> first | (exact absurd e h2) | (rw [e]; rfl)
  rw [this, (T_all _).2.1, Int.mul_neg]
theorem part_quarter_sin (v : List Int) (hv : In64 v) (hm : sp_may v.length = true) (h2 : v.length ≠ 1) : sp_part (turnL v ((v.length / 2 : Nat) : Int)) sinT = sp_part v cosT := by
  rw [part_turn v hv sinT sin_half hm, part_S v cosT hm]
  congr 1
  refine S_congr (fun i _ => ?_)
  rw [Int.add_mul]
  have : ((v.length / 2 : Nat) : Int) * ((32 / v.length : Nat) : Int) = 16 := by
    rcases sp_may_cases hm with e | e | e | e | e | e <;> first | (exact absurd e h2) | (rw [e]; rfl)
  rw [this, (T_all _).2.2.1]

/-! ### The document's answers for spins come to the same rows and numbers -/
theorem ci64_mk {x : Int} (h0 : -9223372036854775808 ≤ x) (h1 : x ≤ 9223372036854775807) : ci64b x = true := by simp [ci64b, h0, h1]
theorem refquot_f {x n : Int} (hx : -9223372036854775808 ≤ x ∧ x ≤ 9223372036854775807) (hn : -9223372036854775808 ≤ n ∧ n ≤ 9223372036854775807) (h1 : 1 ≤ n) : earshotref02_Quot.f x n = some (x / n) := by
  have h := prt_some hx hn h1
  unfold round_Parts.f at h
  unfold earshotref02_Quot.f
  rw [if_neg (by omega)] at h
  rw [if_neg (by omega)] at h ⊢
  split at h
  · rename_i hc
    rw [if_pos hc]
    have h := Option.some.inj h
    rw [Prod.mk.injEq] at h
    rw [h.1]
  · rename_i hc
    rw [if_neg hc]
    have h := Option.some.inj h
    rw [Prod.mk.injEq] at h
    rw [h.1]
theorem refrest_f {x n : Int} (hx : -9223372036854775808 ≤ x ∧ x ≤ 9223372036854775807) (hn : -9223372036854775808 ≤ n ∧ n ≤ 9223372036854775807) (h1 : 1 ≤ n) : earshotref02_Rest.f x n = some (x % n) := by
  unfold earshotref02_Rest.f
  rw [refquot_f hx hn h1, Option.bind_some]
  have e := Int.mul_ediv_add_emod x n
  have m0 := Int.emod_nonneg x (show n ≠ 0 by omega)
  have m1 := Int.emod_lt_of_pos x (show 0 < n by omega)
  rw [W_sub_W, Int.mul_comm]
  congr 1
  rw [show x - n * (x / n) = x % n by omega]
  exact W_in (by omega) (by omega)
theorem refturn_go (l : List Int) (k : Int) (k0 : -9223372036854775808 ≤ k) (k1 : k ≤ 9223372036854775807) (hl : l.length ≤ 1000000) (b : Nat) (hb : (b : Int) = k % (2 * (l.length : Int))) (m : Nat) : ∀ (d n : Nat), n + d = l.length →
    earshotref09_Turn.l0 (d + 1 + m) l k (l.length : Int) (turnGo l b n) (n : Int) = some (turnGo l b l.length)
  | 0, n, hn => by
    rw [show 0 + 1 + m = m + 1 by omega, earshotref09_Turn.l0, if_neg (by omega), show n = l.length by omega]
  | d + 1, n, hn => by
    have h0 : 0 < l.length := by omega
    have ih := refturn_go l k k0 k1 hl b hb m d (n + 1) (by omega)
    have hb2 : b < 2 * l.length := by have := Int.emod_lt_of_pos k (show 0 < 2 * (l.length : Int) by omega); omega
    have w1 : wrap64 (2 * (l.length : Int)) = 2 * (l.length : Int) := W_in (by omega) (by omega)
    have w2 : wrap64 ((n : Int) + (b : Int)) = (n : Int) + (b : Int) := W_in (by omega) (by omega)
    have w3 : wrap64 ((n : Int) + 1) = ((n + 1 : Nat) : Int) := by rw [W_in (by omega) (by omega)]; omega
    have hp : Int.tmod ((n : Int) + (b : Int)) (2 * (l.length : Int)) = if n + b ≥ 2 * l.length then ((n + b - 2 * l.length : Nat) : Int) else ((n + b : Nat) : Int) := by
      rw [Int.tmod_eq_emod_of_nonneg (by omega)]
      split
      · exact emod_mk (q := 1) (by omega) (by omega) (by omega)
      · exact emod_mk (q := 0) (by omega) (by omega) (by omega)
    have hr : rd l (n : Int) = l.getD n 0 := by unfold rd; rw [Int.toNat_natCast]
    have hgl : ((turnGo l b n).length : Int) = l.length := by rw [turnGo_length]
    have hg : turnGo l b (n + 1) = (turnGo l b n).set (posOf l.length b n) (valOf l b n) := rfl
    unfold posOf valOf at hg
    rw [show d + 1 + 1 + m = (d + 1 + m) + 1 by omega, earshotref09_Turn.l0, if_pos (by omega), w1, refrest_f ⟨k0, k1⟩ (by omega) (by omega), Option.bind_some, ← hb, w2, hp, if_neg (by omega), hr, w3, hgl]
    by_cases c1 : n + b ≥ 2 * l.length
    · rw [if_pos c1, if_pos c1] at hg
      rw [if_pos c1, if_pos (by omega), if_pos (by omega), if_pos (by omega), if_pos (by omega), if_pos (by omega), Int.toNat_natCast, ← hg]
      exact ih
    · rw [if_neg c1, if_neg c1] at hg
      rw [if_neg c1]
      by_cases c2 : n + b ≥ l.length
      · rw [if_pos c2, if_pos c2] at hg
        have w4 : wrap64 (((n + b : Nat) : Int) - (l.length : Int)) = ((n + b - l.length : Nat) : Int) := by rw [W_in (by omega) (by omega)]; omega
        rw [if_neg (by omega), if_pos (by omega), if_pos (by omega), w4, if_pos (by omega), if_pos (by omega), Int.toNat_natCast, ← hg]
        exact ih
      · rw [if_neg c2, if_neg c2] at hg
        rw [if_pos (by omega), if_pos (by omega), if_pos (by omega), if_pos (by omega), if_pos (by omega), Int.toNat_natCast, ← hg]
        exact ih
theorem refturn_f (l : List Int) (k : Int) (k0 : -9223372036854775808 ≤ k) (k1 : k ≤ 9223372036854775807) (hl : l.length ≤ 1000) : earshotref09_Turn.f 1001 l k = some (turnL l k) := by
  unfold earshotref09_Turn.f
  rw [if_pos (by omega), if_pos (by omega), Int.toNat_natCast]
  rcases Nat.eq_zero_or_pos l.length with h0 | h0
  · have : l = [] := List.eq_nil_of_length_eq_zero h0
    subst this
    rfl
  · have e : ((k % (2 * (l.length : Int))).toNat : Int) = k % (2 * (l.length : Int)) := Int.toNat_of_nonneg (Int.emod_nonneg _ (by omega))
    have h := refturn_go l k k0 k1 (by omega) _ e (1000 - l.length) l.length 0 (by omega)
    rw [show l.length + 1 + (1000 - l.length) = 1001 by omega, turnGo_all l k _ e h0] at h
    exact h
theorem zip_take (f : Int → Int → Int) (a b : List Int) (n : Nat) (h1 : n < a.length) (h2 : n < b.length) : (List.zipWith f a b).take n ++ [f (a.getD n 0) (b.getD n 0)] = (List.zipWith f a b).take (n + 1) := by
  have hl : n < (List.zipWith f a b).length := by rw [List.length_zipWith]; omega
  rw [List.take_succ_eq_append_getElem hl, List.getElem_zipWith, List.getD_eq_getElem?_getD, List.getD_eq_getElem?_getD, List.getElem?_eq_getElem h1, List.getElem?_eq_getElem h2]
  rfl
theorem refadd_go (a b : List Int) (h : a.length = b.length) (hl : a.length ≤ 1000000) (m : Nat) : ∀ (d n : Nat), n + d = a.length →
    earshotref09_Add.l0 (d + 1 + m) a b ((List.zipWith (fun x y => wrap64 (x + y)) a b).take n) (n : Int) = some (List.zipWith (fun x y => wrap64 (x + y)) a b)
  | 0, n, hn => by
    rw [show 0 + 1 + m = m + 1 by omega, earshotref09_Add.l0, if_neg (by omega), List.take_of_length_le (by rw [List.length_zipWith]; omega)]
  | d + 1, n, hn => by
    have ih := refadd_go a b h hl m d (n + 1) (by omega)
    have w3 : wrap64 ((n : Int) + 1) = ((n + 1 : Nat) : Int) := by rw [W_in (by omega) (by omega)]; omega
    rw [show d + 1 + 1 + m = (d + 1 + m) + 1 by omega, earshotref09_Add.l0, if_pos (by omega), if_pos (by omega), if_pos (by omega), if_pos (by rw [List.length_take, List.length_zipWith]; omega), w3]
    unfold rd
    rw [Int.toNat_natCast, zip_take (fun x y => wrap64 (x + y)) a b n (by omega) (by omega)]
    exact ih
theorem refadd_f (a b : List Int) (hl : a.length ≤ 1000) : earshotref09_Add.f 1001 a b = some (addL a b) := by
  unfold earshotref09_Add.f addL
  by_cases h : a.length = b.length
  · rw [if_pos (by omega), if_pos h]
    have := refadd_go a b h (by omega) (1000 - a.length) a.length 0 (by omega)
    rw [show a.length + 1 + (1000 - a.length) = 1001 by omega] at this
    exact this
  · rw [if_neg (by omega), if_neg h]
theorem refless_go (a b : List Int) (h : a.length = b.length) (hl : a.length ≤ 1000000) (m : Nat) : ∀ (d n : Nat), n + d = a.length →
    earshotref09_Less.l0 (d + 1 + m) a b ((List.zipWith (fun x y => wrap64 (x - y)) a b).take n) (n : Int) = some (List.zipWith (fun x y => wrap64 (x - y)) a b)
  | 0, n, hn => by
    rw [show 0 + 1 + m = m + 1 by omega, earshotref09_Less.l0, if_neg (by omega), List.take_of_length_le (by rw [List.length_zipWith]; omega)]
  | d + 1, n, hn => by
    have ih := refless_go a b h hl m d (n + 1) (by omega)
    have w3 : wrap64 ((n : Int) + 1) = ((n + 1 : Nat) : Int) := by rw [W_in (by omega) (by omega)]; omega
    rw [show d + 1 + 1 + m = (d + 1 + m) + 1 by omega, earshotref09_Less.l0, if_pos (by omega), if_pos (by omega), if_pos (by omega), if_pos (by rw [List.length_take, List.length_zipWith]; omega), w3]
    unfold rd
    rw [Int.toNat_natCast, zip_take (fun x y => wrap64 (x - y)) a b n (by omega) (by omega)]
    exact ih
theorem refless_f (a b : List Int) (hl : a.length ≤ 1000) : earshotref09_Less.f 1001 a b = some (lessL a b) := by
  unfold earshotref09_Less.f lessL
  by_cases h : a.length = b.length
  · rw [if_pos (by omega), if_pos h]
    have := refless_go a b h (by omega) (1000 - a.length) a.length 0 (by omega)
    rw [show a.length + 1 + (1000 - a.length) = 1001 by omega] at this
    exact this
  · rw [if_neg (by omega), if_neg h]
theorem ref4rest_f {x : Int} (h0 : -9223372036854775808 ≤ x) (h1 : x ≤ 9223372036854775807) : earshotref04_Rest.f x = some (x % 64) := by
  unfold earshotref04_Rest.f
  rw [refrest_f ⟨h0, h1⟩ (by decide) (by decide)]
  rfl
theorem refcos_fin (k : Nat) : ∀ r : Fin 64, earshotref04_Cos.f 3 ((r.1 : Nat) : Int) = some (cosAt ((r.1 : Nat) : Int)) := by decide +kernel
theorem refcos_f {x : Int} (h0 : -9223372036854775808 ≤ x) (h1 : x ≤ 9223372036854775807) (k : Nat) (hk : 3 ≤ k) : earshotref04_Cos.f k x = some (cosT x) := by
  have e : earshotref04_Cos.f 3 x = earshotref04_Cos.f 3 (x % 64) := by
    unfold earshotref04_Cos.f
    rw [ref4rest_f h0 h1, ref4rest_f (x := x % 64) (by omega) (by omega), Int.emod_emod_of_dvd _ (Int.dvd_refl 64)]
  have m0 := Int.emod_nonneg x (show (64 : Int) ≠ 0 by decide)
  have m1 := Int.emod_lt_of_pos x (show (0 : Int) < 64 by decide)
  obtain ⟨n, hn⟩ := Int.eq_ofNat_of_zero_le m0
  refine at_rounds (fun k => earshotref04_Cos.mono x k) hk ?_
  rw [e, hn]
  unfold cosT
  rw [hn]
  exact refcos_fin 0 ⟨n, by omega⟩
theorem refsin_f {x : Int} (h0 : -9223372036854775808 ≤ x) (h1 : x ≤ 9223372036854775807) (k : Nat) (hk : 3 ≤ k) : earshotref04_Sin.f k x = some (sinT x) := by
  unfold earshotref04_Sin.f
  have m0 := Int.emod_nonneg x (show (64 : Int) ≠ 0 by decide)
  have m1 := Int.emod_lt_of_pos x (show (0 : Int) < 64 by decide)
  rw [ref4rest_f h0 h1, Option.bind_some, W_in (by omega) (by omega), refcos_f (by omega) (by omega) k hk]
  rfl
theorem refmay_f (h : Nat) : earshotref09_May.f (h : Int) = some (sp_may h) := by
  unfold earshotref09_May.f sp_may
  by_cases h1 : h = 1
  · subst h1; rfl
  by_cases h2 : h = 2
  · subst h2; rfl
  by_cases h4 : h = 4
  · subst h4; rfl
  by_cases h8 : h = 8
  · subst h8; rfl
  by_cases h16 : h = 16
  · subst h16; rfl
  rw [if_neg (by omega), if_neg (by omega), if_neg (by omega), if_neg (by omega), if_neg (by omega)]
  have e : ∀ a b : Nat, a ≠ b → (a == b) = false := fun a b h => by simp [h]
  rw [e h 1 h1, e h 2 h2, e h 4 h4, e h 8 h8, e h 16 h16]
  simp only [Bool.false_or]
  congr 1
  by_cases h32 : h = 32
  · subst h32; rfl
  · rw [e h 32 h32]; simp; omega
theorem quo_s {h j : Nat} (hm : sp_may h = true) : wrap64 (Int.tdiv (wrap64 ((j : Int) * 32)) (h : Int)) = (j : Int) * ((32 / h : Nat) : Int) ∨ h < j := by
  by_cases hj : h < j
  · exact .inr hj
  · refine .inl ?_
    have h32 := (may_s hm).2.2
    rw [W_in (a := (j : Int) * 32) (by omega) (by omega), Int.tdiv_eq_ediv_of_nonneg (by omega)]
    rcases sp_may_cases hm with rfl | rfl | rfl | rfl | rfl | rfl
    all_goals
      simp only [Nat.reduceDiv, Int.cast_ofNat_Int]
      rw [W_in (by omega) (by omega)]
      omega
theorem refreal_go (l : List Int) (hm : sp_may l.length = true) (m : Nat) (h3 : 3 ≤ m) : ∀ (d n : Nat), n + d = l.length →
    earshotref09_Real.l0 (d + 1 + m) l (sp_sum l cosT (32 / l.length) n) true (n : Int) = some (sp_sum l cosT (32 / l.length) l.length)
  | 0, n, hn => by
    rw [show 0 + 1 + m = m + 1 by omega, earshotref09_Real.l0, if_neg (by omega), show n = l.length by omega]
  | d + 1, n, hn => by
    have ih := refreal_go l hm m h3 d (n + 1) (by omega)
    obtain ⟨h0, hs, h32⟩ := may_s hm
    have w3 : wrap64 ((n : Int) + 1) = ((n + 1 : Nat) : Int) := by rw [W_in (by omega) (by omega)]; omega
    have hq := (quo_s (j := n) hm).resolve_right (by omega)
    have hb : 0 ≤ (n : Int) * ((32 / l.length : Nat) : Int) ∧ (n : Int) * ((32 / l.length : Nat) : Int) ≤ 32 := by
      rw [← hs]
      exact ⟨Int.mul_nonneg (Int.natCast_nonneg _) (Int.natCast_nonneg _), Int.mul_le_mul_of_nonneg_right (by omega) (Int.natCast_nonneg _)⟩
    rw [show d + 1 + 1 + m = (d + 1 + m) + 1 by omega, earshotref09_Real.l0, if_pos (by omega), if_pos rfl, if_pos (by omega), if_neg (by omega), hq, refcos_f (by omega) (by omega) _ (by omega), Option.bind_some, w3]
    unfold rd
    rw [Int.toNat_natCast]
    exact ih
theorem refreal_f (l : List Int) (hl : l.length ≤ 1000) : earshotref09_Real.f 1010 l = some (sp_part l cosT) := by
  unfold earshotref09_Real.f sp_part
  rw [refmay_f, Option.bind_some]
  by_cases hm : sp_may l.length = true
  · rw [hm, if_pos rfl]
    have h32 := (may_s hm).2.2
    have := refreal_go l hm (1009 - l.length) (by omega) l.length 0 (by omega)
    rw [show l.length + 1 + (1009 - l.length) = 1010 by omega] at this
    exact this
  · rw [if_neg hm]
    have hf : sp_may l.length = false := by simpa using hm
    rw [hf, earshotref09_Real.l0]
    split
    · rw [if_neg (by decide)]
    · rfl
theorem refimag_go (l : List Int) (hm : sp_may l.length = true) (m : Nat) (h3 : 3 ≤ m) : ∀ (d n : Nat), n + d = l.length →
    earshotref09_Imag.l0 (d + 1 + m) l (wrap64 (-(sp_sum l sinT (32 / l.length) n))) true (n : Int) = some (wrap64 (-(sp_sum l sinT (32 / l.length) l.length)))
  | 0, n, hn => by
    rw [show 0 + 1 + m = m + 1 by omega, earshotref09_Imag.l0, if_neg (by omega), show n = l.length by omega]
  | d + 1, n, hn => by
    have ih := refimag_go l hm m h3 d (n + 1) (by omega)
    obtain ⟨h0, hs, h32⟩ := may_s hm
    have w3 : wrap64 ((n : Int) + 1) = ((n + 1 : Nat) : Int) := by rw [W_in (by omega) (by omega)]; omega
    have hq := (quo_s (j := n) hm).resolve_right (by omega)
    have hb : 0 ≤ (n : Int) * ((32 / l.length : Nat) : Int) ∧ (n : Int) * ((32 / l.length : Nat) : Int) ≤ 32 := by
      rw [← hs]
      exact ⟨Int.mul_nonneg (Int.natCast_nonneg _) (Int.natCast_nonneg _), Int.mul_le_mul_of_nonneg_right (by omega) (Int.natCast_nonneg _)⟩
    rw [show d + 1 + 1 + m = (d + 1 + m) + 1 by omega, earshotref09_Imag.l0, if_pos (by omega), if_pos rfl, if_pos (by omega), if_neg (by omega), hq, refsin_f (by omega) (by omega) _ (by omega), Option.bind_some, w3]
    unfold rd
    rw [Int.toNat_natCast]
    rw [sp_sum, W_neg_W] at ih
    rw [← ih]
    congr 1
    rw [W_W_sub, W_sub_W, ← W_neg_W, W_add_W, W_neg_W]
    congr 1; omega
theorem refimag_f (l : List Int) (hl : l.length ≤ 1000) : earshotref09_Imag.f 1010 l = some (wrap64 (-(sp_part l sinT))) := by
  unfold earshotref09_Imag.f sp_part
  rw [refmay_f, Option.bind_some]
  by_cases hm : sp_may l.length = true
  · rw [hm, if_pos rfl]
    have h32 := (may_s hm).2.2
    have := refimag_go l hm (1009 - l.length) (by omega) l.length 0 (by omega)
    rw [show l.length + 1 + (1009 - l.length) = 1010 by omega] at this
    have hz : wrap64 (-(sp_sum l sinT (32 / l.length) 0)) = 0 := W_in (a := -0) (by decide) (by decide)
    rw [hz] at this
    exact this
  · rw [if_neg hm]
    have hf : sp_may l.length = false := by simpa using hm
    rw [hf, earshotref09_Imag.l0]
    have hz : wrap64 (-0) = 0 := W_in (a := -0) (by decide) (by decide)
    rw [hz]
    split
    · rw [if_neg (by decide)]
    · rfl

theorem rturn_c {w0 : World} (A : Option Addr) (h c : Nat) (l : List Int) (k : Int) (W : World) (hB : Below w0.heap.size w0 W) (hl : l.length = h) (hC : (Kd.int .i64).C W A h l) (hc : h ≤ c) (hh : h ≤ 1000) (k0 : -9223372036854775808 ≤ k) (k1 : k ≤ 9223372036854775807) :
    Calls Tryd.prog 39 #[.slice A h c, .int .i64 k] W (CRes w0 W h (turnL l k)) := by
  subst hl
  exact (earshotref09_Turn.calls 1001 A c l k (turnL l k) W hC hc (refturn_f l k k0 k1 hh)).mono fun e w' ⟨v, he, hR, hb⟩ => by subst he; exact cres_of hB hR (by rw [turnL_length]) hb
theorem radd_c {w0 : World} (A1 A2 : Option Addr) (h c1 h' c2 k : Nat) (l1 l2 : List Int) (W : World) (hB : Below w0.heap.size w0 W) (hl1 : l1.length = h) (hl2 : l2.length = h') (hC1 : (Kd.int .i64).C W A1 h l1) (hC2 : (Kd.int .i64).C W A2 h' l2) (h1 : h ≤ c1) (h2 : h' ≤ c2) (hh : h ≤ 1000) (hLl : (addL l1 l2).length = k) :
    Calls Tryd.prog 40 #[.slice A1 h c1, .slice A2 h' c2] W (CRes w0 W k (addL l1 l2)) := by
  subst hl1; subst hl2
  exact (earshotref09_Add.calls 1001 A1 c1 l1 A2 c2 l2 (addL l1 l2) W hC1 h1 hC2 h2 (refadd_f l1 l2 hh)).mono fun e w' ⟨v, he, hR, hb⟩ => by subst he; exact cres_of hB hR hLl hb
theorem rless_c {w0 : World} (A1 A2 : Option Addr) (h c1 h' c2 k : Nat) (l1 l2 : List Int) (W : World) (hB : Below w0.heap.size w0 W) (hl1 : l1.length = h) (hl2 : l2.length = h') (hC1 : (Kd.int .i64).C W A1 h l1) (hC2 : (Kd.int .i64).C W A2 h' l2) (h1 : h ≤ c1) (h2 : h' ≤ c2) (hh : h ≤ 1000) (hLl : (lessL l1 l2).length = k) :
    Calls Tryd.prog 41 #[.slice A1 h c1, .slice A2 h' c2] W (CRes w0 W k (lessL l1 l2)) := by
  subst hl1; subst hl2
  exact (earshotref09_Less.calls 1001 A1 c1 l1 A2 c2 l2 (lessL l1 l2) W hC1 h1 hC2 h2 (refless_f l1 l2 hh)).mono fun e w' ⟨v, he, hR, hb⟩ => by subst he; exact cres_of hB hR hLl hb
theorem add0_c {w0 : World} (W : World) (hB : Below w0.heap.size w0 W) : Calls Tryd.prog 20 #[.slice none 0 0] W (CRes w0 W 0 []) :=
  (add_go none 0 0 [] W rfl (Kd.C_nil _ _) (by decide) (fun _ h => by cases h)).mono fun e w' ⟨v, he, hR, hb⟩ => by subst he; exact cres_of hB hR rfl hb

theorem rreal_c {w0 : World} (A : Option Addr) (h c : Nat) (l : List Int) (r : Int) (W : World) (hB : Below w0.heap.size w0 W) (hl : l.length = h) (hC : (Kd.int .i64).C W A h l) (hc : h ≤ c) (hh : h ≤ 1000) (hr : sp_part l cosT = r) :
    Calls Tryd.prog 42 #[.slice A h c] W fun e w' => e = .returned (.int .i64 r) ∧ Aside0 (Below w0.heap.size w0 w') ∧ Aside0 (Below W.heap.size W w') := by
  subst hl; subst hr
  exact (earshotref09_Real.calls 1010 A c l _ W hC hc (refreal_f l hh)).mono fun e w' ⟨a, b⟩ => ⟨a, ⟨below_step hB b⟩, ⟨b⟩⟩
theorem rimag_c {w0 : World} (A : Option Addr) (h c : Nat) (l : List Int) (r : Int) (W : World) (hB : Below w0.heap.size w0 W) (hl : l.length = h) (hC : (Kd.int .i64).C W A h l) (hc : h ≤ c) (hh : h ≤ 1000) (hr : wrap64 (-(sp_part l sinT)) = r) :
    Calls Tryd.prog 43 #[.slice A h c] W fun e w' => e = .returned (.int .i64 r) ∧ Aside0 (Below w0.heap.size w0 w') ∧ Aside0 (Below W.heap.size W w') := by
  subst hl; subst hr
  exact (earshotref09_Imag.calls 1010 A c l _ W hC hc (refimag_f l hh)).mono fun e w' ⟨a, b⟩ => ⟨a, ⟨below_step hB b⟩, ⟨b⟩⟩
def earshotlaw09_SpinTells.f (l0 l1 : List Int) (a2_0 a2_1 : Int) : Option (Bool) := if decide (l0.length ≤ 4000000000000000000) && l0.all (fun x => decide (-9223372036854775808 ≤ x) && decide (x ≤ 9223372036854775807)) && decide (l1.length ≤ 4000000000000000000) && l1.all (fun x => decide (-9223372036854775808 ≤ x) && decide (x ≤ 9223372036854775807)) && decide (-9223372036854775808 ≤ a2_0) && decide (a2_0 ≤ 9223372036854775807) then some true else none
set_option maxHeartbeats 32000000 in
set_option maxRecDepth 100000 in
theorem tells_go (A0 A1 : Option Addr) (n c0 m c1 : Nat) (v u : List Int) (q : Int) (w : World) (hG : GlobA w) (hl : v.length = n) (hC : Kd.C (Kd.int .i64) w A0 n v) (hnc : n ≤ c0) (hn : n ≤ 1000) (hv : In64 v) (hl1 : u.length = m) (hC1 : Kd.C (Kd.int .i64) w A1 m u) (hmc : m ≤ c1) (hm : m ≤ 1000) (q0 : -9223372036854775808 ≤ q) (q1 : q ≤ 9223372036854775807) :
    Calls Tryd.prog 21 #[.slice A0 n c0, .slice A1 m c1, .int .i64 q] w fun e w' => e = .returned (.bool true) ∧ Below w.heap.size w w' := by
  obtain ⟨R, hR⟩ : ∃ R, sp_part v cosT = R := ⟨_, rfl⟩
  obtain ⟨I, hI⟩ : ∃ I, wrap64 (-(sp_part v sinT)) = I := ⟨_, rfl⟩
  obtain ⟨z, hz⟩ : ∃ z, (addL v u).length = z := ⟨_, rfl⟩
  obtain ⟨y, hy⟩ : ∃ y, (lessL v u).length = y := ⟨_, rfl⟩
  have z1 : z ≤ 1000 := by
    rw [← hz]; unfold addL; split
    · rw [List.length_zipWith]; omega
    · simp
  have y1 : y ≤ 1000 := by
    rw [← hy]; unfold lessL; split
    · rw [List.length_zipWith]; omega
    · simp
  have HR := Aside0.mk hR
  have HI := Aside0.mk hI
  have HG0 := Aside0.mk hG
  have HG := HG0
  have HCV := Aside0.mk hC
  have HCU := Aside0.mk hC1
  have HLV := Aside0.mk hl
  have HLU := Aside0.mk hl1
  have HLT1 : Aside0 ((turnL v q).length = n) := ⟨by rw [turnL_length, hl]⟩
  have HLT3 := Aside0.mk hz
  have HLT5 := Aside0.mk hy
  have HE1 : Aside0 (addAll [v, u] = addL v u) := ⟨addAll_two v u hv⟩
  have HE2 : Aside0 (addAll [v] = v) := ⟨addAll_one v hv⟩
  have HB : Aside0 (Below w.heap.size w w) := ⟨Below.refl _ _⟩
  have ST0 : True := trivial
  clear hG hl hC hv hl1 hC1 hR hI hz hy
  go_enter Tryd.func21, Tryd.ntmps21
  go_wp2_with (first
    | (go_at_call 15; clear ST0; (with_reducible refine (turn_c (w0 := w) A0 n c0 v q _ (by repeat (first | exact HB.out | apply below_alloc | apply pw_below_drewN | apply below_drew1)) HLV.out (Kd.C_below HCV.out (by repeat (first | exact HB.out | apply below_alloc | apply pw_below_drewN | apply below_drew1))) (by omega) (by omega) (by omega)).mono ?_); rintro e wk0 ⟨AT1, cT1, rfl, lT1, CT1, HBm, Sm⟩; have HBn := HBm; clear HB; have HB := HBn; clear HBn HBm; have HGn := Aside0.mk (HG0.out.below HB.out); clear HG; have HG := HGn; clear HGn; clear Sm; have ST1 : True := trivial)
    | (go_at_call 39; clear ST1; (with_reducible refine (rturn_c (w0 := w) A0 n c0 v q _ (by repeat (first | exact HB.out | apply below_alloc | apply pw_below_drewN | apply below_drew1)) HLV.out (Kd.C_below HCV.out (by repeat (first | exact HB.out | apply below_alloc | apply pw_below_drewN | apply below_drew1))) hnc hn q0 q1).mono ?_); rintro e wk1 ⟨AT2, cT2, rfl, lT2, CT2, HBm, Sm⟩; have HBn := HBm; clear HB; have HB := HBn; clear HBn HBm; have Cn := Aside0.mk (Kd.C_below (d := Kd.int .i64) (A := AT1) (n := n) (xs := (turnL v q)) (by repeat (first | exact CT1.out | refine Kd.C_alloc ?_ _ | refine Kd.C_drewN ?_ _ | refine Kd.C_drew ?_)) Sm.out); clear CT1; have CT1 := Cn; clear Cn; have HGn := Aside0.mk (HG0.out.below HB.out); clear HG; have HG := HGn; clear HGn; clear Sm; have ST2 : True := trivial)
    | (go_at_call 19; clear ST2; (with_reducible refine (same_c (w0 := w) AT1 n cT1 AT2 cT2 _ _ _ (by repeat (first | exact HB.out | apply below_alloc | apply pw_below_drewN | apply below_drew1)) HLT1.out rfl (by repeat (first | exact CT1.out | refine Kd.C_alloc ?_ _ | refine Kd.C_drewN ?_ _ | refine Kd.C_drew ?_)) (by repeat (first | exact CT2.out | refine Kd.C_alloc ?_ _ | refine Kd.C_drewN ?_ _ | refine Kd.C_drew ?_)) lT1 lT2 (by omega)).mono ?_); rintro e wk2 ⟨rfl, HBm, Sm⟩; have HBn := HBm; clear HB; have HB := HBn; clear HBn HBm; have HGn := Aside0.mk (HG0.out.below HB.out); clear HG; have HG := HGn; clear HGn; clear CT1; clear CT2; clear Sm; have ST3 : True := trivial)
    | (go_at_call 20; clear ST3; (with_reducible refine (add2_c (w0 := w) _ A0 A1 n c0 m c1 z v u (addL v u) _ (by repeat (first | exact HB.out | apply below_alloc | apply pw_below_drewN | apply below_drew1)) (by first | exact heap_alloc_new _ _ | (rw [Below.heap_alloc _ _ _ (by simp)]; exact heap_alloc_new _ _) | (simpa using heap_alloc_new _ _)) HLV.out HLU.out (Kd.C_below HCV.out (by repeat (first | exact HB.out | apply below_alloc | apply pw_below_drewN | apply below_drew1))) (Kd.C_below HCU.out (by repeat (first | exact HB.out | apply below_alloc | apply pw_below_drewN | apply below_drew1))) hnc hmc (by omega) (by omega) HE1.out HLT3.out).mono ?_); rintro e wk3 ⟨AT3, cT3, rfl, lT3, CT3, HBm, Sm⟩; have HBn := HBm; clear HB; have HB := HBn; clear HBn HBm; have HGn := Aside0.mk (HG0.out.below HB.out); clear HG; have HG := HGn; clear HGn; clear Sm; have ST4 : True := trivial)
    | (go_at_call 40; clear ST4; (with_reducible refine (radd_c (w0 := w) A0 A1 n c0 m c1 z v u _ (by repeat (first | exact HB.out | apply below_alloc | apply pw_below_drewN | apply below_drew1)) HLV.out HLU.out (Kd.C_below HCV.out (by repeat (first | exact HB.out | apply below_alloc | apply pw_below_drewN | apply below_drew1))) (Kd.C_below HCU.out (by repeat (first | exact HB.out | apply below_alloc | apply pw_below_drewN | apply below_drew1))) hnc hmc hn HLT3.out).mono ?_); rintro e wk4 ⟨AT4, cT4, rfl, lT4, CT4, HBm, Sm⟩; have HBn := HBm; clear HB; have HB := HBn; clear HBn HBm; have Cn := Aside0.mk (Kd.C_below (d := Kd.int .i64) (A := AT3) (n := z) (xs := (addL v u)) (by repeat (first | exact CT3.out | refine Kd.C_alloc ?_ _ | refine Kd.C_drewN ?_ _ | refine Kd.C_drew ?_)) Sm.out); clear CT3; have CT3 := Cn; clear Cn; have HGn := Aside0.mk (HG0.out.below HB.out); clear HG; have HG := HGn; clear HGn; clear Sm; have ST5 : True := trivial)
    | (go_at_call 19; clear ST5; (with_reducible refine (same_c (w0 := w) AT3 z cT3 AT4 cT4 _ _ _ (by repeat (first | exact HB.out | apply below_alloc | apply pw_below_drewN | apply below_drew1)) HLT3.out rfl (by repeat (first | exact CT3.out | refine Kd.C_alloc ?_ _ | refine Kd.C_drewN ?_ _ | refine Kd.C_drew ?_)) (by repeat (first | exact CT4.out | refine Kd.C_alloc ?_ _ | refine Kd.C_drewN ?_ _ | refine Kd.C_drew ?_)) lT3 lT4 (by omega)).mono ?_); rintro e wk5 ⟨rfl, HBm, Sm⟩; have HBn := HBm; clear HB; have HB := HBn; clear HBn HBm; have HGn := Aside0.mk (HG0.out.below HB.out); clear HG; have HG := HGn; clear HGn; clear CT3; clear CT4; clear Sm; have ST6 : True := trivial)
    | (go_at_call 22; clear ST6; (with_reducible refine (less_c (w0 := w) A0 A1 n c0 m c1 y v u _ (by repeat (first | exact HB.out | apply below_alloc | apply pw_below_drewN | apply below_drew1)) HLV.out HLU.out (Kd.C_below HCV.out (by repeat (first | exact HB.out | apply below_alloc | apply pw_below_drewN | apply below_drew1))) (Kd.C_below HCU.out (by repeat (first | exact HB.out | apply below_alloc | apply pw_below_drewN | apply below_drew1))) (by omega) (by omega) HLT5.out).mono ?_); rintro e wk6 ⟨AT5, cT5, rfl, lT5, CT5, HBm, Sm⟩; have HBn := HBm; clear HB; have HB := HBn; clear HBn HBm; have HGn := Aside0.mk (HG0.out.below HB.out); clear HG; have HG := HGn; clear HGn; clear Sm; have ST7 : True := trivial)
    | (go_at_call 41; clear ST7; (with_reducible refine (rless_c (w0 := w) A0 A1 n c0 m c1 y v u _ (by repeat (first | exact HB.out | apply below_alloc | apply pw_below_drewN | apply below_drew1)) HLV.out HLU.out (Kd.C_below HCV.out (by repeat (first | exact HB.out | apply below_alloc | apply pw_below_drewN | apply below_drew1))) (Kd.C_below HCU.out (by repeat (first | exact HB.out | apply below_alloc | apply pw_below_drewN | apply below_drew1))) hnc hmc hn HLT5.out).mono ?_); rintro e wk7 ⟨AT6, cT6, rfl, lT6, CT6, HBm, Sm⟩; have HBn := HBm; clear HB; have HB := HBn; clear HBn HBm; have Cn := Aside0.mk (Kd.C_below (d := Kd.int .i64) (A := AT5) (n := y) (xs := (lessL v u)) (by repeat (first | exact CT5.out | refine Kd.C_alloc ?_ _ | refine Kd.C_drewN ?_ _ | refine Kd.C_drew ?_)) Sm.out); clear CT5; have CT5 := Cn; clear Cn; have HGn := Aside0.mk (HG0.out.below HB.out); clear HG; have HG := HGn; clear HGn; clear Sm; have ST8 : True := trivial)
    | (go_at_call 19; clear ST8; (with_reducible refine (same_c (w0 := w) AT5 y cT5 AT6 cT6 _ _ _ (by repeat (first | exact HB.out | apply below_alloc | apply pw_below_drewN | apply below_drew1)) HLT5.out rfl (by repeat (first | exact CT5.out | refine Kd.C_alloc ?_ _ | refine Kd.C_drewN ?_ _ | refine Kd.C_drew ?_)) (by repeat (first | exact CT6.out | refine Kd.C_alloc ?_ _ | refine Kd.C_drewN ?_ _ | refine Kd.C_drew ?_)) lT5 lT6 (by omega)).mono ?_); rintro e wk8 ⟨rfl, HBm, Sm⟩; have HBn := HBm; clear HB; have HB := HBn; clear HBn HBm; have HGn := Aside0.mk (HG0.out.below HB.out); clear HG; have HG := HGn; clear HGn; clear CT5; clear CT6; clear Sm; have ST9 : True := trivial)
    | (go_at_call 20; clear ST9; (with_reducible refine (add1_c (w0 := w) _ A0 n c0 v v _ (by repeat (first | exact HB.out | apply below_alloc | apply pw_below_drewN | apply below_drew1)) (by first | exact heap_alloc_new _ _ | (rw [Below.heap_alloc _ _ _ (by simp)]; exact heap_alloc_new _ _) | (simpa using heap_alloc_new _ _)) HLV.out (Kd.C_below HCV.out (by repeat (first | exact HB.out | apply below_alloc | apply pw_below_drewN | apply below_drew1))) hnc (by omega) HE2.out HLV.out).mono ?_); rintro e wk9 ⟨AT7, cT7, rfl, lT7, CT7, HBm, Sm⟩; have HBn := HBm; clear HB; have HB := HBn; clear HBn HBm; have HGn := Aside0.mk (HG0.out.below HB.out); clear HG; have HG := HGn; clear HGn; clear Sm; have ST10 : True := trivial)
    | (go_at_call 19; clear ST10; (with_reducible refine (same_c (w0 := w) AT7 n cT7 A0 c0 _ _ _ (by repeat (first | exact HB.out | apply below_alloc | apply pw_below_drewN | apply below_drew1)) HLV.out rfl (by repeat (first | exact CT7.out | refine Kd.C_alloc ?_ _ | refine Kd.C_drewN ?_ _ | refine Kd.C_drew ?_)) (Kd.C_below HCV.out (by repeat (first | exact HB.out | apply below_alloc | apply pw_below_drewN | apply below_drew1))) lT7 hnc (by omega)).mono ?_); rintro e wk10 ⟨rfl, HBm, Sm⟩; have HBn := HBm; clear HB; have HB := HBn; clear HBn HBm; have HGn := Aside0.mk (HG0.out.below HB.out); clear HG; have HG := HGn; clear HGn; clear CT7; clear Sm; have ST11 : True := trivial)
    | (go_at_call 16; clear ST11; (with_reducible refine (real_d (w0 := w) A0 n c0 v R _ (by repeat (first | exact HB.out | apply below_alloc | apply pw_below_drewN | apply below_drew1)) (by repeat (first | exact HG.out | apply GlobA.drewN)) HLV.out (Kd.C_below HCV.out (by repeat (first | exact HB.out | apply below_alloc | apply pw_below_drewN | apply below_drew1))) (by omega) HR.out).mono ?_); rintro e wk11 ⟨rfl, HBm, Sm⟩; have HBn := HBm; clear HB; have HB := HBn; clear HBn HBm; have HGn := Aside0.mk (HG0.out.below HB.out); clear HG; have HG := HGn; clear HGn; clear Sm; have ST12 : True := trivial)
    | (go_at_call 42; clear ST12; (with_reducible refine (rreal_c (w0 := w) A0 n c0 v R _ (by repeat (first | exact HB.out | apply below_alloc | apply pw_below_drewN | apply below_drew1)) HLV.out (Kd.C_below HCV.out (by repeat (first | exact HB.out | apply below_alloc | apply pw_below_drewN | apply below_drew1))) hnc hn HR.out).mono ?_); rintro e wk12 ⟨rfl, HBm, Sm⟩; have HBn := HBm; clear HB; have HB := HBn; clear HBn HBm; have HGn := Aside0.mk (HG0.out.below HB.out); clear HG; have HG := HGn; clear HGn; clear Sm; have ST13 : True := trivial)
    | (go_at_call 17; clear ST13; (with_reducible refine (imag_d (w0 := w) A0 n c0 v I _ (by repeat (first | exact HB.out | apply below_alloc | apply pw_below_drewN | apply below_drew1)) (by repeat (first | exact HG.out | apply GlobA.drewN)) HLV.out (Kd.C_below HCV.out (by repeat (first | exact HB.out | apply below_alloc | apply pw_below_drewN | apply below_drew1))) (by omega) HI.out).mono ?_); rintro e wk13 ⟨rfl, HBm, Sm⟩; have HBn := HBm; clear HB; have HB := HBn; clear HBn HBm; have HGn := Aside0.mk (HG0.out.below HB.out); clear HG; have HG := HGn; clear HGn; clear Sm; have ST14 : True := trivial)
    | (go_at_call 43; clear ST14; (with_reducible refine (rimag_c (w0 := w) A0 n c0 v I _ (by repeat (first | exact HB.out | apply below_alloc | apply pw_below_drewN | apply below_drew1)) HLV.out (Kd.C_below HCV.out (by repeat (first | exact HB.out | apply below_alloc | apply pw_below_drewN | apply below_drew1))) hnc hn HI.out).mono ?_); rintro e wk14 ⟨rfl, HBm, Sm⟩; have HBn := HBm; clear HB; have HB := HBn; clear HBn HBm; have HGn := Aside0.mk (HG0.out.below HB.out); clear HG; have HG := HGn; clear HGn; clear Sm; have ST15 : True := trivial)
    | (go_at_call 20; clear ST15; (with_reducible refine (add0_c (w0 := w) _ (by repeat (first | exact HB.out | apply below_alloc | apply pw_below_drewN | apply below_drew1))).mono ?_); rintro e wk15 ⟨AT8, cT8, rfl, lT8, CT8, HBm, Sm⟩; have HBn := HBm; clear HB; have HB := HBn; clear HBn HBm; have HGn := Aside0.mk (HG0.out.below HB.out); clear HG; have HG := HGn; clear HGn; clear Sm; have ST16 : True := trivial))
  go_ret
  exact ⟨rfl, HB.out⟩
theorem tells_d {w0 : World} (A0 A1 : Option Addr) (n c0 m c1 : Nat) (v u : List Int) (q : Int) (W : World) (hB : Below w0.heap.size w0 W) (hG : GlobA W) (hl : v.length = n) (hC : Kd.C (Kd.int .i64) W A0 n v) (hnc : n ≤ c0) (hn : n ≤ 1000) (hv : In64 v) (hl1 : u.length = m) (hC1 : Kd.C (Kd.int .i64) W A1 m u) (hmc : m ≤ c1) (hm : m ≤ 1000) (q0 : -9223372036854775808 ≤ q) (q1 : q ≤ 9223372036854775807) :
    Calls Tryd.prog 21 #[.slice A0 n c0, .slice A1 m c1, .int .i64 q] W fun e w' => e = .returned (.bool true) ∧ Aside0 (Below w0.heap.size w0 w') ∧ Aside0 (Below W.heap.size W w') :=
  (tells_go A0 A1 n c0 m c1 v u q W hG hl hC hnc hn hv hl1 hC1 hmc hm q0 q1).mono fun e w' ⟨a, b⟩ => ⟨a, ⟨below_step hB b⟩, ⟨b⟩⟩
theorem glob_drew {w : World} (h : GlobA w) : GlobA w.drew := h
theorem blk_below_drew {w w' : World} {g : Nat} {o : Obj} (h : w.heap[g]? = some o) (hb : Below w.drew.heap.size w.drew w') : w'.heap[g]? = some o := blk_below (w := w.drew) h hb
set_option maxHeartbeats 32000000 in
theorem tell_go (A0 A1 : Option Addr) (m c0 m1 c1 : Nat) (l0 l1 : List Int) (q0 q1 : Int) (w : World) (hG : GlobA w) (hl : l0.length = m) (hC : Kd.C (Kd.int .i64) w A0 m l0) (hmc : m ≤ c0) (hm : m ≤ 4000000000000000000) (hv : In64 l0) (hl1 : l1.length = m1) (hC1 : Kd.C (Kd.int .i64) w A1 m1 l1) (hmc1 : m1 ≤ c1) (hm1 : m1 ≤ 4000000000000000000) (hv1 : In64 l1) (e0 : -9223372036854775808 ≤ q0) (e1 : q0 ≤ 9223372036854775807) :
    Calls Tryd.prog 5 #[.slice A0 m c0, .slice A1 m1 c1, .agg #[.int .i64 q0, .int .i64 q1]] w fun e w' => e = .returned (.bool true) ∧ Below w.heap.size w w' := by
  have hin := sized_in hv (sizeOf_ q1)
  have hin1 := sized_in hv1 (sizeOf_ q1)
  have hmay := sizeOf_may q1
  obtain ⟨n, hn⟩ : ∃ n, sizeOf_ q1 = n := ⟨_, rfl⟩
  rw [hn] at hin hin1 hmay
  obtain ⟨v, hvv⟩ : ∃ v, sizedL n l0 = v := ⟨_, rfl⟩
  obtain ⟨u, huu⟩ : ∃ u, sizedL n l1 = u := ⟨_, rfl⟩
  have hvl : v.length = n := by rw [← hvv, sizedL_length]
  have hul : u.length = n := by rw [← huu, sizedL_length]
  rw [hvv] at hin
  rw [huu] at hin1
  have n32 := (may_s hmay).2.2
  obtain ⟨k0, hk⟩ : ∃ k, min 40 m = k := ⟨_, rfl⟩
  obtain ⟨k1, hk'⟩ : ∃ k, min 40 m1 = k := ⟨_, rfl⟩
  obtain ⟨x, hx⟩ : ∃ x, l0.take k0 = x := ⟨_, rfl⟩
  obtain ⟨y, hy⟩ : ∃ y, l1.take k1 = y := ⟨_, rfl⟩
  have hxl : x.length = k0 := by rw [← hx, List.length_take]; omega
  have hyl : y.length = k1 := by rw [← hy, List.length_take]; omega
  have HCX : Aside0 (Kd.C (Kd.int .i64) w A0 k0 x) := ⟨by
    subst hl
    have := Kd.C_take hC (m := k0) (by omega)
    rwa [hx, hxl] at this⟩
  have HCY : Aside0 (Kd.C (Kd.int .i64) w A1 k1 y) := ⟨by
    subst hl1
    have := Kd.C_take hC1 (m := k1) (by omega)
    rwa [hy, hyl] at this⟩
  have HIX : Aside0 (In64 x) := ⟨fun a ha => hv a (by rw [← hx] at ha; exact List.mem_of_mem_take ha)⟩
  have HIV := Aside0.mk hin
  have HLX := Aside0.mk hxl
  have HLY := Aside0.mk hyl
  have hk0c : k0 ≤ c0 := by omega
  have hk1c : k1 ≤ c1 := by omega
  have hk0 : k0 ≤ 1000 := by omega
  have hk1 : k1 ≤ 1000 := by omega
  have HK0 := Aside0.mk hk
  have HK1 := Aside0.mk hk'
  have HG0 := Aside0.mk hG
  have HC0 := Aside0.mk hC
  have HC1 := Aside0.mk hC1
  have HL0 := Aside0.mk hl
  have HL1 := Aside0.mk hl1
  have HN := Aside0.mk hn
  have HV := Aside0.mk hvv
  have HU := Aside0.mk huu
  have HLV := Aside0.mk hvl
  have HLU := Aside0.mk hul
  have hu27 := Tryd.underlying27
  clear hG hl hC hv hl1 hC1 hv1 hin hin1 hmay hn hvv huu hvl hul hk hk' hx hy hxl hyl
  go_enter Tryd.func5, Tryd.ntmps5
  go_wp2_with (first
    | ((with_reducible refine gate_dst (N := 5) rfl ?_); refine box_event ?hg (N := 5) ?hd (cs := #[.int .i64 q0, .int .i64 q1]) (t := 27) ?hr ?_; (case hd => rfl); (case hg => first | rfl | exact wanted_on rfl rfl rfl (by first | assumption | rfl | (simp [*]; done))); (case hr => first | (go_simp; done) | (go_simp; rfl)); intro gb hgb wb hbox hb; subst hgb; have BK := Aside0.mk hbox; have HB := Aside0.mk hb; have HG := Aside0.mk (HG0.out.below hb); have ST0 : True := trivial; clear hbox hb)
    | (go_at_call 13; clear ST0; (with_reducible refine (awake_d (w0 := w) _ (by repeat (first | exact HB.out | apply below_alloc | apply pw_below_drewN | apply below_drew1)) HG.out).mono ?_); rintro e wk0 ⟨rfl, HBm, Sm⟩; have BKn := Aside0.mk (blk_below BK.out Sm.out); clear BK; have BK := BKn; clear BKn; have q0c := blk_cell BK.out 0; have q1c := blk_cell BK.out 1; have HBn := HBm; clear HB; have HB := HBn; clear HBn HBm; have HGn := Aside0.mk (HG0.out.below HB.out); clear HG; have HG := HGn; clear HGn; clear Sm; have ST1 : True := trivial)
    | (go_at_call 14; clear ST1; (with_reducible refine (sized_d (w0 := w) A0 m c0 n l0 v q1 _ (by repeat (first | exact HB.out | apply below_alloc | apply pw_below_drewN | apply below_drew1)) HL0.out (Kd.C_below HC0.out (by repeat (first | exact HB.out | apply below_alloc | apply pw_below_drewN | apply below_drew1))) hmc hm HN.out HV.out).mono ?_); rintro e wk1 ⟨AV, cV, rfl, lV, CV, HBm, Sm⟩; have BKn := Aside0.mk (blk_below BK.out Sm.out); clear BK q0c q1c; have BK := BKn; clear BKn; have q0c := blk_cell BK.out 0; have q1c := blk_cell BK.out 1; have HBn := HBm; clear HB; have HB := HBn; clear HBn HBm; have HGn := Aside0.mk (HG0.out.below HB.out); clear HG; have HG := HGn; clear HGn; clear Sm; have ST2 : True := trivial)
    | (go_at_call 14; clear ST2; (with_reducible refine (sized_d (w0 := w) A1 m1 c1 n l1 u q1 _ (by repeat (first | exact HB.out | apply below_alloc | apply pw_below_drewN | apply below_drew1)) HL1.out (Kd.C_below HC1.out (by repeat (first | exact HB.out | apply below_alloc | apply pw_below_drewN | apply below_drew1))) hmc1 hm1 HN.out HU.out).mono ?_); rintro e wk2 ⟨AU, cU, rfl, lU, CU, HBm, Sm⟩; have BKn := Aside0.mk (blk_below BK.out Sm.out); clear BK q0c q1c; have BK := BKn; clear BKn; have q0c := blk_cell BK.out 0; have q1c := blk_cell BK.out 1; have HBn := HBm; clear HB; have HB := HBn; clear HBn HBm; have Cn := Aside0.mk (Kd.C_below (d := Kd.int .i64) (A := AV) (n := n) (xs := v) (by repeat (first | exact CV.out | refine Kd.C_alloc ?_ _ | refine Kd.C_drewN ?_ _ | refine Kd.C_drew ?_)) Sm.out); clear CV; have CV := Cn; clear Cn; have HGn := Aside0.mk (HG0.out.below HB.out); clear HG; have HG := HGn; clear HGn; clear Sm; have ST3 : True := trivial))
  go_region_with (first
    | (go_at_call 18; (with_reducible refine (few_go A0 m c0 _ hmc).mono ?_); rintro e w' ⟨rfl, rfl⟩; rw [HK0.out])
    | (go_at_call 18; (with_reducible refine (few_go A1 m1 c1 _ hmc1).mono ?_); rintro e w' ⟨rfl, rfl⟩; rw [HK1.out])
    | (go_at_call 21; clear ST3; (with_reducible refine (tells_d (w0 := w) A0 A1 k0 c0 k1 c1 x y q0 _ (by repeat (first | exact HB.out | apply below_alloc | apply pw_below_drewN | apply below_drew1)) (by repeat (first | exact HG.out | apply GlobA.drewN | apply glob_drew)) HLX.out (Kd.C_below HCX.out (by repeat (first | exact HB.out | apply below_alloc | apply pw_below_drewN | apply below_drew1))) hk0c hk0 HIX.out HLY.out (Kd.C_below HCY.out (by repeat (first | exact HB.out | apply below_alloc | apply pw_below_drewN | apply below_drew1))) hk1c hk1 e0 e1).mono ?_); rintro e wk3 ⟨rfl, HBm, Sm⟩; (first | have BKn := Aside0.mk (blk_below BK.out Sm.out) | have BKn := Aside0.mk (blk_below_drew BK.out Sm.out)); clear BK q0c q1c; have BK := BKn; clear BKn; have q0c := blk_cell BK.out 0; have q1c := blk_cell BK.out 1; have HBn := HBm; clear HB; have HB := HBn; clear HBn HBm; have Cn := Aside0.mk (Kd.C_below (d := Kd.int .i64) (A := AV) (n := n) (xs := v) (by repeat (first | exact CV.out | refine Kd.C_alloc ?_ _ | refine Kd.C_drewN ?_ _ | refine Kd.C_drew ?_)) Sm.out); clear CV; have CV := Cn; clear Cn; have Cn := Aside0.mk (Kd.C_below (d := Kd.int .i64) (A := AU) (n := n) (xs := u) (by repeat (first | exact CU.out | refine Kd.C_alloc ?_ _ | refine Kd.C_drewN ?_ _ | refine Kd.C_drew ?_)) Sm.out); clear CU; have CU := Cn; clear Cn; have HGn := Aside0.mk (HG0.out.below HB.out); clear HG; have HG := HGn; clear HGn; clear Sm; have ST4 : True := trivial)
    | (go_at_call 21; clear ST4; (with_reducible refine (tells_d (w0 := w) AV AU n cV n cU v u q0 _ (by repeat (first | exact HB.out | apply below_alloc | apply pw_below_drewN | apply below_drew1)) (by repeat (first | exact HG.out | apply GlobA.drewN | apply glob_drew)) HLV.out (by repeat (first | exact CV.out | refine Kd.C_alloc ?_ _ | refine Kd.C_drewN ?_ _ | refine Kd.C_drew ?_)) lV (by omega) HIV.out HLU.out (by repeat (first | exact CU.out | refine Kd.C_alloc ?_ _ | refine Kd.C_drewN ?_ _ | refine Kd.C_drew ?_)) lU (by omega) e0 e1).mono ?_); rintro e wk4 ⟨rfl, HBm, Sm⟩; (first | have BKn := Aside0.mk (blk_below BK.out Sm.out) | have BKn := Aside0.mk (blk_below_drew BK.out Sm.out)); clear BK q0c q1c; have BK := BKn; clear BKn; have q0c := blk_cell BK.out 0; have q1c := blk_cell BK.out 1; have HBn := HBm; clear HB; have HB := HBn; clear HBn HBm; have Cn := Aside0.mk (Kd.C_below (d := Kd.int .i64) (A := AV) (n := n) (xs := v) (by repeat (first | exact CV.out | refine Kd.C_alloc ?_ _ | refine Kd.C_drewN ?_ _ | refine Kd.C_drew ?_)) Sm.out); clear CV; have CV := Cn; clear Cn; have Cn := Aside0.mk (Kd.C_below (d := Kd.int .i64) (A := AU) (n := n) (xs := u) (by repeat (first | exact CU.out | refine Kd.C_alloc ?_ _ | refine Kd.C_drewN ?_ _ | refine Kd.C_drew ?_)) Sm.out); clear CU; have CU := Cn; clear Cn; have HGn := Aside0.mk (HG0.out.below HB.out); clear HG; have HG := HGn; clear HGn; clear Sm; have ST5 : True := trivial))
  all_goals
    go_wp2
    go_ret
    exact ⟨rfl, by repeat (first | exact HB.out | apply pw_below_drewN | apply below_drew1)⟩
theorem earshotlaw09_SpinTells.calls (A0 : Option Addr) (c0 : Nat) (l0 : List Int) (A1 : Option Addr) (c1 : Nat) (l1 : List Int) (a2_0 a2_1 : Int) (r : Bool) (w : World) (hG : GlobA w) (hr0 : Kd.C (Kd.int .i64) w A0 l0.length l0) (hc0 : l0.length ≤ c0) (hr1 : Kd.C (Kd.int .i64) w A1 l1.length l1) (hc1 : l1.length ≤ c1) (h : earshotlaw09_SpinTells.f l0 l1 a2_0 a2_1 = some r) :
    Calls Tryd.prog 5 #[.slice A0 l0.length c0, .slice A1 l1.length c1, .agg #[.int .i64 a2_0, .int .i64 a2_1]] w fun e w' => e = .returned (.bool r) ∧ Below w.heap.size w w' := by
  unfold earshotlaw09_SpinTells.f at h
  split at h
  case isFalse => cases h
  rename_i hz
  obtain rfl := Option.some.inj h
  simp only [Bool.and_eq_true, decide_eq_true_eq, List.all_eq_true] at hz
  exact tell_go A0 A1 _ c0 _ c1 l0 l1 a2_0 a2_1 w hG rfl hr0 hc0 hz.1.1.1.1.1 (fun x hx => hz.1.1.1.1.2 x hx) rfl hr1 hc1 hz.1.1.1.2 (fun x hx => hz.1.1.2 x hx) hz.1.2 hz.2

/-- THE ONE PURE STATEMENT of earshotlaw09_SpinTells: yours. -/
def earshotlaw09_SpinTells.Pure : Prop := ∀ (l0 : List Int) (l1 : List Int) (a2_0 : Int) (a2_1 : Int), l0.length ≤ maxLen → l0.length * 8 ≤ 140737488351232 → (∀ x ∈ l0, (Lit.int .i64 x).wf = true) → l1.length ≤ maxLen → l1.length * 8 ≤ 140737488351232 → (∀ x ∈ l1, (Lit.int .i64 x).wf = true) → (Lit.int .i64 a2_0).wf = true → (Lit.int .i64 a2_1).wf = true → earshotlaw09_SpinTells.f l0 l1 a2_0 a2_1 = some true
theorem earshotlaw09_SpinTells.walk (P : earshotlaw09_SpinTells.Pure) (a0 : Option Addr) (len0 cap0 : Nat) (z0 : List Int) (a1 : Option Addr) (len1 cap1 : Nat) (z1 : List Int) (a2_0 : Int) (a2_1 : Int) (w : World) (w0 : (a0 = none ∧ len0 = 0 ∧ cap0 = 0 ∧ z0 = []) ∨ ∃ x, a0 = some x ∧ len0 ≤ cap0 ∧ cap0 ≤ maxLen ∧ z0.length = cap0 ∧ (∀ i, i < z0.length → w.cell? (x.add i) = some (.int .i64 (z0.getD i 0))) ∧ ∀ n ∈ z0, (Lit.int .i64 n).wf = true) (y0 : len0 * 8 ≤ 140737488351232) (w1 : (a1 = none ∧ len1 = 0 ∧ cap1 = 0 ∧ z1 = []) ∨ ∃ x, a1 = some x ∧ len1 ≤ cap1 ∧ cap1 ≤ maxLen ∧ z1.length = cap1 ∧ (∀ i, i < z1.length → w.cell? (x.add i) = some (.int .i64 (z1.getD i 0))) ∧ ∀ n ∈ z1, (Lit.int .i64 n).wf = true) (y1 : len1 * 8 ≤ 140737488351232) (w2_0 : (Lit.int .i64 a2_0).wf = true) (w2_1 : (Lit.int .i64 a2_1).wf = true) (hG : GlobA w) :
    Calls Tryd.prog 5 #[.slice a0 len0 cap0, .slice a1 len1 cap1, .agg #[.int .i64 a2_0, .int .i64 a2_1]] w fun e w' => e = .returned (.bool true) ∧ Below w.heap.size w w' := by
  obtain ⟨l0, rfl, hr0, hm0, hw0, hc0⟩ := ReadsInt.ofRowC w0
  obtain ⟨l1, rfl, hr1, hm1, hw1, hc1⟩ := ReadsInt.ofRowC w1
  have h := P l0 l1 a2_0 a2_1 hm0 y0 hw0 hm1 y1 hw1 w2_0 w2_1
  refine (earshotlaw09_SpinTells.calls _ _ l0 _ _ l1 a2_0 a2_1 true w hG (Kd.C_of_reads (d := (0 : Int)) (h1 := fun _ => rfl) hr0) hc0 (Kd.C_of_reads (d := (0 : Int)) (h1 := fun _ => rfl) hr1) hc1 h).mono ?_
  rintro e w' ⟨rfl, hd⟩
  exact ⟨rfl, hd⟩

end Go.Proofs.YtphmfecabbellaaDoor.PSpinTells
