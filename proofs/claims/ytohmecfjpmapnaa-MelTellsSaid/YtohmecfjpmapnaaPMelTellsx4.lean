-- Written by a program of this work (wip/tools) for this claim; Lean checks it.
import Derived.Test.YtohmecfjpmapnaaPMelTellsx0
import Derived.Test.YtohmecfjpmapnaaPMelTellsx1
import Derived.Test.YtohmecfjpmapnaaPMelTellsx2
import Derived.Test.YtohmecfjpmapnaaPMelTellsx3
namespace Go.Proofs.Ytohmecfjpmapnaa.PMelTells
open Go.RowKit Go.Proofs.YtohmecfjpmapnaaW.PrintWords Go.Proofs.YtohmecfjpmapnaaW.PrintLast Go.Proofs.YtohmecfjpmapnaaW.PrintMore
attribute [local go_sem] max2_int min2_int max_two min_two max_three min_three max_four min_four   -- for this text's walks alone
set_option linter.unusedVariables false
set_option linter.unusedSimpArgs false

/-! ### earshotlaw11_MelTells: function 3 -/
theorem bsome {α β : Type} (a : α) (f : α → Option β) : (some a).bind f = f a := by
  generalize h : some a = o
  cases o with
  | none => cases h
  | some b => cases h; rfl

/-- A call's result is a row that reads as xs; the world is as it was, but for what is new. -/
def CRes (w0 W : World) (h : Nat) (xs : List Int) (e : Ending) (w' : World) : Prop :=
  ∃ A c, e = .returned (.slice A h c) ∧ h ≤ c ∧ Aside0 ((Kd.int .i64).C w' A h xs) ∧ Aside0 (Below w0.heap.size w0 w') ∧ Aside0 (Below W.heap.size W w')
theorem cres_of {w0 W w' : World} {h : Nat} {xs : List Int} {v : Value} {t b : Nat} {ok : Nat → Prop} (hB : Below w0.heap.size w0 W) (hR : (Kd.int .i64).R t w' b ok v xs) (hl : xs.length = h) (hb : Below W.heap.size W w') : CRes w0 W h xs (.returned v) w' := by
  subst hl
  obtain ⟨A, c, rfl, h1, h2⟩ := Kd.R_reads hR
  exact ⟨A, c, rfl, h1, ⟨h2⟩, ⟨below_step hB hb⟩, ⟨hb⟩⟩
theorem same_go (l : List Int) (hl : l.length ≤ 100000000) (d : Nat) : ∀ (k i : Nat), i ≤ l.length → l.length - i = d → d < k → earshotref04_Same.l0 k l l (i : Int) = some true := by
  induction d with
  | zero =>
    intro k i h0 hd hk
    obtain ⟨k, rfl⟩ : ∃ m, k = m + 1 := ⟨k - 1, by omega⟩
    simp only [earshotref04_Same.l0]
    rw [if_neg (by omega)]
  | succ d ih =>
    intro k i h0 hd hk
    obtain ⟨k, rfl⟩ : ∃ m, k = m + 1 := ⟨k - 1, by omega⟩
    simp only [earshotref04_Same.l0]
    have hw : wrap64 ((i : Int) + 1) = ((i + 1 : Nat) : Int) := by unfold wrap64; omega
    rw [if_pos (by omega), if_pos (by omega), if_pos (by omega), if_pos trivial, hw]
    exact ih k (i + 1) (by omega) (by omega) (by omega)
theorem same_f (l : List Int) (hl : l.length ≤ 100000000) : earshotref04_Same.f (l.length + 1) l l = some true := by
  unfold earshotref04_Same.f
  rw [if_pos rfl]
  exact same_go l hl l.length _ 0 (by omega) (by omega) (by omega)
/-- Two rows that read the same. -/
theorem same_c {w0 : World} (A1 : Option Addr) (h c1 : Nat) (A2 : Option Addr) (c2 : Nat) (l1 l2 : List Int) (W : World) (hB : Below w0.heap.size w0 W) (hl : l1.length = h) (he : l1 = l2) (hC1 : (Kd.int .i64).C W A1 h l1) (hC2 : (Kd.int .i64).C W A2 h l2) (h1 : h ≤ c1) (h2 : h ≤ c2) (hh : h ≤ 1000000) :
    Calls Try.prog 9 #[.slice A1 h c1, .slice A2 h c2] W fun e w' => e = .returned (.bool true) ∧ Aside0 (Below w0.heap.size w0 w') ∧ Aside0 (Below W.heap.size W w') := by
  subst he
  subst hl
  exact (earshotref04_Same.calls _ A1 c1 l1 A2 c2 l1 true W hC1 h1 hC2 h2 (same_f l1 (by omega))).mono fun e w' ⟨a, ⟨n, b⟩⟩ => by
    subst b
    exact ⟨a, ⟨pw_below_drewN hB n⟩, ⟨pw_below_drewN (Below.refl _ _) n⟩⟩
theorem zeros_c (X : World) (g n : Nat) (hg : g = X.heap.size) (hn : n ≤ 1000000) : (Kd.int .i64).C (X.alloc (.cells (madeCells #[.int .i64 0] n) 3)) (some ⟨g, 0, none⟩) n (List.replicate n 0) := by
  subst hg
  have h := own_made X X.heap.size 3 .i64 n (Nat.le_refl _) (by omega)
  have hR := Kd.R_of_own (enc := Value.int .i64) (h1 := fun _ => rfl) (ok := fun _ => True) (xs := List.replicate n 0) (by rw [List.length_replicate]; exact h) (fun _ _ => trivial)
  obtain ⟨A, c, he, _, h2⟩ := Kd.R_reads hR
  rw [List.length_replicate] at he h2
  injection he with e1 e2 e3
  rw [e1]
  exact h2
/-- A callee that draws only, in a region that is walked once, in a world that has drawn before. -/
theorem quiet_add {P : Program} {f : FuncId} {args : Array Value} {W : World} {K x : Nat} {v : Value} (h : Calls P f args (W.drewN (K + x)) fun e w' => e = .returned v ∧ Drawn0 (W.drewN (K + x)) w') :
    Calls P f args (W.drewN (K + x)) fun e w'' => e = .returned v ∧ ∃ n, w'' = W.drewN (K + n) :=
  h.mono fun _ _ ⟨he, ⟨m, hm⟩⟩ => ⟨he, x + m, by rw [hm, World.drewN_drewN, Nat.add_assoc]⟩
/-- .. likewise, in a world that is named by one count. -/
theorem quiet_d {P : Program} {f : FuncId} {args : Array Value} {W : World} {x : Nat} {v : Value} (h : Calls P f args (W.drewN x) fun e w' => e = .returned v ∧ Drawn0 (W.drewN x) w') :
    Calls P f args (W.drewN x) fun e w'' => e = .returned v ∧ ∃ n, w'' = W.drewN n :=
  h.mono fun _ _ ⟨he, ⟨m, hm⟩⟩ => ⟨he, x + m, by rw [hm, World.drewN_drewN]⟩

theorem i64_mask (i : Nat) (hi : i ≤ 62) (n m : Int) (hm : m = ((2 ^ i - 1 : Nat) : Int)) : Go.bits .and .i64 n m = n % ((2 ^ i : Nat) : Int) := by
  have hp : 0 < 2 ^ i := Nat.two_pow_pos i
  have hle : 2 ^ i ≤ 4611686018427387904 := Nat.pow_le_pow_right (n := 2) (by decide) hi
  have h1 : (BitVec.ofInt 64 m).toNat = 2 ^ i - 1 := by
    subst hm
    rw [BitVec.ofInt_natCast, BitVec.toNat_ofNat]
    exact Nat.mod_eq_of_lt (by omega)
  have key : (BitVec.ofInt 64 n &&& BitVec.ofInt 64 m).toNat = (n % ((2 ^ 64 : Nat) : Int)).toNat % 2 ^ i := by
    rw [BitVec.toNat_and, BitVec.toNat_ofInt, h1, Nat.and_two_pow_sub_one_eq_mod]
  show IntKind.i64.wrap ((BitVec.ofInt 64 n &&& BitVec.ofInt 64 m).toNat : Nat) = n % _
  rw [key, IntKind.wrap_i64]
  have r0 : 0 ≤ n % ((2 ^ 64 : Nat) : Int) := Int.emod_nonneg _ (by decide)
  have e : (((n % ((2 ^ 64 : Nat) : Int)).toNat % 2 ^ i : Nat) : Int) = n % ((2 ^ i : Nat) : Int) := by
    rw [Int.natCast_emod, Int.toNat_of_nonneg r0]
    refine Int.emod_emod_of_dvd _ ?_
    exact Int.natCast_dvd_natCast.2 (Nat.pow_dvd_pow 2 (by omega))
  rw [e]
  generalize hz : n % ((2 ^ i : Nat) : Int) = z
  have m0 : 0 ≤ z := hz ▸ Int.emod_nonneg _ (by omega)
  have m1 : z < ((2 ^ i : Nat) : Int) := hz ▸ Int.emod_lt_of_pos _ (by omega)
  have hle' : ((2 ^ i : Nat) : Int) ≤ 4611686018427387904 := Int.ofNat_le.2 hle
  have m2 : z < 4611686018427387904 := Int.lt_of_lt_of_le m1 hle'
  clear m1 hle' hle hz e key h1
  omega

def highF (x : Int) : Int := if 0 ≤ x ∧ x ≤ 64 then hiN x.toNat else 0
theorem rhi_fin : ∀ b : Fin 65, earshotref11_High.f 80 ((b.1 : Nat) : Int) = some (hiN b.1) := by decide +kernel
theorem rhiK {b : Nat} (hb : b ≤ 64) : ∀ k, 80 ≤ k → earshotref11_High.f k (b : Int) = some (hiN b) := by
  intro k hk
  obtain ⟨d, rfl⟩ := Nat.exists_eq_add_of_le hk
  clear hk
  induction d with
  | zero => exact rhi_fin ⟨b, by omega⟩
  | succ d ih => exact earshotref11_High.mono _ _ _ ih
theorem high_f (x : Int) : mel_High.f 30 x = some (highF x) := by
  unfold highF
  by_cases h : 0 ≤ x ∧ x ≤ 64
  · rw [if_pos h]
    obtain ⟨n, rfl⟩ := Int.eq_ofNat_of_zero_le h.1
    rw [Int.toNat_natCast]
    exact hi_some (by omega)
  · rw [if_neg h]
    unfold mel_High.f
    by_cases h0 : x < 0
    · rw [if_pos h0]
    · rw [if_neg h0, if_pos (by omega)]
theorem rhigh_f (x : Int) : earshotref11_High.f 80 x = some (highF x) := by
  unfold highF
  by_cases h : 0 ≤ x ∧ x ≤ 64
  · rw [if_pos h]
    obtain ⟨n, rfl⟩ := Int.eq_ofNat_of_zero_le h.1
    rw [Int.toNat_natCast]
    exact rhiK (by omega) 80 (Nat.le_refl _)
  · rw [if_neg h]
    unfold earshotref11_High.f
    by_cases h0 : x < 0
    · rw [if_pos h0]
    · rw [if_neg h0, if_pos (by omega)]
theorem prod_in {b : Nat} {c : Int} (hb : b ≤ 64) (h0 : 0 ≤ c) (h1 : c ≤ 17) : wrap64 (hiN b * c) = hiN b * c ∧ wrap64 (c * hiN b) = c * hiN b := by
  have hv := hi_bd hb
  have hq : 0 ≤ hiN b * c ∧ hiN b * c ≤ 170000 :=
    ⟨Int.mul_nonneg hv.1 h0, Int.le_trans (Int.mul_le_mul_of_nonneg_right hv.2 h0) (by omega)⟩
  have e := Int.mul_comm (hiN b) c
  generalize hiN b * c = P at *
  rw [← e]
  exact ⟨W_in (by omega) (by omega), W_in (by omega) (by omega)⟩
theorem rl1 {N B m : Nat} (hN : 1 ≤ N) (hN2 : N ≤ 64) (hB : B ≤ 16) (hm : m ≤ B + 1) (acc : List Int) (ha : acc.length < 17592186044416) : ∀ d b k, b + d = edgeOf (N + 1) (B + 1) m → 81 + d ≤ k →
    ∃ k', k ≤ k' + d + 1 ∧ earshotref11_Edges.l1 k ((N : Int) + 1) (B : Int) acc (m : Int) (b : Int) = earshotref11_Edges.l0 k' ((N : Int) + 1) (B : Int) (acc ++ [((edgeOf (N + 1) (B + 1) m : Nat) : Int)]) ((m + 1 : Nat) : Int) := by
  have sp := edge_spec (n := N + 1) (c := B + 1) (m := m) (by omega) (by omega) hm
  rw [Nat.add_sub_cancel] at sp
  generalize edgeOf (N + 1) (B + 1) m = E at *
  obtain ⟨s1, s2, s3⟩ := sp
  have w3 : wrap64 ((N : Int) + 1 - 1) = (N : Int) := by unfold wrap64; omega
  have w4 : wrap64 ((B : Int) + 1) = ((B + 1 : Nat) : Int) := by unfold wrap64; omega
  have hc0 : (0 : Int) ≤ ((B + 1 : Nat) : Int) := Int.natCast_nonneg _
  have hc1 : ((B + 1 : Nat) : Int) ≤ 17 := by omega
  have hc2 : (0 : Int) ≤ (m : Int) := Int.natCast_nonneg _
  have hc3 : (m : Int) ≤ 17 := by omega
  have p1 := (prod_in hN2 hc2 hc3).2
  have w2 : wrap64 ((m : Int) + 1) = ((m + 1 : Nat) : Int) := by clear s1 s3 p1; unfold wrap64; omega
  intro d
  induction d with
  | zero =>
    intro b k hb hk
    obtain ⟨k, rfl⟩ : ∃ j, k = j + 1 := ⟨k - 1, by clear s1 s3 p1 w2 w3 w4; omega⟩
    have hk8 : 80 ≤ k := by clear s1 s3 p1 w2 w3 w4; omega
    obtain rfl : b = E := hb
    have g0 := rhiK (Nat.le_trans s2 hN2) k hk8
    have g1 := rhiK hN2 k hk8
    have p0 := (prod_in (Nat.le_trans s2 hN2) hc0 hc1).1
    refine ⟨k, Nat.le_refl _, ?_⟩
    rw [earshotref11_Edges.l1, g0, bsome, w3, g1, bsome, w4, p0, p1, if_neg s3, if_pos ha, w2]
  | succ d ih =>
    intro b k hb hk
    obtain ⟨k, rfl⟩ : ∃ j, k = j + 1 := ⟨k - 1, by clear s1 s3 p1 w2 w3 w4; omega⟩
    have hk8 : 80 ≤ k := by clear s1 s3 p1 w2 w3 w4; omega
    have hlt : b < E := by clear s1 s3 p1 w2 w3 w4; omega
    have hb64 : b ≤ 64 := by clear s1 s3 p1 w2 w3 w4; omega
    have wb : wrap64 ((b : Int) + 1) = ((b + 1 : Nat) : Int) := by clear s1 s3 p1 w2 w3 w4; unfold wrap64; omega
    have g0 := rhiK hb64 k hk8
    have g1 := rhiK hN2 k hk8
    have p0 := (prod_in hb64 hc0 hc1).1
    have hd : k ≤ k := Nat.le_refl _
    obtain ⟨k', h1, h2⟩ := ih (b + 1) k (by clear s1 s3 p1 w2 w3 w4 p0 wb ih; omega) (by clear s1 s3 p1 w2 w3 w4 p0 wb ih; omega)
    refine ⟨k', by clear s1 s3 p1 w2 w3 w4 p0 wb ih h2; omega, ?_⟩
    rw [earshotref11_Edges.l1, g0, bsome, w3, g1, bsome, w4, p0, p1, if_pos (s1 b hlt), wb]
    exact h2
theorem range_snoc (f : Nat → Int) (m : Nat) : (List.range m).map f ++ [f m] = (List.range (m + 1)).map f := by rw [List.range_succ, List.map_append]; rfl
theorem rl0 {N B : Nat} (hN : 1 ≤ N) (hN2 : N ≤ 64) (hB : B ≤ 16) : ∀ d m k, m + d = B + 2 → 200 + 70 * d ≤ k →
    earshotref11_Edges.l0 k ((N : Int) + 1) (B : Int) ((List.range m).map fun j => ((edgeOf (N + 1) (B + 1) j : Nat) : Int)) (m : Int) = some (edgesL (N + 1) (B + 1)) := by
  intro d
  induction d with
  | zero =>
    intro m k hm hk
    obtain ⟨k, rfl⟩ : ∃ j, k = j + 1 := ⟨k - 1, by omega⟩
    have w4 : wrap64 ((B : Int) + 1) = ((B + 1 : Nat) : Int) := by unfold wrap64; omega
    have hn : ¬ (m : Int) ≤ ((B + 1 : Nat) : Int) := by clear w4; omega
    obtain rfl : m = B + 2 := hm
    rw [earshotref11_Edges.l0, w4, if_neg hn]
    rfl
  | succ d ih =>
    intro m k hm hk
    obtain ⟨k, rfl⟩ : ∃ j, k = j + 1 := ⟨k - 1, by omega⟩
    have w4 : wrap64 ((B : Int) + 1) = ((B + 1 : Nat) : Int) := by unfold wrap64; omega
    have hn : (m : Int) ≤ ((B + 1 : Nat) : Int) := by clear w4; omega
    have hE := (edge_spec (n := N + 1) (c := B + 1) (m := m) (by omega) (by omega) (by clear w4; omega)).2.1
    rw [Nat.add_sub_cancel] at hE
    obtain ⟨k', h1, h2⟩ := rl1 (N := N) (B := B) (m := m) hN hN2 hB (by clear w4; omega) ((List.range m).map fun j => ((edgeOf (N + 1) (B + 1) j : Nat) : Int)) (by rw [List.length_map, List.length_range]; clear w4; omega) (edgeOf (N + 1) (B + 1) m) 0 k (Nat.zero_add _) (by clear w4; omega)
    rw [show ((0 : Nat) : Int) = 0 from rfl, range_snoc (fun j => ((edgeOf (N + 1) (B + 1) j : Nat) : Int)) m] at h2
    rw [earshotref11_Edges.l0, w4, if_pos hn, h2]
    exact ih (m + 1) k' (by clear w4 h2; omega) (by clear w4 h2; omega)
theorem redges_f (a0 a1 : Int) : earshotref11_Edges.f 2000 a0 a1 = some (edgesF a0 a1) := by
  unfold edgesF earshotref11_Edges.f
  by_cases hm : mayE a0 a1 = true
  · rw [if_pos hm]
    simp only [mayE, Bool.and_eq_true, decide_eq_true_eq] at hm
    obtain ⟨N, hN⟩ := Int.eq_ofNat_of_zero_le (show 0 ≤ a0 - 1 by omega)
    obtain ⟨B, rfl⟩ := Int.eq_ofNat_of_zero_le (show 0 ≤ a1 by omega)
    obtain rfl : a0 = (N : Int) + 1 := by omega
    rw [if_neg (by omega), if_neg (by omega), if_neg (by omega), decide_eq_false (show ¬ (B : Int) > 16 by omega), earshotref11_Edges.j0, if_neg (by decide)]
    have := rl0 (N := N) (B := B) (by omega) (by omega) (by omega) (B + 2) 0 1999 (by omega) (by omega)
    rw [show ((N : Int) + 1).toNat = N + 1 by omega, Int.toNat_natCast]
    rw [show ((0 : Nat) : Int) = 0 from rfl] at this
    exact this
  · rw [if_neg hm]
    have hj : earshotref11_Edges.j0 2000 a0 a1 true = some [] := by rw [earshotref11_Edges.j0, if_pos rfl]
    by_cases c1 : a0 < 2
    · rw [if_pos c1, hj]
    by_cases c2 : a0 > 65
    · rw [if_neg c1, if_pos c2, hj]
    by_cases c3 : a1 < 1
    · rw [if_neg c1, if_neg c2, if_pos c3, hj]
    · have c4 : a1 > 16 := by
        apply Classical.byContradiction; intro c4; apply hm
        unfold mayE; simp only [Bool.and_eq_true, decide_eq_true_eq]; omega
      rw [if_neg c1, if_neg c2, if_neg c3, decide_eq_true c4, hj]
theorem rnear_f (x : Int) : earshotref11_near.f x = some (nearB x) := by
  unfold earshotref11_near.f nearB
  by_cases h : x ≥ -1073741824
  · rw [if_pos h, decide_eq_true (show -1073741824 ≤ x from h), Bool.true_and]
  · rw [if_neg h, decide_eq_false (show ¬ -1073741824 ≤ x from h), Bool.false_and]

theorem rweight_f (b low mid top : Int) : earshotref11_Weight.f 10 b low mid top = some (weightF b low mid top) := by
  have hj2 : earshotref11_Weight.j2 7 b low mid top true = some 0 := by rw [earshotref11_Weight.j2, if_pos rfl]
  have hw : ∀ c : Bool × Bool × Bool × Bool, (nearB b, nearB low, nearB mid, nearB top) = c → (c = (true, true, true, true) → earshotref11_Weight.j2 7 b low mid top false = some (weightF b low mid top)) := by
    rintro c hc rfl
    have e0 : nearB b = true := congrArg (·.1) hc
    have e1 : nearB low = true := congrArg (·.2.1) hc
    have e2 : nearB mid = true := congrArg (·.2.2.1) hc
    have e3 : nearB top = true := congrArg (·.2.2.2) hc
    have r0 := near_yes e0
    have r1 := near_yes e1
    have r2 := near_yes e2
    have r3 := near_yes e3
    unfold weightF weightW
    rw [if_pos ⟨e0, e1, e2, e3⟩, earshotref11_Weight.j2, if_neg (by decide)]
    clear hj2 e0 e1 e2 e3 hc
    have A : ∀ x d : Int, 0 ≤ x → x < d → d ≤ 2147483648 → wrap64 (Int.tdiv (wrap64 (256 * (wrap64 x))) (wrap64 d)) = 256 * x / d ∧ wrap64 d ≠ 0 := by
      intro x d h0 h1 h2
      have q0 : wrap64 x = x := W_in (by omega) (by omega)
      have q1 : wrap64 d = d := W_in (by omega) (by omega)
      have q2 : wrap64 (256 * x) = 256 * x := W_in (by omega) (by omega)
      have q3 : Int.tdiv (256 * x) d = 256 * x / d := Int.tdiv_eq_ediv_of_nonneg (by omega)
      have q4 : 0 ≤ 256 * x / d := Int.ediv_nonneg (by omega) (by omega)
      have q5 : 256 * x / d ≤ 256 * x := Int.ediv_le_self _ (by omega)
      rw [q0, q1, q2, q3]
      generalize 256 * x / d = z at *
      exact ⟨W_in (by omega) (by omega), by omega⟩
    have B : ∀ x d : Int, 0 ≤ x → x ≤ d → 0 < d → d ≤ 2147483648 → wrap64 (Int.tdiv (wrap64 (256 * (wrap64 x))) (wrap64 d)) = 256 * x / d ∧ wrap64 d ≠ 0 := by
      intro x d h0 h1 h3 h2
      rcases Int.lt_or_eq_of_le h1 with h | h
      · exact A x d h0 h h2
      · subst h
        have q0 : wrap64 x = x := W_in (by omega) (by omega)
        have q2 : wrap64 (256 * x) = 256 * x := W_in (by omega) (by omega)
        have q3 : Int.tdiv (256 * x) x = 256 * x / x := Int.tdiv_eq_ediv_of_nonneg (by omega)
        have q4 : 256 * x / x = 256 := Int.mul_ediv_cancel _ (by omega)
        rw [q0, q2, q3, q4]
        exact ⟨W_in (by decide) (by decide), by omega⟩
    by_cases c1 : low ≤ b ∧ b < mid
    · obtain ⟨h1, h2⟩ := B (b - low) (mid - low) (by omega) (by omega) (by omega) (by omega)
      rw [if_pos c1.1, earshotref11_Weight.j3, if_pos (decide_eq_true c1.2), if_neg h2, h1, if_pos c1]
    · have hj : (if low ≤ b then earshotref11_Weight.j3 6 b low mid top (decide (b < mid)) else earshotref11_Weight.j3 6 b low mid top false) = earshotref11_Weight.j3 6 b low mid top false := by
        by_cases c : low ≤ b
        · rw [if_pos c, decide_eq_false (fun h => c1 ⟨c, h⟩)]
        · rw [if_neg c]
      rw [hj, if_neg c1, earshotref11_Weight.j3, if_neg (by decide)]
      by_cases c2 : mid ≤ b ∧ b < top
      · obtain ⟨h1, h2⟩ := B (top - b) (top - mid) (by omega) (by omega) (by omega) (by omega)
        rw [if_pos c2.1, if_pos c2.2, if_neg h2, h1, if_pos c2]
      · rw [if_neg c2]
        by_cases c : mid ≤ b
        · rw [if_pos c, if_neg (fun h => c2 ⟨c, h⟩)]
        · rw [if_neg c]
  unfold earshotref11_Weight.f
  have hz : ¬ (nearB b = true ∧ nearB low = true ∧ nearB mid = true ∧ nearB top = true) → weightF b low mid top = 0 := fun h => by unfold weightF; rw [if_neg h]
  rw [rnear_f, bsome, rnear_f, bsome]
  have hj0 : ∀ x : Bool, earshotref11_Weight.j0 10 b low mid top x = earshotref11_Weight.j2 7 b low mid top (!(x && nearB mid && nearB top)) := by
    intro x
    rw [earshotref11_Weight.j0, rnear_f, bsome, rnear_f, bsome]
    rw [earshotref11_Weight.j1, earshotref11_Weight.j1]
    cases x <;> cases nearB mid <;> cases nearB top <;> rfl
  rw [hj0, hj0]
  have hw := hw _ rfl
  cases h0 : nearB b <;> cases h1 : nearB low <;> cases h2 : nearB mid <;> cases h3 : nearB top <;> rw [h0, h1, h2, h3] at hz hw <;> first | (rw [hz (by decide)]; exact hj2) | exact hw rfl

theorem awake_d {w0 : World} (W : World) (hB : Below w0.heap.size w0 W) : Calls Try.prog 8 #[] W fun e w' => e = .returned (.bool true) ∧ Aside0 (Below w0.heap.size w0 w') ∧ Aside0 (Below W.heap.size W w') :=
  (earshotlaw11_awake.calls 30 true W (by decide +kernel)).mono fun e w' ⟨a, b⟩ => ⟨a, ⟨below_step hB b⟩, ⟨b⟩⟩
theorem edges_d {w0 : World} (a b : Int) (n : Nat) (W : World) (hB : Below w0.heap.size w0 W) (hl : (edgesF a b).length = n) : Calls Try.prog 10 #[.int .i64 a, .int .i64 b] W (CRes w0 W n (edgesF a b)) :=
  (mel_Edges.calls a b _ W rfl).mono fun e w' ⟨v, he, hR, hb⟩ => by subst he; exact cres_of hB hR hl hb
theorem redges_d {w0 : World} (a b : Int) (n : Nat) (W : World) (hB : Below w0.heap.size w0 W) (hl : (edgesF a b).length = n) : Calls Try.prog 11 #[.int .i64 a, .int .i64 b] W (CRes w0 W n (edgesF a b)) :=
  (earshotref11_Edges.calls 2000 a b _ W (redges_f a b)).mono fun e w' ⟨v, he, hR, hb⟩ => by subst he; exact cres_of hB hR hl hb
theorem edgesF_len (a b : Int) : (edgesF a b).length ≤ 1000 := by
  unfold edgesF mayE
  split
  · rename_i h
    simp only [Bool.and_eq_true, decide_eq_true_eq] at h
    simp only [edgesL, List.length_map, List.length_range]; omega
  · simp

def earshotlaw11_MelTells.f (a0_0 a0_1 a0_2 a0_3 a1 a2 : Int) : Option (Bool) := some true
set_option maxHeartbeats 32000000 in
set_option maxRecDepth 100000 in
theorem tells_go (q0 q1 q2 q3 b0 b1 : Int) (w : World) :
    Calls Try.prog 3 #[.agg #[.int .i64 q0, .int .i64 q1, .int .i64 q2, .int .i64 q3], .int .i64 b0, .int .i64 b1] w fun e w' => e = .returned (.bool true) ∧ Below w.heap.size w w' := by
  obtain ⟨n, hn⟩ : ∃ n, (edgesF b0 b1).length = n := ⟨_, rfl⟩
  obtain ⟨m, hm⟩ : ∃ m, (edgesF (b0 % 128) (b1 % 32)).length = m := ⟨_, rfl⟩
  have hn1 := edgesF_len b0 b1
  have hm1 := edgesF_len (b0 % 128) (b1 % 32)
  rw [hn] at hn1
  rw [hm] at hm1
  have k1 : ∀ x : Int, Go.bits .and .i64 x 127 = x % 128 := fun x => i64_mask 7 (by decide) x 127 rfl
  have k2 : ∀ x : Int, Go.bits .and .i64 x 31 = x % 32 := fun x => i64_mask 5 (by decide) x 31 rfl
  have k3 : ∀ x : Int, Go.bits .and .i64 x 63 = x % 64 := fun x => i64_mask 6 (by decide) x 63 rfl
  have e1 := k1 b0
  have e2 := k2 b1
  have e3 := k1 q0
  have f0 := k3 q0
  have f1 := k3 q1
  have f2 := k3 q2
  have f3 := k3 q3
  have HN := Aside0.mk hn
  have HM := Aside0.mk hm
  clear k1 k2 k3 hn hm
  go_enter Try.func3, Try.ntmps3
  go_wp2_with (first
    | ((with_reducible refine gate_dst (N := 3) rfl ?_); refine box_event ?hg (N := 3) ?hd (cs := #[.int .i64 q0, .int .i64 q1, .int .i64 q2, .int .i64 q3]) (t := 22) ?hr ?_; (case hd => rfl); (case hg => first | rfl | exact wanted_on rfl rfl rfl (by first | assumption | rfl | (simp [*]; done))); (case hr => first | (go_simp; done) | (go_simp; rfl)); intro gb hgb wb hbox hb; subst hgb; have BK := Aside0.mk hbox; have HB := Aside0.mk hb; have ST0 : True := trivial; clear hbox hb)
    | (go_at_call 8; clear ST0; (with_reducible refine (awake_d (w0 := w) _ (by repeat (first | exact HB.out | apply below_alloc | apply pw_below_drewN | apply below_drew1))).mono ?_); rintro e wk0 ⟨rfl, HBm, Sm⟩; have BKn := Aside0.mk (blk_below BK.out Sm.out); clear BK; have BK := BKn; clear BKn; have q0c := blk_cell BK.out 0; have q1c := blk_cell BK.out 1; have q2c := blk_cell BK.out 2; have q3c := blk_cell BK.out 3; have HBn := HBm; clear HB; have HB := HBn; clear HBn HBm; clear Sm; have ST1 : True := trivial)
    | (go_at_call 10; clear ST1; (with_reducible refine (edges_d (w0 := w) b0 b1 n _ (by repeat (first | exact HB.out | apply below_alloc | apply pw_below_drewN | apply below_drew1)) HN.out).mono ?_); rintro e wk1 ⟨AE0, cE0, rfl, lE0, CE0, HBm, Sm⟩; have BKn := Aside0.mk (blk_below BK.out Sm.out); clear BK q0c q1c q2c q3c; have BK := BKn; clear BKn; have q0c := blk_cell BK.out 0; have q1c := blk_cell BK.out 1; have q2c := blk_cell BK.out 2; have q3c := blk_cell BK.out 3; have HBn := HBm; clear HB; have HB := HBn; clear HBn HBm; clear Sm; have ST2 : True := trivial)
    | (go_at_call 11; clear ST2; (with_reducible refine (redges_d (w0 := w) b0 b1 n _ (by repeat (first | exact HB.out | apply below_alloc | apply pw_below_drewN | apply below_drew1)) HN.out).mono ?_); rintro e wk2 ⟨AF0, cF0, rfl, lF0, CF0, HBm, Sm⟩; have BKn := Aside0.mk (blk_below BK.out Sm.out); clear BK q0c q1c q2c q3c; have BK := BKn; clear BKn; have q0c := blk_cell BK.out 0; have q1c := blk_cell BK.out 1; have q2c := blk_cell BK.out 2; have q3c := blk_cell BK.out 3; have HBn := HBm; clear HB; have HB := HBn; clear HBn HBm; have Cn := Aside0.mk (Kd.C_below (d := Kd.int .i64) (A := AE0) (n := n) (xs := (edgesF b0 b1)) (by repeat (first | exact CE0.out | refine Kd.C_alloc ?_ _ | refine Kd.C_drewN ?_ _ | refine Kd.C_drew ?_)) Sm.out); clear CE0; have CE0 := Cn; clear Cn; clear Sm; have ST3 : True := trivial)
    | (go_at_call 9; clear ST3; (with_reducible refine (same_c (w0 := w) AE0 n cE0 AF0 cF0 _ _ _ (by repeat (first | exact HB.out | apply below_alloc | apply pw_below_drewN | apply below_drew1)) HN.out rfl (by repeat (first | exact CE0.out | refine Kd.C_alloc ?_ _ | refine Kd.C_drewN ?_ _ | refine Kd.C_drew ?_)) (by repeat (first | exact CF0.out | refine Kd.C_alloc ?_ _ | refine Kd.C_drewN ?_ _ | refine Kd.C_drew ?_)) lE0 lF0 (by omega)).mono ?_); rintro e wk3 ⟨rfl, HBm, Sm⟩; have BKn := Aside0.mk (blk_below BK.out Sm.out); clear BK q0c q1c q2c q3c; have BK := BKn; clear BKn; have q0c := blk_cell BK.out 0; have q1c := blk_cell BK.out 1; have q2c := blk_cell BK.out 2; have q3c := blk_cell BK.out 3; have HBn := HBm; clear HB; have HB := HBn; clear HBn HBm; clear CE0; clear CF0; clear Sm; have ST4 : True := trivial)
    | (go_at_call 10; clear ST4; (with_reducible refine (edges_d (w0 := w) (b0 % 128) (b1 % 32) m _ (by repeat (first | exact HB.out | apply below_alloc | apply pw_below_drewN | apply below_drew1)) HM.out).mono ?_); rintro e wk4 ⟨AE1, cE1, rfl, lE1, CE1, HBm, Sm⟩; have BKn := Aside0.mk (blk_below BK.out Sm.out); clear BK q0c q1c q2c q3c; have BK := BKn; clear BKn; have q0c := blk_cell BK.out 0; have q1c := blk_cell BK.out 1; have q2c := blk_cell BK.out 2; have q3c := blk_cell BK.out 3; have HBn := HBm; clear HB; have HB := HBn; clear HBn HBm; clear Sm; have ST5 : True := trivial)
    | (go_at_call 11; clear ST5; (with_reducible refine (redges_d (w0 := w) (b0 % 128) (b1 % 32) m _ (by repeat (first | exact HB.out | apply below_alloc | apply pw_below_drewN | apply below_drew1)) HM.out).mono ?_); rintro e wk5 ⟨AF1, cF1, rfl, lF1, CF1, HBm, Sm⟩; have BKn := Aside0.mk (blk_below BK.out Sm.out); clear BK q0c q1c q2c q3c; have BK := BKn; clear BKn; have q0c := blk_cell BK.out 0; have q1c := blk_cell BK.out 1; have q2c := blk_cell BK.out 2; have q3c := blk_cell BK.out 3; have HBn := HBm; clear HB; have HB := HBn; clear HBn HBm; have Cn := Aside0.mk (Kd.C_below (d := Kd.int .i64) (A := AE1) (n := m) (xs := (edgesF (b0 % 128) (b1 % 32))) (by repeat (first | exact CE1.out | refine Kd.C_alloc ?_ _ | refine Kd.C_drewN ?_ _ | refine Kd.C_drew ?_)) Sm.out); clear CE1; have CE1 := Cn; clear Cn; clear Sm; have ST6 : True := trivial)
    | (go_at_call 9; clear ST6; (with_reducible refine (same_c (w0 := w) AE1 m cE1 AF1 cF1 _ _ _ (by repeat (first | exact HB.out | apply below_alloc | apply pw_below_drewN | apply below_drew1)) HM.out rfl (by repeat (first | exact CE1.out | refine Kd.C_alloc ?_ _ | refine Kd.C_drewN ?_ _ | refine Kd.C_drew ?_)) (by repeat (first | exact CF1.out | refine Kd.C_alloc ?_ _ | refine Kd.C_drewN ?_ _ | refine Kd.C_drew ?_)) lE1 lF1 (by omega)).mono ?_); rintro e wk6 ⟨rfl, HBm, Sm⟩; have BKn := Aside0.mk (blk_below BK.out Sm.out); clear BK q0c q1c q2c q3c; have BK := BKn; clear BKn; have q0c := blk_cell BK.out 0; have q1c := blk_cell BK.out 1; have q2c := blk_cell BK.out 2; have q3c := blk_cell BK.out 3; have HBn := HBm; clear HB; have HB := HBn; clear HBn HBm; clear CE1; clear CF1; clear Sm; have ST7 : True := trivial))
  go_quiet (first
    | (go_at_call 12; exact quiet_d (mel_High.calls 30 _ _ _ (high_f _)))
    | (go_at_call 13; exact quiet_d (earshotref11_High.calls 80 _ _ _ (rhigh_f _)))
    | (go_at_call 14; exact quiet_d (mel_Weight.calls _ _ _ _ _ _ rfl))
    | (go_at_call 15; exact quiet_d (earshotref11_Weight.calls 10 _ _ _ _ _ _ (rweight_f _ _ _ _))))
  go_wp2
  go_ret
  exact ⟨rfl, by repeat (first | exact HB.out | apply pw_below_drewN)⟩
theorem earshotlaw11_MelTells.calls (a0_0 a0_1 a0_2 a0_3 a1 a2 : Int) (r : Bool) (w : World) (h : earshotlaw11_MelTells.f a0_0 a0_1 a0_2 a0_3 a1 a2 = some r) :
    Calls Try.prog 3 #[.agg #[.int .i64 a0_0, .int .i64 a0_1, .int .i64 a0_2, .int .i64 a0_3], .int .i64 a1, .int .i64 a2] w fun e w' => e = .returned (.bool r) ∧ Below w.heap.size w w' := by
  obtain rfl := Option.some.inj h
  exact tells_go a0_0 a0_1 a0_2 a0_3 a1 a2 w

/-- THE ONE PURE STATEMENT of earshotlaw11_MelTells: yours. -/
def earshotlaw11_MelTells.Pure : Prop := ∀ (a0_0 : Int) (a0_1 : Int) (a0_2 : Int) (a0_3 : Int) (a1 : Int) (a2 : Int), (Lit.int .i64 a0_0).wf = true → (Lit.int .i64 a0_1).wf = true → (Lit.int .i64 a0_2).wf = true → (Lit.int .i64 a0_3).wf = true → (Lit.int .i64 a1).wf = true → (Lit.int .i64 a2).wf = true → earshotlaw11_MelTells.f a0_0 a0_1 a0_2 a0_3 a1 a2 = some true
theorem earshotlaw11_MelTells.walk (P : earshotlaw11_MelTells.Pure) (a0_0 : Int) (a0_1 : Int) (a0_2 : Int) (a0_3 : Int) (a1 : Int) (a2 : Int) (w : World) (w0_0 : (Lit.int .i64 a0_0).wf = true) (w0_1 : (Lit.int .i64 a0_1).wf = true) (w0_2 : (Lit.int .i64 a0_2).wf = true) (w0_3 : (Lit.int .i64 a0_3).wf = true) (w1 : (Lit.int .i64 a1).wf = true) (w2 : (Lit.int .i64 a2).wf = true) :
    Calls Try.prog 3 #[.agg #[.int .i64 a0_0, .int .i64 a0_1, .int .i64 a0_2, .int .i64 a0_3], .int .i64 a1, .int .i64 a2] w fun e w' => e = .returned (.bool true) ∧ Below w.heap.size w w' := by
  have h := P a0_0 a0_1 a0_2 a0_3 a1 a2 w0_0 w0_1 w0_2 w0_3 w1 w2
  refine (earshotlaw11_MelTells.calls a0_0 a0_1 a0_2 a0_3 a1 a2 true w h).mono ?_
  rintro e w' ⟨rfl, hd⟩
  exact ⟨rfl, hd⟩

end Go.Proofs.Ytohmecfjpmapnaa.PMelTells
