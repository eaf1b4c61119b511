-- Written by a program of this work (wip/tools) for this claim; Lean checks it.
import Derived.Test.YtohmecfjpmapnaaPMelSumsx0
import Derived.Test.YtohmecfjpmapnaaPMelSumsx1
import Derived.Test.YtohmecfjpmapnaaPMelSumsx2
namespace Go.Proofs.Ytohmecfjpmapnaa.PMelSums
open Go.RowKit Go.Proofs.YtohmecfjpmapnaaW.PrintWords Go.Proofs.YtohmecfjpmapnaaW.PrintLast Go.Proofs.YtohmecfjpmapnaaW.PrintMore
attribute [local go_sem] max2_int min2_int max_two min_two max_three min_three max_four min_four   -- for this text's walks alone
set_option linter.unusedVariables false
set_option linter.unusedSimpArgs false

/-! ### earshotlaw11_MelSums: function 7 -/
-- PURE intros; unfold earshotlaw11_MelSums.f; rw [if_pos]; simp only [Bool.and_eq_true, decide_eq_true_eq, List.all_eq_true]; refine ⟨⟨⟨⟨by omega, fun x hx => wf_i64 (by first | exact (‹∀ x ∈ _, _› x hx))⟩, by omega⟩, fun x hx => wf_i64 (‹∀ x ∈ _, _› x hx)⟩, by omega⟩
/-- A call's result is a row that reads as xs; the world is as it was, but for what is new. -/
def CRes (w0 W : World) (h : Nat) (xs : List Int) (e : Ending) (w' : World) : Prop :=
  ∃ A c, e = .returned (.slice A h c) ∧ h ≤ c ∧ Aside0 ((Kd.int .i64).C w' A h xs) ∧ Aside0 (Below w0.heap.size w0 w') ∧ Aside0 (Below W.heap.size W w')
theorem cres_of {w0 W w' : World} {h : Nat} {xs : List Int} {v : Value} {t b : Nat} {ok : Nat → Prop} (hB : Below w0.heap.size w0 W) (hR : (Kd.int .i64).R t w' b ok v xs) (hl : xs.length = h) (hb : Below W.heap.size W w') : CRes w0 W h xs (.returned v) w' := by
  subst hl
  obtain ⟨A, c, rfl, h1, h2⟩ := Kd.R_reads hR
  exact ⟨A, c, rfl, h1, ⟨h2⟩, ⟨below_step hB hb⟩, ⟨hb⟩⟩
theorem same_go (l : List Int) (hl : l.length ≤ 100000000) (d : Nat) : ∀ (k i : Nat), i ≤ l.length → l.length - i = d → d < k → earshotref04_Same.l0 k l l (i : Int) = some true := by
  induction d with
  | zero =>
    intro k i h0 hd hk
    obtain ⟨k, rfl⟩ : ∃ m, k = m + 1 := ⟨k - 1, by omega⟩
    simp only [earshotref04_Same.l0]
    rw [if_neg (by omega)]
  | succ d ih =>
    intro k i h0 hd hk
    obtain ⟨k, rfl⟩ : ∃ m, k = m + 1 := ⟨k - 1, by omega⟩
    simp only [earshotref04_Same.l0]
    have hw : wrap64 ((i : Int) + 1) = ((i + 1 : Nat) : Int) := by unfold wrap64; omega
    rw [if_pos (by omega), if_pos (by omega), if_pos (by omega), if_pos trivial, hw]
    exact ih k (i + 1) (by omega) (by omega) (by omega)
theorem same_f (l : List Int) (hl : l.length ≤ 100000000) : earshotref04_Same.f (l.length + 1) l l = some true := by
  unfold earshotref04_Same.f
  rw [if_pos rfl]
  exact same_go l hl l.length _ 0 (by omega) (by omega) (by omega)
/-- Two rows that read the same. -/
theorem same_c {w0 : World} (A1 : Option Addr) (h c1 : Nat) (A2 : Option Addr) (c2 : Nat) (l1 l2 : List Int) (W : World) (hB : Below w0.heap.size w0 W) (hl : l1.length = h) (he : l1 = l2) (hC1 : (Kd.int .i64).C W A1 h l1) (hC2 : (Kd.int .i64).C W A2 h l2) (h1 : h ≤ c1) (h2 : h ≤ c2) (hh : h ≤ 1000000) :
    Calls Try.prog 9 #[.slice A1 h c1, .slice A2 h c2] W fun e w' => e = .returned (.bool true) ∧ Aside0 (Below w0.heap.size w0 w') ∧ Aside0 (Below W.heap.size W w') := by
  subst he
  subst hl
  exact (earshotref04_Same.calls _ A1 c1 l1 A2 c2 l1 true W hC1 h1 hC2 h2 (same_f l1 (by omega))).mono fun e w' ⟨a, ⟨n, b⟩⟩ => by
    subst b
    exact ⟨a, ⟨pw_below_drewN hB n⟩, ⟨pw_below_drewN (Below.refl _ _) n⟩⟩
theorem zeros_c (X : World) (g n : Nat) (hg : g = X.heap.size) (hn : n ≤ 1000000) : (Kd.int .i64).C (X.alloc (.cells (madeCells #[.int .i64 0] n) 3)) (some ⟨g, 0, none⟩) n (List.replicate n 0) := by
  subst hg
  have h := own_made X X.heap.size 3 .i64 n (Nat.le_refl _) (by omega)
  have hR := Kd.R_of_own (enc := Value.int .i64) (h1 := fun _ => rfl) (ok := fun _ => True) (xs := List.replicate n 0) (by rw [List.length_replicate]; exact h) (fun _ _ => trivial)
  obtain ⟨A, c, he, _, h2⟩ := Kd.R_reads hR
  rw [List.length_replicate] at he h2
  injection he with e1 e2 e3
  rw [e1]
  exact h2
/-- A callee that draws only, in a region that is walked once, in a world that has drawn before. -/
theorem quiet_add {P : Program} {f : FuncId} {args : Array Value} {W : World} {K x : Nat} {v : Value} (h : Calls P f args (W.drewN (K + x)) fun e w' => e = .returned v ∧ Drawn0 (W.drewN (K + x)) w') :
    Calls P f args (W.drewN (K + x)) fun e w'' => e = .returned v ∧ ∃ n, w'' = W.drewN (K + n) :=
  h.mono fun _ _ ⟨he, ⟨m, hm⟩⟩ => ⟨he, x + m, by rw [hm, World.drewN_drewN, Nat.add_assoc]⟩
/-- .. likewise, in a world that is named by one count. -/
theorem quiet_d {P : Program} {f : FuncId} {args : Array Value} {W : World} {x : Nat} {v : Value} (h : Calls P f args (W.drewN x) fun e w' => e = .returned v ∧ Drawn0 (W.drewN x) w') :
    Calls P f args (W.drewN x) fun e w'' => e = .returned v ∧ ∃ n, w'' = W.drewN n :=
  h.mono fun _ _ ⟨he, ⟨m, hm⟩⟩ => ⟨he, x + m, by rw [hm, World.drewN_drewN]⟩

theorem i64_mask (i : Nat) (hi : i ≤ 62) (n m : Int) (hm : m = ((2 ^ i - 1 : Nat) : Int)) : Go.bits .and .i64 n m = n % ((2 ^ i : Nat) : Int) := by
  have hp : 0 < 2 ^ i := Nat.two_pow_pos i
  have hle : 2 ^ i ≤ 4611686018427387904 := Nat.pow_le_pow_right (n := 2) (by decide) hi
  have h1 : (BitVec.ofInt 64 m).toNat = 2 ^ i - 1 := by
    subst hm
    rw [BitVec.ofInt_natCast, BitVec.toNat_ofNat]
    exact Nat.mod_eq_of_lt (by omega)
  have key : (BitVec.ofInt 64 n &&& BitVec.ofInt 64 m).toNat = (n % ((2 ^ 64 : Nat) : Int)).toNat % 2 ^ i := by
    rw [BitVec.toNat_and, BitVec.toNat_ofInt, h1, Nat.and_two_pow_sub_one_eq_mod]
  show IntKind.i64.wrap ((BitVec.ofInt 64 n &&& BitVec.ofInt 64 m).toNat : Nat) = n % _
  rw [key, IntKind.wrap_i64]
  have r0 : 0 ≤ n % ((2 ^ 64 : Nat) : Int) := Int.emod_nonneg _ (by decide)
  have e : (((n % ((2 ^ 64 : Nat) : Int)).toNat % 2 ^ i : Nat) : Int) = n % ((2 ^ i : Nat) : Int) := by
    rw [Int.natCast_emod, Int.toNat_of_nonneg r0]
    refine Int.emod_emod_of_dvd _ ?_
    exact Int.natCast_dvd_natCast.2 (Nat.pow_dvd_pow 2 (by omega))
  rw [e]
  generalize hz : n % ((2 ^ i : Nat) : Int) = z
  have m0 : 0 ≤ z := hz ▸ Int.emod_nonneg _ (by omega)
  have m1 : z < ((2 ^ i : Nat) : Int) := hz ▸ Int.emod_lt_of_pos _ (by omega)
  have hle' : ((2 ^ i : Nat) : Int) ≤ 4611686018427387904 := Int.ofNat_le.2 hle
  have m2 : z < 4611686018427387904 := Int.lt_of_lt_of_le m1 hle'
  clear m1 hle' hle hz e key h1
  omega

def maskL (e : List Int) : List Int := (e.take 12).map (fun x => x % 64)
theorem maskL_length (e : List Int) : (maskL e).length = min 12 e.length := by simp [maskL]
theorem maskL_getD (e : List Int) (i : Nat) (h : i < min 12 e.length) : (maskL e).getD i 0 = e.getD i 0 % 64 := by
  have h1 : i < e.length := by omega
  have h2 : i < 12 := by omega
  simp [maskL, List.getD_eq_getElem?_getD, List.getElem?_map, List.getElem?_take, h2, List.getElem?_eq_getElem h1]
theorem take_snoc (l : List Int) (i : Nat) (h : i < l.length) : l.take i ++ [l.getD i 0] = l.take (i + 1) := by
  rw [List.take_succ_eq_append_getElem h, List.getD_eq_getElem?_getD, List.getElem?_eq_getElem h, Option.getD_some]
theorem bits63 (x : Int) : Go.bits .and .i64 x 63 = x % 64 := i64_mask 6 (by decide) x 63 rfl
theorem bands_d {w0 : World} (A0 A1 : Option Addr) (n c0 m c1 k : Nat) (p e : List Int) (W : World) (hB : Below w0.heap.size w0 W) (hl : p.length = n) (hC : (Kd.int .i64).C W A0 n p) (hn : n ≤ 1000000) (hl1 : e.length = m) (hC1 : (Kd.int .i64).C W A1 m e) (hm : m ≤ 1000000) (hk : (bandsL p e).length = k) :
    Calls Try.prog 17 #[.slice A0 n c0, .slice A1 m c1] W (CRes w0 W k (bandsL p e)) :=
  (bands_go A0 A1 n c0 m c1 p e W hl hC hn hl1 hC1 hm).mono fun e w' ⟨v, he, hR, hb⟩ => by subst he; exact cres_of hB hR hk hb
theorem bandsL_length (p e : List Int) : (bandsL p e).length = e.length - 2 := by unfold bandsL; rw [List.length_map, List.length_range]

/-! ### Powers that 256 goes into -/
theorem bandS_S (p : List Int) (low mid top : Int) : ∀ n, bandS p low mid top n = wrap64 (S n (fun i => p.getD i 0 * weightF (i : Int) low mid top))
  | 0 => (W_in (a := 0) (by decide) (by decide)).symm
  | n + 1 => by rw [bandS, bandS_S p low mid top n, W_W_add, W_add_W]; rfl
theorem weightF_le (b low mid top : Int) : 0 ≤ weightF b low mid top ∧ weightF b low mid top ≤ 256 := by
  unfold weightF
  split
  · unfold weightW
    split
    · rename_i h
      refine ⟨Int.ediv_nonneg (by omega) (by omega), ?_⟩
      refine Int.ediv_le_of_le_mul (by omega) ?_
      exact Int.mul_le_mul_of_nonneg_left (by omega) (by omega)
    · split
      · rename_i h
        refine ⟨Int.ediv_nonneg (by omega) (by omega), ?_⟩
        refine Int.ediv_le_of_le_mul (by omega) ?_
        exact Int.mul_le_mul_of_nonneg_left (by omega) (by omega)
      · exact ⟨by decide, by decide⟩
  · exact ⟨by decide, by decide⟩
def bandT (c : Nat → Int) (low mid top : Int) (n : Nat) : Int := S n (fun i => c i * weightF (i : Int) low mid top)
theorem term_le {c q : Int} (h0 : -1099511627776 ≤ c) (h1 : c ≤ 1099511627776) (q0 : 0 ≤ q) (q1 : q ≤ 256) : -281474976710656 ≤ c * q ∧ c * q ≤ 281474976710656 := by
  have a := Int.mul_le_mul_of_nonneg_right h1 q0
  have b := Int.mul_le_mul_of_nonneg_right h0 q0
  omega
theorem bandT_le (c : Nat → Int) (low mid top : Int) (n : Nat) (hn : n ≤ 66) (hc : ∀ i, i < n → -1099511627776 ≤ c i ∧ c i ≤ 1099511627776) : -18577348462903296 ≤ bandT c low mid top n ∧ bandT c low mid top n ≤ 18577348462903296 := by
  have h := S_bound (n := n) (g := fun i => c i * weightF (i : Int) low mid top) (b := 281474976710656) (fun i hi => term_le (hc i hi).1 (hc i hi).2 (weightF_le _ _ _ _).1 (weightF_le _ _ _ _).2)
  unfold bandT
  generalize S n (fun i => c i * weightF (i : Int) low mid top) = T at *
  omega
theorem bandV_exact (p : List Int) (c : Nat → Int) (low mid top : Int) (n : Nat) (hl : p.length = n) (hn : n ≤ 66) (hp : ∀ i, i < n → p.getD i 0 = 256 * c i) (hc : ∀ i, i < n → -1099511627776 ≤ c i ∧ c i ≤ 1099511627776) : bandV p low mid top = bandT c low mid top n := by
  have hb := bandT_le c low mid top n hn hc
  unfold bandV
  rw [bandS_S, hl]
  have e : S n (fun i => p.getD i 0 * weightF (i : Int) low mid top) = 256 * bandT c low mid top n := by
    unfold bandT
    rw [← S_mul]
    exact S_congr (fun i hi => by rw [hp i hi, Int.mul_assoc])
  rw [e]
  generalize bandT c low mid top n = T at *
  rw [W_in (by omega) (by omega)]
  omega
theorem bandsL_at (p e : List Int) (m : Nat) (h : m + 2 < e.length) : (bandsL p e).getD m 0 = bandV p (e.getD m 0) (e.getD (m + 1) 0) (e.getD (m + 2) 0) := by
  unfold bandsL
  exact getD_map_range (e.length - 2) (fun m : Nat => bandV p (e.getD m 0) (e.getD (m + 1) 0) (e.getD (m + 2) 0)) m (by omega)
def powL (a : List Int) (n : Nat) : List Int := (List.range n).map fun i : Nat => a.getD i 0 / 16777216 * 256
def bothL (a b : List Int) (n : Nat) : List Int := (List.range n).map fun i : Nat => a.getD i 0 / 16777216 * 256 + b.getD i 0 / 16777216 * 256
def aloneL (n k : Nat) : List Int := (List.replicate n 0).set k 256
theorem powL_length (a : List Int) (n : Nat) : (powL a n).length = n := by simp [powL]
theorem bothL_length (a b : List Int) (n : Nat) : (bothL a b n).length = n := by simp [bothL]
theorem aloneL_length (n k : Nat) : (aloneL n k).length = n := by simp [aloneL]
theorem powL_getD (a : List Int) (n i : Nat) (h : i < n) : (powL a n).getD i 0 = a.getD i 0 / 16777216 * 256 := getD_map_range n (fun i : Nat => a.getD i 0 / 16777216 * 256) i h
theorem bothL_getD (a b : List Int) (n i : Nat) (h : i < n) : (bothL a b n).getD i 0 = a.getD i 0 / 16777216 * 256 + b.getD i 0 / 16777216 * 256 := getD_map_range n (fun i : Nat => a.getD i 0 / 16777216 * 256 + b.getD i 0 / 16777216 * 256) i h
theorem in64_at {l : List Int} (h : In64 l) (i : Nat) : -9223372036854775808 ≤ l.getD i 0 ∧ l.getD i 0 ≤ 9223372036854775807 := by
  rw [← h.getD i]; exact ⟨W_lo _, W_hi _⟩
theorem sums_eq (a b e : List Int) (ha : In64 a) (hb : In64 b) (n m : Nat) (hn : n ≤ 66) (h : m + 2 < e.length) : wrap64 ((bandsL (powL a n) e).getD m 0 + (bandsL (powL b n) e).getD m 0) = (bandsL (bothL a b n) e).getD m 0 := by
  have qa := fun i => in64_at ha i
  have qb := fun i => in64_at hb i
  rw [bandsL_at _ _ _ h, bandsL_at _ _ _ h, bandsL_at _ _ _ h]
  rw [bandV_exact (powL a n) (fun i => a.getD i 0 / 16777216) _ _ _ n (powL_length a n) hn (fun i hi => by rw [powL_getD a n i hi, Int.mul_comm]) (fun i hi => by have := qa i; omega)]
  rw [bandV_exact (powL b n) (fun i => b.getD i 0 / 16777216) _ _ _ n (powL_length b n) hn (fun i hi => by rw [powL_getD b n i hi, Int.mul_comm]) (fun i hi => by have := qb i; omega)]
  rw [bandV_exact (bothL a b n) (fun i => a.getD i 0 / 16777216 + b.getD i 0 / 16777216) _ _ _ n (bothL_length a b n) hn (fun i hi => by rw [bothL_getD a b n i hi]; omega) (fun i hi => by have := qa i; have := qb i; omega)]
  have b1 := bandT_le (fun i => a.getD i 0 / 16777216) (e.getD m 0) (e.getD (m + 1) 0) (e.getD (m + 2) 0) n hn (fun i hi => by have := qa i; omega)
  have b2 := bandT_le (fun i => b.getD i 0 / 16777216) (e.getD m 0) (e.getD (m + 1) 0) (e.getD (m + 2) 0) n hn (fun i hi => by have := qb i; omega)
  rw [W_in (by omega) (by omega)]
  unfold bandT
  rw [← S_add]
  exact S_congr (fun i _ => by rw [Int.add_mul])
theorem alone_eq (e : List Int) (n k m : Nat) (hn : n ≤ 66) (hk : k < n) (h : m + 2 < e.length) : (bandsL (aloneL n k) e).getD m 0 = weightF (k : Int) (e.getD m 0) (e.getD (m + 1) 0) (e.getD (m + 2) 0) := by
  rw [bandsL_at _ _ _ h, bandV_exact (aloneL n k) (fun i => if i = k then 1 else 0) _ _ _ n (aloneL_length n k) hn (fun i hi => ?_) (fun i hi => by split <;> omega)]
  · unfold bandT
    rw [S_one hk (fun i _ hne => by show (if i = k then (1 : Int) else 0) * _ = 0; rw [if_neg hne, Int.zero_mul])]
    show (if k = k then (1 : Int) else 0) * _ = _
    rw [if_pos rfl, Int.one_mul]
  · unfold aloneL
    by_cases h : i = k
    · subst h
      rw [if_pos rfl, List.getD_eq_getElem?_getD, List.getElem?_set_self (by simpa using hi)]; rfl
    · rw [if_neg h, List.getD_eq_getElem?_getD, List.getElem?_set_ne (fun h' => h h'.symm), List.getElem?_replicate, if_pos hi]; rfl
/-- Two rows of the call's own lie apart. -/
def Apart2 (u v : Value) : Prop := ∀ k, u.ownBlock = some k → v.ownBlock ≠ some k
theorem Apart2.symm {u v : Value} (h : Apart2 u v) : Apart2 v u := fun k hv hu => h k hu hv
theorem apart_nil (v : Value) : Apart2 (.slice none 0 0) v := fun k h => by simp [Value.ownBlock] at h
theorem apart_step {W : World} {u u1 v : Value} (h : Apart2 u v) (hv : ∀ k, v.ownBlock = some k → k < W.heap.size) (hat : u1.ownBlock = u.ownBlock ∨ ∃ b, u1.ownBlock = some b ∧ W.heap.size ≤ b) : Apart2 u1 v := by
  intro k hk hv2
  rcases hat with e | ⟨b, e, hb⟩
  · exact h k (by rw [← e]; exact hk) hv2
  · rw [e] at hk
    injection hk with hk
    have := hv k hv2
    omega
theorem R_other {W w1 : World} {base t : Nat} {u v : Value} {xs : List Int} (h : (Kd.int .i64).R t W base (fun _ => True) v xs) (hg : W.grownBy w1 u.ownBlock) (ha : Apart2 v u) : (Kd.int .i64).R t w1 base (fun _ => True) v xs := by
  refine Kd.R_of_own (own_other (Kd.own_of_R h) hg ?_) (fun _ _ => trivial)
  cases hv : v.ownBlock with
  | none => exact .inl rfl
  | some k => exact .inr (fun e => ha k hv e.symm)
theorem R_cell_at {W : World} {base t g n cap : Nat} {ok : Nat → Prop} {xs : List Int} (h : (Kd.int .i64).R t W base ok (.slice (some ⟨g, 0, none⟩) n cap) xs) (i : Nat) (hi : i < n) : W.cell? ⟨g, i, none⟩ = some (.int .i64 (xs.getD i 0)) := by
  have := (Kd.R_celln (0 : Int) h (i : Int) (by omega) (by omega)).1
  rw [Int.toNat_natCast] at this
  rw [this, rdOf, Int.toNat_natCast]
theorem alloc_set (W : World) (cs : Array Value) (t k : Nat) (v : Value) : (W.alloc (.cells cs t)).setCell ⟨W.heap.size, k, none⟩ v = W.alloc (.cells (cs.setIfInBounds k v) t) := by
  first
  | (simp; done)
  | (go_simp; done)

theorem awake_d {w0 : World} (W : World) (hB : Below w0.heap.size w0 W) : Calls Try.prog 8 #[] W fun e w' => e = .returned (.bool true) ∧ Aside0 (Below w0.heap.size w0 w') ∧ Aside0 (Below W.heap.size W w') :=
  (earshotlaw11_awake.calls 30 true W (by decide +kernel)).mono fun e w' ⟨a, b⟩ => ⟨a, ⟨below_step hB b⟩, ⟨b⟩⟩
theorem weight_q (b low mid top r : Int) (W : World) (hr : weightF b low mid top = r) : Calls Try.prog 14 #[.int .i64 b, .int .i64 low, .int .i64 mid, .int .i64 top] W fun e w' => e = .returned (.int .i64 r) ∧ Drawn0 W w' := by
  subst hr
  exact mel_Weight.calls b low mid top _ W rfl
theorem grown_up {W W1 W2 : World} {row : Option Nat} (hg : W1.grownBy W2 row) (hh : W1.os = W.os := by first | rfl | simp) (ht : W1.tape = W.tape := by first | rfl | simp) (ho : W1.output = W.output := by first | rfl | simp) (hs : W.heap.size ≤ W1.heap.size := by simp) (hb : ∀ k, k < W.heap.size → W1.heap[k]? = W.heap[k]? := by intro k hk; first | rfl | exact Below.heap_alloc _ _ _ hk) : W.grownBy W2 row :=
  ⟨hg.os.trans hh, hg.tape.trans ht, hg.output.trans ho, Nat.le_trans hs hg.size, fun k hk hne => (hg.block k (Nat.lt_of_lt_of_le hk hs) hne).trans (hb k hk)⟩
def earshotlaw11_MelSums.f (l0 l1 l2 : List Int) : Option (Bool) := if decide (l0.length ≤ 4000000000000000000) && l0.all (fun x => decide (-9223372036854775808 ≤ x) && decide (x ≤ 9223372036854775807)) && decide (l1.length ≤ 4000000000000000000) && l1.all (fun x => decide (-9223372036854775808 ≤ x) && decide (x ≤ 9223372036854775807)) && decide (l2.length ≤ 4000000000000000000) then some true else none
set_option maxHeartbeats 64000000 in
set_option maxRecDepth 100000 in
theorem sums_go (A0 Ab A1 : Option Addr) (n0 c0 nb cb m c1 q0 q1 : Nat) (p s e : List Int) (w : World) (hq0 : min 66 n0 = q0) (hq1 : min 66 nb = q1) (hl : p.length = q0) (hC : (Kd.int .i64).C w A0 q0 p) (hn0 : n0 ≤ c0) (hp : In64 p) (hlb : s.length = q1) (hCb : (Kd.int .i64).C w Ab q1 s) (hnb : nb ≤ cb) (hs : In64 s) (hl1 : e.length = m) (hC1 : (Kd.int .i64).C w A1 m e) (hmc : m ≤ c1) (hm : m ≤ 4000000000000000000) (h0 : n0 ≤ 4000000000000000000) (hb : nb ≤ 4000000000000000000) :
    Calls Try.prog 7 #[.slice A0 n0 c0, .slice Ab nb cb, .slice A1 m c1] w fun e_ w' => e_ = .returned (.bool true) ∧ Below w.heap.size w w' := by
  have HCP := Aside0.mk hC
  have HCB := Aside0.mk hCb
  have HC1 := Aside0.mk hC1
  have HL1 := Aside0.mk hl1
  have HQ0 := Aside0.mk hq0
  have HQ1 := Aside0.mk hq1
  have hpc : q0 ≤ c0 := by omega
  have hsc : q1 ≤ cb := by omega
  have h066 : q0 ≤ 66 := by omega
  have h166 : q1 ≤ 66 := by omega
  obtain ⟨z, hz⟩ : ∃ z, min 12 m = z := ⟨_, rfl⟩
  obtain ⟨N, hN⟩ : ∃ N, min q0 q1 = N := ⟨_, rfl⟩
  have hN0 : N ≤ q0 := by omega
  have hN1 : N ≤ q1 := by omega
  have hmin : (if q1 < q0 then (q1 : Int) else (q0 : Int)) = (N : Int) := by split <;> omega
  have hmin2 : (if (q1 : Int) < (q0 : Int) then (q1 : Int) else (q0 : Int)) = (N : Int) := by split <;> omega
  have HZ := Aside0.mk hz
  have HSUM : Aside0 (∀ i, i + 2 < e.length → True) := ⟨fun _ _ => trivial⟩
  have HPIN := Aside0.mk hp
  have HSIN := Aside0.mk hs
  clear hl hC hl1 hC1 hq0 hq1 hlb hCb hp hs hN HSUM
  obtain ⟨i0, hi0, hz0, hz1, hz2⟩ := info_parts turn_info
  go_enter Try.func7, Try.ntmps7
  go_wp2_with (go_at_call 8; (with_reducible refine (awake_d (w0 := w) _ (Below.refl _ _)).mono ?_); rintro e_ w' ⟨rfl, HB, Sm⟩; clear Sm)
  go_loopw [8, 9] (fun va vb wr => ∃ (i : Nat), i ≤ z ∧ vb = .int .i64 (i : Int) ∧ Aside0 (Kd.R (Kd.int .i64) 3 wr w.heap.size (fun _ => True) va ((maskL e).take i)) ∧ Aside0 (Below w.heap.size w wr)) (fun _ v _ => z - (intOf v).toNat)
  case atStart => exact ⟨0, by omega, rfl, ⟨Kd.R_nil _ _ _ _ _⟩, HB⟩
  case round =>
    clear HB
    obtain ⟨i, hi, rfl, HO, HB⟩ := hrel
    by_cases hlt : i < z
    · have hC1 := Kd.C_below HC1.out HB.out
      obtain ⟨ad, rfl, hcs1⟩ := b_ad hC1 (by omega)
      have hcell := b_cell hC1 i (by omega)
      obtain ⟨y, hy⟩ : ∃ y, e.getD i 0 = y := ⟨_, rfl⟩
      have HY : Aside0 ((maskL e).take i ++ [y % 64] = (maskL e).take (i + 1)) := ⟨by
        rw [← take_snoc (maskL e) i (by rw [maskL_length, HL1.out, HZ.out]; exact hlt), maskL_getD e i (by rw [HL1.out, HZ.out]; exact hlt), hy]⟩
      rw [hy] at hcell
      have f0 := bits63 y
      have i12 : i < 12 := by omega
      have im : i < m := by omega
      clear hy hcs1 hC1
      go_wp2_with (((with_reducible refine gate_builtin (b := .append) (xs := #[.tmp 35, .tmp 41]) rfl ?_); at_builtin; refine Kd.R_append (Kd.int .i64) (w0 := w) w.heap.size rfl (.tmp 35) (.tmp 41) 25 3 (.int .i64 0) 8 rfl Try.underlying25 turn_info rfl (by decide) (by omega) u8 ((maskL e).take i) (y % 64) [.int .i64 (y % 64)] (fun _ => True) (fun _ => False) rfl rfl ?aP (fun _ hk => hk.elim) ?aF ?aO ?aB ?aS ?aL ?_; (case aP => exact rfl); (case aB => exact (by repeat (first | exact HB.out | apply below_alloc | apply pw_below_drewN | apply below_drew1))); (case aF => exact (fun _ _ => trivial)); (case aO => exact (by (with_reducible repeat (first | apply Kd.R_alloc | apply Kd.R_drewN | apply Kd.R_drew)); exact HO.out)); (case aS => exact (below_size (by repeat (first | exact HB.out | apply below_alloc | apply pw_below_drewN | apply below_drew1)))); (case aL => rw [List.length_take]; omega); intro vn wn ho hb hg hat; have HBn := Aside0.mk hb; have HOn := Aside0.mk ho; clear HB HO; have HB := HBn; have HO := HOn; clear HBn HOn ho hb hg hat))
      go_roundw
      case rel => exact ⟨i + 1, by omega, by go_num, ⟨by rw [← HY.out]; exact HO.out⟩, HB⟩
      case measure => simp [intOf]; omega
    · obtain rfl : z = i := by omega
      have hT : (maskL e).take z = maskL e := List.take_of_length_le (by rw [maskL_length, HL1.out, HZ.out]; exact Nat.le_refl _)
      rw [hT] at HO
      have hLE : (maskL e).length = z := by rw [maskL_length, HL1.out, HZ.out]
      obtain ⟨Al, cl, hv, hlc, hCl⟩ := Kd.R_reads HO.out
      rw [hLE] at hv hlc hCl
      subst hv
      have HLE := Aside0.mk hLE
      have CE := Aside0.mk hCl
      have HR8 : Aside0 (Kd.R (Kd.int .i64) 3 wr w.heap.size (fun _ => True) (.slice Al z cl) (maskL e)) := HO
      have hz12 : z ≤ 12 := by omega
      have hex : decide (z < m) = false ∧ decide ((z : Int) < (m : Int)) = false ∨ decide (z < m) = true ∧ decide ((z : Int) < (m : Int)) = true ∧ decide (z < 12) = false ∧ decide ((z : Int) < 12) = false := by
        simp only [decide_eq_true_eq, decide_eq_false_iff_not]; omega
      clear hT hLE hCl HO hlt hi HC1 HL1 HZ hmc hm
      rcases hex with ⟨e1, e2⟩ | ⟨e1, e2, e3, e4⟩
      all_goals
        go_wp2_with (first
          | (go_at_call 16; (with_reducible refine (few_go A0 n0 c0 _ hn0).mono ?_); rintro e_ w' ⟨rfl, rfl⟩; rw [HQ0.out])
          | (go_at_call 16; (with_reducible refine (few_go Ab nb cb _ hnb).mono ?_); rintro e_ w' ⟨rfl, rfl⟩; rw [HQ1.out]))
        go_loopw [13, 14, 15, 16] (fun v13 v14 v15 v16 wr2 => ∃ (i : Nat), i ≤ N ∧ v16 = .int .i64 (i : Int) ∧ Aside0 (Kd.R (Kd.int .i64) 3 wr2 w.heap.size (fun _ => True) v13 (powL p i)) ∧ Aside0 (Kd.R (Kd.int .i64) 3 wr2 w.heap.size (fun _ => True) v14 (powL s i)) ∧ Aside0 (Kd.R (Kd.int .i64) 3 wr2 w.heap.size (fun _ => True) v15 (bothL p s i)) ∧ Aside0 (Kd.R (Kd.int .i64) 3 wr2 w.heap.size (fun _ => True) (.slice Al z cl) (maskL e)) ∧ Aside0 (Apart2 v13 v14) ∧ Aside0 (Apart2 v13 v15) ∧ Aside0 (Apart2 v14 v15) ∧ Aside0 (Apart2 (.slice Al z cl) v13) ∧ Aside0 (Apart2 (.slice Al z cl) v14) ∧ Aside0 (Apart2 (.slice Al z cl) v15) ∧ Aside0 (Below w.heap.size w wr2)) (fun _ _ _ v _ => N - (intOf v).toNat)
        case atStart => exact ⟨0, by omega, rfl, ⟨Kd.R_nil _ _ _ _ _⟩, ⟨Kd.R_nil _ _ _ _ _⟩, ⟨Kd.R_nil _ _ _ _ _⟩, HR8, ⟨apart_nil _⟩, ⟨apart_nil _⟩, ⟨apart_nil _⟩, ⟨(apart_nil _).symm⟩, ⟨(apart_nil _).symm⟩, ⟨(apart_nil _).symm⟩, HB⟩
        case round =>
          clear HB HR8 CE
          obtain ⟨i, hi, rfl, H13, H14, H15, HR8, D1, D2, D3, D4, D5, D6, HB⟩ := hrel
          by_cases hlt : i < N
          · have hP := Kd.C_below HCP.out HB.out
            have hS := Kd.C_below HCB.out HB.out
            obtain ⟨ad, rfl, hcs1⟩ := b_ad hP (by omega)
            obtain ⟨ad2, rfl, hcs2⟩ := b_ad hS (by omega)
            have k0 := b_cell hP i (by omega)
            have HK1 : ∀ W1 : World, Below w.heap.size w W1 → W1.cell? (ad2.add i) = some (.int .i64 (s.getD i 0)) := fun W1 h1 => b_cell (Kd.C_below HCB.out h1) i (by omega)
            have b0 := in64_at HPIN.out i
            have b1 := in64_at HSIN.out i
            obtain ⟨x, hx⟩ : ∃ x, p.getD i 0 = x := ⟨_, rfl⟩
            obtain ⟨y, hy⟩ : ∃ y, s.getD i 0 = y := ⟨_, rfl⟩
            rw [hx] at k0 b0
            rw [hy] at b1 HK1
            obtain ⟨dx, hdx⟩ : ∃ dx, x / 16777216 = dx := ⟨_, rfl⟩
            obtain ⟨dy, hdy⟩ : ∃ dy, y / 16777216 = dy := ⟨_, rfl⟩
            have x0 : -549755813888 ≤ dx := by omega
            have x1 : dx ≤ 549755813888 := by omega
            have y0 : -549755813888 ≤ dy := by omega
            have y1 : dy ≤ 549755813888 := by omega
            have HX : Aside0 (powL p i ++ [dx * 256] = powL p (i + 1)) := ⟨by unfold powL; rw [List.range_succ, List.map_append, ← hdx, ← hx]; rfl⟩
            have HY : Aside0 (powL s i ++ [dy * 256] = powL s (i + 1)) := ⟨by unfold powL; rw [List.range_succ, List.map_append, ← hdy, ← hy]; rfl⟩
            have HXY : Aside0 (nums .i64 (bothL p s i) ++ [.int .i64 (dx * 256 + dy * 256)] = nums .i64 (bothL p s (i + 1))) := ⟨by unfold bothL nums; rw [List.range_succ, List.map_append, List.map_append, ← hdx, ← hdy, ← hx, ← hy]; rfl⟩
            have HZX : Aside0 ((powL p (i + 1)).getD i 0 = dx * 256) := ⟨by rw [powL_getD p (i + 1) i (by omega), hx, hdx]⟩
            have HZY : Aside0 ((powL s (i + 1)).getD i 0 = dy * 256) := ⟨by rw [powL_getD s (i + 1) i (by omega), hy, hdy]⟩
            have hadd : IntKind.i64.wrap (dx * 256 + dy * 256) = dx * 256 + dy * 256 := by rw [IntKind.wrap_i64]; omega
            have HK1A := Aside0.mk HK1
            clear hcs1 hcs2 hP hS b0 b1 hx hy HK1
            go_wp2_with (first
              | ((with_reducible refine gate_builtin (b := .append) (xs := #[.tmp 57, .tmp 64]) rfl ?_); at_builtin; refine Kd.R_append (Kd.int .i64) (w0 := w) w.heap.size rfl (.tmp 57) (.tmp 64) 25 3 (.int .i64 0) 8 rfl Try.underlying25 turn_info rfl (by decide) (by omega) u13 (powL p i) (dx * 256) [.int .i64 (dx * 256)] (fun _ => True) (fun _ => False) rfl rfl ?aP (fun _ hk => hk.elim) ?aF ?aO ?aB ?aS ?aL ?_; (case aP => exact rfl); (case aB => exact (by repeat (first | exact HB.out | apply below_alloc | apply pw_below_drewN | apply below_drew1))); (case aF => exact (fun _ _ => trivial)); (case aO => exact (by (with_reducible repeat (first | apply Kd.R_alloc | apply Kd.R_drewN | apply Kd.R_drew)); exact H13.out)); (case aS => exact (below_size (by repeat (first | exact HB.out | apply below_alloc | apply pw_below_drewN | apply below_drew1)))); (case aL => rw [powL_length]; omega); intro vA wA ho hb hg hat; have a1 := apart_step D1.out (Kd.R_lt H14.out) hat; have a2 := apart_step D2.out (Kd.R_lt H15.out) hat; have a4 := apart_step D4.out.symm (Kd.R_lt HR8.out) hat; have n14 := Aside0.mk (R_other H14.out hg D1.out.symm); have n15 := Aside0.mk (R_other H15.out hg D2.out.symm); have n8 := Aside0.mk (R_other HR8.out hg D4.out); clear H14 H15 HR8 D1 D2 D4; have H14 := n14; have H15 := n15; have HR8 := n8; clear n14 n15 n8; have D1 := Aside0.mk a1; have D2 := Aside0.mk a2; have D4 := Aside0.mk a4.symm; clear a1 a2 a4; rw [HX.out] at ho; obtain ⟨g13, cap13, hvv, _⟩ := Kd.R_form ho (by rw [powL_length p (i + 1)]; omega); rw [powL_length p (i + 1)] at hvv; subst hvv; have k1 := HK1A.out wA hb; have HBn := Aside0.mk hb; have HOn := Aside0.mk ho; clear HB H13; have HB := HBn; have H13 := HOn; clear HBn HOn ho hb hg hat)
              | ((with_reducible refine gate_builtin (b := .append) (xs := #[.tmp 66, .tmp 73]) rfl ?_); at_builtin; refine Kd.R_append (Kd.int .i64) (w0 := w) w.heap.size rfl (.tmp 66) (.tmp 73) 25 3 (.int .i64 0) 8 rfl Try.underlying25 turn_info rfl (by decide) (by omega) u14 (powL s i) (dy * 256) [.int .i64 (dy * 256)] (fun _ => True) (fun _ => False) rfl rfl ?aP (fun _ hk => hk.elim) ?aF ?aO ?aB ?aS ?aL ?_; (case aP => exact rfl); (case aB => exact (by repeat (first | exact HB.out | apply below_alloc | apply pw_below_drewN | apply below_drew1))); (case aF => exact (fun _ _ => trivial)); (case aO => exact (by (with_reducible repeat (first | apply Kd.R_alloc | apply Kd.R_drewN | apply Kd.R_drew)); exact H14.out)); (case aS => exact (below_size (by repeat (first | exact HB.out | apply below_alloc | apply pw_below_drewN | apply below_drew1)))); (case aL => rw [powL_length]; omega); intro vB wB ho hb hg hat; have a1 := apart_step D1.out.symm (Kd.R_lt H13.out) hat; have a3 := apart_step D3.out (Kd.R_lt H15.out) hat; have a5 := apart_step D5.out.symm (Kd.R_lt HR8.out) hat; have n13 := Aside0.mk (R_other H13.out hg D1.out); have n15 := Aside0.mk (R_other H15.out hg D3.out.symm); have n8 := Aside0.mk (R_other HR8.out hg D5.out); clear H13 H15 HR8 D1 D3 D5; have H13 := n13; have H15 := n15; have HR8 := n8; clear n13 n15 n8; have D1 := Aside0.mk a1.symm; have D3 := Aside0.mk a3; have D5 := Aside0.mk a5.symm; clear a1 a3 a5; rw [HY.out] at ho; obtain ⟨g14, cap14, hvv, _⟩ := Kd.R_form ho (by rw [powL_length s (i + 1)]; omega); rw [powL_length s (i + 1)] at hvv; subst hvv; have HBn := Aside0.mk hb; have HOn := Aside0.mk ho; clear HB H14; have HB := HBn; have H14 := HOn; clear HBn HOn ho hb hg hat))
            have c13 : wB.cell? ⟨g13, i, none⟩ = some (.int .i64 (dx * 256)) := by rw [R_cell_at H13.out i (by omega), HZX.out]
            have c14 : wB.cell? ⟨g14, i, none⟩ = some (.int .i64 (dy * 256)) := by rw [R_cell_at H14.out i (by omega), HZY.out]
            have g13l : g13 < wB.heap.size := Kd.R_lt H13.out g13 rfl
            have g14l : g14 < wB.heap.size := Kd.R_lt H14.out g14 rfl
            have n13 : u15.ownBlock ≠ some g13 := fun h => D2.out g13 rfl h
            have n14 : u15.ownBlock ≠ some g14 := fun h => D3.out g14 rfl h
            have hO15 := Aside0.mk (Kd.own_of_R H15.out)
            have hszB := HB.out.size
            have j0 : (0 : Int) ≤ (i : Int) := by omega
            have j1 : (i : Int) < ((i + 1 : Nat) : Int) := by omega
            have j2 : (i : Int) < (i : Int) + 1 := by omega
            go_region_held3 (fun w' => w'.cell? ⟨g13, i, none⟩ = some (.int .i64 (dx * 256)) ∧ w'.cell? ⟨g14, i, none⟩ = some (.int .i64 (dy * 256)))
              (first
                | go_keep
                | (go_split_ands
                   refine ⟨?_, ?_⟩
                   · (rw [far_at hgrow ⟨g13, 0, none⟩ _ (by simp; omega) n13]; assumption)
                   · (rw [far_at hgrow ⟨g14, 0, none⟩ _ (by simp; omega) n14]; assumption)))
              (first
                | (refine step_append_lies _ (by rfl) _ _ _ (by rfl) w.heap.size 3 i0 _ 1 8 Try.underlying25 hi0 hz0 hz1 hz2 rfl (by omega) u15 i (nums .i64 (bothL p s i)) (by rfl) (by have h := hO15.out; rw [bothL_length] at h; exact pw_own_below h (by repeat (first | exact Below.refl _ _ | apply below_alloc | apply pw_below_drewN | apply below_drew1))) ⟨wB.heap.size, 0, none⟩ 1 1 [.int .i64 (dx * 256 + dy * 256)] (by rfl) (by rfl) (World.news_of_block (heap_alloc_new _ _)) (by simp [Value.oneCell']) (by omega) (by unfold maxLen; omega) (by omega) (by simp; omega) (wB.heap.size + 1) (by simp) ?_; intro g cap w1 hown1 hgrow hat hlt2))
            have hgw : wB.grownBy w1 u15.ownBlock := grown_up hgrow
            have hat2 : (Value.slice (some ⟨g, 0, none⟩) (i + 1) cap).ownBlock = u15.ownBlock ∨ ∃ b, (Value.slice (some ⟨g, 0, none⟩) (i + 1) cap).ownBlock = some b ∧ wB.heap.size ≤ b := by
              rcases hat with h | h
              · exact .inl h.symm
              · exact .inr ⟨g, rfl, by omega⟩
            go_wp2
            go_roundw
            case rel =>
              refine ⟨i + 1, by omega, by go_num, ⟨R_other H13.out hgw D2.out⟩, ⟨R_other H14.out hgw D3.out⟩, ⟨?_⟩, ⟨R_other HR8.out hgw D6.out⟩, D1, ⟨(apart_step D2.out.symm (Kd.R_lt H13.out) hat2).symm⟩, ⟨(apart_step D3.out.symm (Kd.R_lt H14.out) hat2).symm⟩, D4, D5, ⟨(apart_step D6.out.symm (Kd.R_lt HR8.out) hat2).symm⟩, ⟨Below.grown HB.out hgw HB.out.size (fun k hk => Kd.R_base H15.out k hk)⟩⟩
              rw [HXY.out] at hown1
              exact Kd.R_of_own (enc := Value.int .i64) (h1 := fun _ => rfl) (ok := fun _ => True) (xs := bothL p s (i + 1)) (by rw [bothL_length]; exact hown1) (fun _ _ => trivial)
            case measure => simp [intOf]; omega
          · obtain rfl : N = i := by omega
            obtain ⟨AO, cO, hvO, hlO, CO0⟩ := Kd.R_reads H13.out
            obtain ⟨AT, cT, hvT, hlT, CT0⟩ := Kd.R_reads H14.out
            obtain ⟨AB, cB, hvB, hlB, CB0⟩ := Kd.R_reads H15.out
            rw [powL_length] at hvO hlO CO0 hvT hlT CT0
            rw [bothL_length] at hvB hlB CB0
            subst hvO
            subst hvT
            subst hvB
            have CO := Aside0.mk CO0
            have CT := Aside0.mk CT0
            have CB := Aside0.mk CB0
            have CE : Aside0 ((Kd.int .i64).C wr Al z (maskL e)) := ⟨by obtain ⟨h1, _, h3⟩ := Kd.R_reads' HR8.out; rw [← HLE.out]; exact h3⟩
            obtain ⟨M, hM⟩ : ∃ M, (maskL e).length - 2 = M := ⟨_, rfl⟩
            have HM := Aside0.mk hM
            have hzM : z - 2 = M := by rw [← HLE.out]; exact hM
            have hmax : (if (z : Int) - 2 < 0 then (0 : Int) else (z : Int) - 2) = (M : Int) := by split <;> omega
            have LX : Aside0 ((bandsL (powL p N) (maskL e)).length = M) := ⟨by rw [bandsL_length, hM]⟩
            have LY : Aside0 ((bandsL (powL s N) (maskL e)).length = M) := ⟨by rw [bandsL_length, hM]⟩
            have LZ : Aside0 ((bandsL (bothL p s N) (maskL e)).length = M) := ⟨by rw [bandsL_length, hM]⟩
            have ST0 : True := trivial
            clear CO0 CT0 CB0 H13 H14 H15 HR8 D1 D2 D3 D4 D5 D6 hM hlt hi HCP HCB HQ0 HQ1
            go_wp2_with (first
              | (go_at_call 17; clear ST0; (with_reducible refine (bands_d (w0 := w) AO Al N cO z cl M (powL p N) (maskL e) _ HB.out (powL_length _ _) CO.out (by omega) HLE.out CE.out (by omega) LX.out).mono ?_); rintro e_ wk0 ⟨AX, cX, rfl, lX, CX, HBm, Sm⟩; have HBn := HBm; clear HB; have HB := HBn; clear HBn HBm; have Cn := Aside0.mk (Kd.C_below (d := Kd.int .i64) (A := Al) (n := z) (xs := (maskL e)) CE.out Sm.out); clear CE; have CE := Cn; clear Cn; have Cn := Aside0.mk (Kd.C_below (d := Kd.int .i64) (A := AT) (n := N) (xs := (powL s N)) CT.out Sm.out); clear CT; have CT := Cn; clear Cn; have Cn := Aside0.mk (Kd.C_below (d := Kd.int .i64) (A := AB) (n := N) (xs := (bothL p s N)) CB.out Sm.out); clear CB; have CB := Cn; clear Cn; clear Sm; have ST1 : True := trivial)
              | (go_at_call 17; clear ST1; (with_reducible refine (bands_d (w0 := w) AT Al N cT z cl M (powL s N) (maskL e) _ HB.out (powL_length _ _) CT.out (by omega) HLE.out CE.out (by omega) LY.out).mono ?_); rintro e_ wk1 ⟨AY, cY, rfl, lY, CY, HBm, Sm⟩; have HBn := HBm; clear HB; have HB := HBn; clear HBn HBm; have Cn := Aside0.mk (Kd.C_below (d := Kd.int .i64) (A := Al) (n := z) (xs := (maskL e)) CE.out Sm.out); clear CE; have CE := Cn; clear Cn; have Cn := Aside0.mk (Kd.C_below (d := Kd.int .i64) (A := AB) (n := N) (xs := (bothL p s N)) CB.out Sm.out); clear CB; have CB := Cn; clear Cn; have Cn := Aside0.mk (Kd.C_below (d := Kd.int .i64) (A := AX) (n := M) (xs := (bandsL (powL p N) (maskL e))) CX.out Sm.out); clear CX; have CX := Cn; clear Cn; clear Sm; have ST2 : True := trivial)
              | (go_at_call 17; clear ST2; (with_reducible refine (bands_d (w0 := w) AB Al N cB z cl M (bothL p s N) (maskL e) _ HB.out (bothL_length _ _ _) CB.out (by omega) HLE.out CE.out (by omega) LZ.out).mono ?_); rintro e_ wk2 ⟨AZ, cZ, rfl, lZ, CZ, HBm, Sm⟩; have HBn := HBm; clear HB; have HB := HBn; clear HBn HBm; have Cn := Aside0.mk (Kd.C_below (d := Kd.int .i64) (A := Al) (n := z) (xs := (maskL e)) CE.out Sm.out); clear CE; have CE := Cn; clear Cn; have Cn := Aside0.mk (Kd.C_below (d := Kd.int .i64) (A := AX) (n := M) (xs := (bandsL (powL p N) (maskL e))) CX.out Sm.out); clear CX; have CX := Cn; clear Cn; have Cn := Aside0.mk (Kd.C_below (d := Kd.int .i64) (A := AY) (n := M) (xs := (bandsL (powL s N) (maskL e))) CY.out Sm.out); clear CY; have CY := Cn; clear Cn; clear Sm; have ST3 : True := trivial))
            obtain ⟨W3, hW3⟩ : ∃ W3, W3 = wk2 := ⟨_, rfl⟩
            subst hW3
            have B0 : Aside0 (Below W3.heap.size W3 W3) := ⟨Below.refl _ _⟩
            go_loopw [20] (fun v20 wr3 => ∃ (j : Nat), j ≤ M ∧ v20 = .int .i64 (j : Int) ∧ Aside0 (Below W3.heap.size W3 wr3) ∧ Aside0 (Below w.heap.size w wr3)) (fun v _ => M - (intOf v).toNat)
            case atStart => exact ⟨0, by omega, rfl, B0, HB⟩
            case round =>
              have HB3 := HB
              clear HB B0
              obtain ⟨j, hj, rfl, HW, HB⟩ := hrel
              by_cases hjt : j < M
              · have hX := Kd.C_below CX.out HW.out
                have hY := Kd.C_below CY.out HW.out
                have hZ := Kd.C_below CZ.out HW.out
                obtain ⟨aX, rfl, hc1⟩ := b_ad hX (by omega)
                obtain ⟨aY, rfl, hc2⟩ := b_ad hY (by omega)
                obtain ⟨aZ, rfl, hc3⟩ := b_ad hZ (by omega)
                have k0 := b_cell hX j hjt
                have k1 := b_cell hY j hjt
                have k2 := b_cell hZ j hjt
                have hs := sums_eq p s (maskL e) HPIN.out HSIN.out N j (by omega) (by rw [HLE.out]; omega)
                obtain ⟨ax, hax⟩ : ∃ x, (bandsL (powL p N) (maskL e)).getD j 0 = x := ⟨_, rfl⟩
                obtain ⟨ay, hay⟩ : ∃ x, (bandsL (powL s N) (maskL e)).getD j 0 = x := ⟨_, rfl⟩
                obtain ⟨az, haz⟩ : ∃ x, (bandsL (bothL p s N) (maskL e)).getD j 0 = x := ⟨_, rfl⟩
                rw [hax] at k0 hs
                rw [hay] at k1 hs
                rw [haz] at k2 hs
                have hs2 : IntKind.i64.wrap (ax + ay) = az := by rw [IntKind.wrap_i64, ← hs, wrap64]
                have j0 : (0 : Int) ≤ (j : Int) := by omega
                have j1 : (j : Int) < (M : Int) := by omega
                clear hX hY hZ hc1 hc2 hc3 hax hay haz
                go_wp2
                go_quiet (fail)
                go_wp2
                obtain ⟨q8, hq8⟩ : ∃ q8, min N 8 = q8 := ⟨_, rfl⟩
                clear k0 k1 k2 hs hs2
                go_loopw [21] (fun v21 wr4 => ∃ (k : Nat), k ≤ q8 ∧ v21 = .int .i64 (k : Int) ∧ Aside0 (Below W3.heap.size W3 wr4) ∧ Aside0 (Below w.heap.size w wr4)) (fun v _ => q8 - (intOf v).toNat)
                case atStart => exact ⟨0, by omega, rfl, ⟨by repeat (first | exact HW.out | apply pw_below_drewN | apply below_drew1)⟩, ⟨by repeat (first | exact HB.out | apply pw_below_drewN | apply below_drew1)⟩⟩
                case round =>
                  clear HW HB
                  obtain ⟨k, hk, rfl, HW, HB⟩ := hrel
                  by_cases hkt : k < q8
                  · have kN : k < N := by omega
                    have k8 : k < 8 := by omega
                    have hE := Kd.C_below CE.out HW.out
                    obtain ⟨aE, rfl, hc1⟩ := b_ad hE (by omega)
                    have HE3 := Aside0.mk hE
                    have hmk := print_make 25 3 .i64 8 Try.underlying25 turn_info (by decide) N (by omega)
                    have hown := own_made wr w.heap.size 3 .i64 N HB.out.size (by omega)
                    have hst := own_store hown (k : Int) 256
                    rw [Int.toNat_natCast] at hst
                    obtain ⟨⟨yy, hcz⟩, hfz⟩ := own_free hown k kN
                    have hRA := Kd.R_of_own (enc := Value.int .i64) (h1 := fun _ => rfl) (ok := fun _ => True) (xs := aloneL N k) (by rw [aloneL_length]; exact hst.1) (fun _ _ => trivial)
                    have CA : Aside0 ((Kd.int .i64).C ((wr.alloc (.cells (madeCells #[.int .i64 0] N) 3)).setCell ⟨wr.heap.size, k, none⟩ (.int .i64 256)) (some ⟨wr.heap.size, 0, none⟩) N (aloneL N k)) := ⟨by
                      have h := (Kd.R_reads' hRA).2.2
                      rw [aloneL_length] at h; exact h⟩
                    have HBA : Aside0 (Below w.heap.size w ((wr.alloc (.cells (madeCells #[.int .i64 0] N) 3)).setCell ⟨wr.heap.size, k, none⟩ (.int .i64 256))) := ⟨Below.setCell (below_alloc HB.out _) HB.out.size _⟩
                    have HWA : Aside0 (Below W3.heap.size W3 ((wr.alloc (.cells (madeCells #[.int .i64 0] N) 3)).setCell ⟨wr.heap.size, k, none⟩ (.int .i64 256))) := ⟨Below.setCell (below_alloc HW.out _) HW.out.size _⟩
                    have CEA : Aside0 ((Kd.int .i64).C ((wr.alloc (.cells (madeCells #[.int .i64 0] N) 3)).setCell ⟨wr.heap.size, k, none⟩ (.int .i64 256)) (some aE) z (maskL e)) := ⟨Kd.C_below CE.out HWA.out⟩
                    have LA : Aside0 ((bandsL (aloneL N k) (maskL e)).length = M) := ⟨by rw [bandsL_length, HM.out]⟩
                    rw [alloc_set] at CA HBA HWA CEA
                    clear hE hc1 hown hst hRA
                    go_wp2_with (go_at_call 17; (with_reducible refine (bands_d (w0 := w) (some ⟨wr.heap.size, 0, none⟩) (some aE) N N z cl M (aloneL N k) (maskL e) _ HBA.out (aloneL_length _ _) CA.out (by omega) HLE.out CEA.out (by omega) LA.out).mono ?_); rintro e_ wQ ⟨AQ, cQ, rfl, lQ, CQ, HBQ, SmQ⟩)
                    have HWQ := Aside0.mk (below_step HWA.out SmQ.out)
                    have hE := Kd.C_below CE.out HWQ.out
                    obtain ⟨aQ, rfl, hc2⟩ := b_ad CQ.out (by omega)
                    have k3 := b_cell CQ.out j hjt
                    have k0 := b_cell hE j (by omega)
                    have k1 := b_cell hE (j + 1) (by omega)
                    have k2 := b_cell hE (j + 2) (by omega)
                    rw [show aE.add (j + 1) = ⟨aE.block, aE.off + (j + 1), none⟩ by simp [Addr.add]] at k1
                    rw [show aE.add (j + 2) = ⟨aE.block, aE.off + (j + 2), none⟩ by simp [Addr.add]] at k2
                    have hal := alone_eq (maskL e) N k j (by omega) kN (by rw [HLE.out]; omega)
                    obtain ⟨a, ha⟩ : ∃ a, (maskL e).getD j 0 = a := ⟨_, rfl⟩
                    obtain ⟨b, hb⟩ : ∃ b, (maskL e).getD (j + 1) 0 = b := ⟨_, rfl⟩
                    obtain ⟨d, hd⟩ : ∃ d, (maskL e).getD (j + 2) 0 = d := ⟨_, rfl⟩
                    obtain ⟨q, hq⟩ : ∃ q, (bandsL (aloneL N k) (maskL e)).getD j 0 = q := ⟨_, rfl⟩
                    rw [ha] at k0 hal
                    rw [hb] at k1 hal
                    rw [hd] at k2 hal
                    rw [hq] at k3 hal
                    have HAL := Aside0.mk hal.symm
                    have j2 : (0 : Int) ≤ (j : Int) + 1 := by omega
                    have j3 : (j : Int) + 1 < (z : Int) := by omega
                    have j4 : (0 : Int) ≤ (j : Int) + 2 := by omega
                    have j5 : (j : Int) + 2 < (z : Int) := by omega
                    have j6 : (j : Int) < (z : Int) := by omega
                    have i1 : ((j : Int) + 1).toNat = j + 1 := by omega
                    have i2 : ((j : Int) + 2).toNat = j + 2 := by omega
                    have i3 : IntKind.i64.wrap ((j : Int) + 1) = (j : Int) + 1 := by rw [IntKind.wrap_i64]; omega
                    have i4 : IntKind.i64.wrap ((j : Int) + 2) = (j : Int) + 2 := by rw [IntKind.wrap_i64]; omega
                    clear hE hc2 ha hb hd hq hal hcz hfz
                    go_quiet (first | (go_at_call 14; exact quiet_d (weight_q _ _ _ _ _ _ HAL.out)))
                    go_wp2
                    go_roundw
                    case rel => exact ⟨k + 1, by omega, by go_num, ⟨by repeat (first | exact HWQ.out | apply pw_below_drewN | apply below_drew1)⟩, ⟨by repeat (first | exact HBQ.out | apply pw_below_drewN | apply below_drew1)⟩⟩
                    case measure => simp [intOf]; omega
                  · obtain rfl : q8 = k := by omega
                    have hex8 : decide (q8 < N) = false ∧ decide ((q8 : Int) < (N : Int)) = false ∨ decide (q8 < N) = true ∧ decide ((q8 : Int) < (N : Int)) = true ∧ decide (q8 < 8) = false ∧ decide ((q8 : Int) < 8) = false := by
                      simp only [decide_eq_true_eq, decide_eq_false_iff_not]; omega
                    clear hkt hk hq8
                    rcases hex8 with ⟨r1, r2⟩ | ⟨r1, r2, r3, r4⟩
                    all_goals
                      go_wp2
                      go_roundw
                      case rel => exact ⟨j + 1, by omega, by go_num, HW, HB⟩
                      case measure => simp [intOf]; omega
              · obtain rfl : M = j := by omega
                go_wp2
                go_ret
                exact ⟨rfl, HB.out⟩
theorem earshotlaw11_MelSums.calls (A0 : Option Addr) (c0 : Nat) (l0 : List Int) (A1 : Option Addr) (c1 : Nat) (l1 : List Int) (A2 : Option Addr) (c2 : Nat) (l2 : List Int) (r : Bool) (w : World) (hr0 : Kd.C (Kd.int .i64) w A0 l0.length l0) (hc0 : l0.length ≤ c0) (hr1 : Kd.C (Kd.int .i64) w A1 l1.length l1) (hc1 : l1.length ≤ c1) (hr2 : Kd.C (Kd.int .i64) w A2 l2.length l2) (hc2 : l2.length ≤ c2) (h : earshotlaw11_MelSums.f l0 l1 l2 = some r) :
    Calls Try.prog 7 #[.slice A0 l0.length c0, .slice A1 l1.length c1, .slice A2 l2.length c2] w fun e w' => e = .returned (.bool r) ∧ Below w.heap.size w w' := by
  unfold earshotlaw11_MelSums.f at h
  split at h
  case isFalse => cases h
  rename_i hz
  obtain rfl := Option.some.inj h
  simp only [Bool.and_eq_true, decide_eq_true_eq, List.all_eq_true] at hz
  have hT := Kd.C_take hr0 (m := min 66 l0.length) (by omega)
  have e : (l0.take (min 66 l0.length)).length = min 66 l0.length := by rw [List.length_take]; omega
  rw [e] at hT
  have hT1 := Kd.C_take hr1 (m := min 66 l1.length) (by omega)
  have e1 : (l1.take (min 66 l1.length)).length = min 66 l1.length := by rw [List.length_take]; omega
  rw [e1] at hT1
  exact sums_go A0 A1 A2 l0.length c0 l1.length c1 _ c2 _ _ _ _ l2 w rfl rfl e hT hc0 (fun x hx => hz.1.1.1.2 x (List.mem_of_mem_take hx)) e1 hT1 hc1 (fun x hx => hz.1.2 x (List.mem_of_mem_take hx)) rfl hr2 hc2 hz.2 hz.1.1.1.1 hz.1.1.2

/-- THE ONE PURE STATEMENT of earshotlaw11_MelSums: yours. -/
def earshotlaw11_MelSums.Pure : Prop := ∀ (l0 : List Int) (l1 : List Int) (l2 : List Int), l0.length ≤ maxLen → l0.length * 8 ≤ 140737488351232 → (∀ x ∈ l0, (Lit.int .i64 x).wf = true) → l1.length ≤ maxLen → l1.length * 8 ≤ 140737488351232 → (∀ x ∈ l1, (Lit.int .i64 x).wf = true) → l2.length ≤ maxLen → l2.length * 8 ≤ 140737488351232 → (∀ x ∈ l2, (Lit.int .i64 x).wf = true) → earshotlaw11_MelSums.f l0 l1 l2 = some true
theorem earshotlaw11_MelSums.walk (P : earshotlaw11_MelSums.Pure) (a0 : Option Addr) (len0 cap0 : Nat) (z0 : List Int) (a1 : Option Addr) (len1 cap1 : Nat) (z1 : List Int) (a2 : Option Addr) (len2 cap2 : Nat) (z2 : List Int) (w : World) (w0 : (a0 = none ∧ len0 = 0 ∧ cap0 = 0 ∧ z0 = []) ∨ ∃ x, a0 = some x ∧ len0 ≤ cap0 ∧ cap0 ≤ maxLen ∧ z0.length = cap0 ∧ (∀ i, i < z0.length → w.cell? (x.add i) = some (.int .i64 (z0.getD i 0))) ∧ ∀ n ∈ z0, (Lit.int .i64 n).wf = true) (y0 : len0 * 8 ≤ 140737488351232) (w1 : (a1 = none ∧ len1 = 0 ∧ cap1 = 0 ∧ z1 = []) ∨ ∃ x, a1 = some x ∧ len1 ≤ cap1 ∧ cap1 ≤ maxLen ∧ z1.length = cap1 ∧ (∀ i, i < z1.length → w.cell? (x.add i) = some (.int .i64 (z1.getD i 0))) ∧ ∀ n ∈ z1, (Lit.int .i64 n).wf = true) (y1 : len1 * 8 ≤ 140737488351232) (w2 : (a2 = none ∧ len2 = 0 ∧ cap2 = 0 ∧ z2 = []) ∨ ∃ x, a2 = some x ∧ len2 ≤ cap2 ∧ cap2 ≤ maxLen ∧ z2.length = cap2 ∧ (∀ i, i < z2.length → w.cell? (x.add i) = some (.int .i64 (z2.getD i 0))) ∧ ∀ n ∈ z2, (Lit.int .i64 n).wf = true) (y2 : len2 * 8 ≤ 140737488351232) :
    Calls Try.prog 7 #[.slice a0 len0 cap0, .slice a1 len1 cap1, .slice a2 len2 cap2] w fun e w' => e = .returned (.bool true) ∧ Below w.heap.size w w' := by
  obtain ⟨l0, rfl, hr0, hm0, hw0, hc0⟩ := ReadsInt.ofRowC w0
  obtain ⟨l1, rfl, hr1, hm1, hw1, hc1⟩ := ReadsInt.ofRowC w1
  obtain ⟨l2, rfl, hr2, hm2, hw2, hc2⟩ := ReadsInt.ofRowC w2
  have h := P l0 l1 l2 hm0 y0 hw0 hm1 y1 hw1 hm2 y2 hw2
  refine (earshotlaw11_MelSums.calls _ _ l0 _ _ l1 _ _ l2 true w (Kd.C_of_reads (d := (0 : Int)) (h1 := fun _ => rfl) hr0) hc0 (Kd.C_of_reads (d := (0 : Int)) (h1 := fun _ => rfl) hr1) hc1 (Kd.C_of_reads (d := (0 : Int)) (h1 := fun _ => rfl) hr2) hc2 h).mono ?_
  rintro e w' ⟨rfl, hd⟩
  exact ⟨rfl, hd⟩

end Go.Proofs.Ytohmecfjpmapnaa.PMelSums
