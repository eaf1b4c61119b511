-- Written by a program of this work (wip/tools) for this claim; Lean checks it.
import Derived.Test.YtmhacdnnnebpdaaDoorPDctTurnedx0
import Derived.Test.YtmhacdnnnebpdaaDoorPDctTurnedx1
import Derived.Test.YtmhacdnnnebpdaaDoorPDctTurnedx2
import Derived.Test.YtmhacdnnnebpdaaDoorPDctTurnedx3
namespace Go.Proofs.YtmhacdnnnebpdaaDoor.PDctTurned
open Go.RowKit Go.Proofs.YtmhacdnnnebpdaaDoorW.PrintWords Go.Proofs.YtmhacdnnnebpdaaDoorW.PrintLast Go.Proofs.YtmhacdnnnebpdaaDoorW.PrintMore
attribute [local go_sem] max2_int min2_int max_two min_two max_three min_three max_four min_four   -- for this text's walks alone
set_option linter.unusedVariables false
set_option linter.unusedSimpArgs false

/-! ### earshotlaw12_DctTurned: function 7 -/
-- PURE intro l0 l1 a _ h8 hw _ h81 hw1 ha; unfold earshotlaw12_DctTurned.f; rw [if_pos]; simp only [Bool.and_eq_true, decide_eq_true_eq, List.all_eq_true]; exact ⟨⟨⟨by omega, fun x hx => wf_i64 (hw x hx)⟩, by omega⟩, fun x hx => wf_i64 (hw1 x hx)⟩





theorem dS_S (c x : List Int) : ∀ n, dS c x n = wrap64 (S n (fun j => c.getD j 0 * x.getD j 0))
  | 0 => (W_in (a := 0) (by decide) (by decide)).symm
  | n + 1 => by rw [dS, dS_S c x n, W_W_add, W_add_W]; rfl
def rowSum (k n : Nat) : Int := S n (fun j => (dctRow k n).getD j 0)
theorem rsum4 : ∀ k : Fin 4, rowSum k.1 4 = if k.1 = 0 then 65536 else 0 := by decide +kernel
theorem rsum8 : ∀ k : Fin 8, rowSum k.1 8 = if k.1 = 0 then 131072 else 0 := by decide +kernel
theorem rsum16 : ∀ k : Fin 16, rowSum k.1 16 = if k.1 = 0 then 262144 else 0 := by decide +kernel
theorem rsum {k n : Nat} (hm : mayB n = true) (hk : k < n) : rowSum k n = if k = 0 then (n : Int) * 16384 else 0 := by
  rcases mayB_cases hm with rfl | rfl | rfl
  · exact rsum4 ⟨k, hk⟩
  · exact rsum8 ⟨k, hk⟩
  · exact rsum16 ⟨k, hk⟩
theorem divR_14' (x : Int) : divR x 16384 = (x + 8192) / 16384 := by
  unfold divR
  rw [if_neg (by decide)]
  split <;> omega

/-! ### Coefficients of numbers turned round, and of sums -/
def rowT (N : Nat) (f : Nat → Int) : List Int := (List.range N).map f
theorem rowT_length (N : Nat) (f : Nat → Int) : (rowT N f).length = N := by simp [rowT]
theorem rowT_getD (N : Nat) (f : Nat → Int) (i : Nat) (hi : i < N) : (rowT N f).getD i 0 = f i := getD_map_range N f i hi
theorem dctRow_sym {N : Nat} (hm : mayB N = true) (k m : Nat) (hk : k < N) (hk2 : m < N) :
    (k % 2 = 0 → (dctRow k N).getD (N - 1 - m) 0 = (dctRow k N).getD m 0) ∧ (k % 2 = 1 → (dctRow k N).getD (N - 1 - m) 0 = -(dctRow k N).getD m 0) ∧ -16384 ≤ (dctRow k N).getD m 0 ∧ (dctRow k N).getD m 0 ≤ 16384 := by
  have h4 : ∀ k m : Fin 4, (k.1 % 2 = 0 → (dctRow k.1 4).getD (4 - 1 - m.1) 0 = (dctRow k.1 4).getD m.1 0) ∧ (k.1 % 2 = 1 → (dctRow k.1 4).getD (4 - 1 - m.1) 0 = -(dctRow k.1 4).getD m.1 0) ∧ -16384 ≤ (dctRow k.1 4).getD m.1 0 ∧ (dctRow k.1 4).getD m.1 0 ≤ 16384 := by decide +kernel
  have h8 : ∀ k m : Fin 8, (k.1 % 2 = 0 → (dctRow k.1 8).getD (8 - 1 - m.1) 0 = (dctRow k.1 8).getD m.1 0) ∧ (k.1 % 2 = 1 → (dctRow k.1 8).getD (8 - 1 - m.1) 0 = -(dctRow k.1 8).getD m.1 0) ∧ -16384 ≤ (dctRow k.1 8).getD m.1 0 ∧ (dctRow k.1 8).getD m.1 0 ≤ 16384 := by decide +kernel
  have h16 : ∀ k m : Fin 16, (k.1 % 2 = 0 → (dctRow k.1 16).getD (16 - 1 - m.1) 0 = (dctRow k.1 16).getD m.1 0) ∧ (k.1 % 2 = 1 → (dctRow k.1 16).getD (16 - 1 - m.1) 0 = -(dctRow k.1 16).getD m.1 0) ∧ -16384 ≤ (dctRow k.1 16).getD m.1 0 ∧ (dctRow k.1 16).getD m.1 0 ≤ 16384 := by decide +kernel
  rcases mayB_cases hm with rfl | rfl | rfl
  · exact h4 ⟨k, hk⟩ ⟨m, hk2⟩
  · exact h8 ⟨k, hk⟩ ⟨m, hk2⟩
  · exact h16 ⟨k, hk⟩ ⟨m, hk2⟩
theorem mul_small' {a b : Int} (ha : -16384 ≤ a ∧ a ≤ 16384) (hb : -1099511627776 ≤ b ∧ b ≤ 1099511627776) : -18014398509481984 ≤ a * b ∧ a * b ≤ 18014398509481984 := by
  have h : (a * b).natAbs ≤ 16384 * 1099511627776 := by rw [Int.natAbs_mul]; exact Nat.mul_le_mul (by omega) (by omega)
  omega
/-- What is rounded. -/
def dctS (k N : Nat) (f : Nat → Int) : Int := S N (fun j => (dctRow k N).getD j 0 * f j)
theorem dctS_small {N : Nat} (hm : mayB N = true) (k : Nat) (hk : k < N) (f : Nat → Int) (hf : ∀ j, j < N → -1099511627776 ≤ f j ∧ f j ≤ 1099511627776) : -288230376151711744 ≤ dctS k N f ∧ dctS k N f ≤ 288230376151711744 := by
  have hN : N ≤ 16 := by rcases mayB_cases hm with rfl | rfl | rfl <;> omega
  have h := S_bound (n := N) (g := fun j => (dctRow k N).getD j 0 * f j) (b := 18014398509481984) (fun i hi => mul_small' (dctRow_sym hm k i hk hi).2.2 (hf i hi))
  show -288230376151711744 ≤ S N (fun j => (dctRow k N).getD j 0 * f j) ∧ S N (fun j => (dctRow k N).getD j 0 * f j) ≤ 288230376151711744
  omega
theorem dctV_row {N : Nat} (hm : mayB N = true) (k : Nat) (hk : k < N) (f : Nat → Int) (hf : ∀ j, j < N → -1099511627776 ≤ f j ∧ f j ≤ 1099511627776) : dctV (rowT N f) k = (dctS k N f + 8192) / 16384 := by
  obtain ⟨h0, h1⟩ := dctS_small hm k hk f hf
  unfold dctV
  rw [rowT_length, dS_S, divR_14']
  have e : S N (fun j => (dctRow k N).getD j 0 * (rowT N f).getD j 0) = dctS k N f := S_congr (fun i hi => by rw [rowT_getD N f i hi])
  rw [e, W_in (by omega) (by omega)]
theorem dctS_back {N : Nat} (hm : mayB N = true) (k : Nat) (hk : k < N) (f : Nat → Int) : (k % 2 = 0 → dctS k N (fun i => f (N - 1 - i)) = dctS k N f) ∧ (k % 2 = 1 → dctS k N (fun i => f (N - 1 - i)) = -dctS k N f) := by
  have e : dctS k N (fun i => f (N - 1 - i)) = S N (fun i => (dctRow k N).getD (N - 1 - i) 0 * f i) := by
    unfold dctS
    rw [S_rev]
    exact S_congr (fun i hi => by show (dctRow k N).getD (N - 1 - i) 0 * f (N - 1 - (N - 1 - i)) = _; rw [show N - 1 - (N - 1 - i) = i by omega])
  rw [e]
  constructor
  · intro h2
    exact S_congr (fun i hi => by rw [(dctRow_sym hm k i hk hi).1 h2])
  · intro h2
    unfold dctS
    rw [← S_neg]
    exact S_congr (fun i hi => by rw [(dctRow_sym hm k i hk hi).2.1 h2, Int.neg_mul])
theorem dctS_exact (k N : Nat) (f : Nat → Int) : dctS k N (fun i => f i * 16384) = 16384 * dctS k N f := by
  unfold dctS
  rw [← S_mul]
  exact S_congr (fun i _ => by show (dctRow k N).getD i 0 * (f i * 16384) = 16384 * ((dctRow k N).getD i 0 * f i); rw [← Int.mul_assoc, Int.mul_comm])
theorem dctS_add (k N : Nat) (f g : Nat → Int) : dctS k N (fun i => f i + g i) = dctS k N f + dctS k N g := by
  unfold dctS
  rw [← S_add]
  exact S_congr (fun i _ => by rw [Int.mul_add])
theorem quot_small {s : Int} (h : -288230376151711744 ≤ s ∧ s ≤ 288230376151711744) : -17592186044417 ≤ (s + 8192) / 16384 ∧ (s + 8192) / 16384 ≤ 17592186044417 := by omega
/-- Of the rows v (40 bits), v turned round, one, two, and both: what the coefficients answer. -/
theorem turned_all {N : Nat} (hm : mayB N = true) (f g : Nat → Int) (hf : ∀ j, j < N → -549755813888 ≤ f j ∧ f j ≤ 549755813887) (hg : ∀ j, j < N → -33554432 ≤ g j ∧ g j ≤ 33554431) (k : Nat) (hk : k < N) (a b x y z : Int)
    (ha : dctV (rowT N f) k = a) (hb : dctV (rowT N (fun i => f (N - 1 - i))) k = b) (hx : dctV (rowT N (fun i => f i / 16384 * 16384)) k = x) (hy : dctV (rowT N (fun i => g i * 16384)) k = y) (hz : dctV (rowT N (fun i => f i / 16384 * 16384 + g i * 16384)) k = z) :
    (k % 2 = 0 → a = b) ∧ (k % 2 = 1 → a + b = 0 ∨ a + b = 1) ∧ x + y = z ∧ (-17592186044417 ≤ a ∧ a ≤ 17592186044417) ∧ (-17592186044417 ≤ b ∧ b ≤ 17592186044417) ∧ (-17592186044417 ≤ x ∧ x ≤ 17592186044417) ∧ (-17592186044417 ≤ y ∧ y ≤ 17592186044417) := by
  have bf : ∀ j, j < N → -1099511627776 ≤ f j ∧ f j ≤ 1099511627776 := fun j hj => by have := hf j hj; omega
  have bb : ∀ j, j < N → -1099511627776 ≤ f (N - 1 - j) ∧ f (N - 1 - j) ≤ 1099511627776 := fun j hj => by have := hf (N - 1 - j) (by omega); omega
  have b1 : ∀ j, j < N → -549755813888 ≤ f j / 16384 * 16384 ∧ f j / 16384 * 16384 ≤ 549755813888 := fun j hj => by have := hf j hj; omega
  have b2 : ∀ j, j < N → -549755813888 ≤ g j * 16384 ∧ g j * 16384 ≤ 549755813888 := fun j hj => by have := hg j hj; omega
  have c1 : ∀ j, j < N → -1099511627776 ≤ f j / 16384 * 16384 ∧ f j / 16384 * 16384 ≤ 1099511627776 := fun j hj => by have := b1 j hj; omega
  have c2 : ∀ j, j < N → -1099511627776 ≤ g j * 16384 ∧ g j * 16384 ≤ 1099511627776 := fun j hj => by have := b2 j hj; omega
  have c3 : ∀ j, j < N → -1099511627776 ≤ f j / 16384 * 16384 + g j * 16384 ∧ f j / 16384 * 16384 + g j * 16384 ≤ 1099511627776 := fun j hj => by have := b1 j hj; have := b2 j hj; omega
  rw [dctV_row hm k hk _ bf] at ha
  rw [dctV_row hm k hk _ bb] at hb
  rw [dctV_row hm k hk _ c1] at hx
  rw [dctV_row hm k hk _ c2] at hy
  rw [dctV_row hm k hk _ c3] at hz
  have s1 := dctS_small hm k hk _ bf
  have s2 := dctS_small hm k hk _ bb
  have s3 := dctS_small hm k hk _ c1
  have s4 := dctS_small hm k hk _ c2
  obtain ⟨d1, d2⟩ := dctS_back hm k hk f
  have d3 := dctS_exact k N (fun i => f i / 16384)
  have d4 := dctS_exact k N g
  have d5 := dctS_add k N (fun i => f i / 16384 * 16384) (fun i => g i * 16384)
  generalize dctS k N f = p1 at *
  generalize dctS k N (fun i => f (N - 1 - i)) = p2 at *
  generalize dctS k N (fun i => f i / 16384 * 16384) = p3 at *
  generalize dctS k N (fun i => g i * 16384) = p4 at *
  generalize dctS k N (fun i => f i / 16384 * 16384 + g i * 16384) = p5 at *
  generalize dctS k N (fun i => f i / 16384) = q1 at *
  generalize dctS k N g = q2 at *
  clear bf bb b1 b2 c1 c2 c3 hf hg
  refine ⟨fun h => ?_, fun h => ?_, by omega, by omega, by omega, by omega, by omega⟩
  · have := d1 h; omega
  · have := d2 h; omega

def earshotlaw12_DctTurned.f (l0 l1 : List Int) (a2 : Int) : Option (Bool) := if decide (l0.length ≤ 4000000000000000000) && l0.all (fun x => decide (-9223372036854775808 ≤ x) && decide (x ≤ 9223372036854775807)) && decide (l1.length ≤ 4000000000000000000) && l1.all (fun x => decide (-9223372036854775808 ≤ x) && decide (x ≤ 9223372036854775807)) then some true else none
theorem in64_atT {l : List Int} (h : In64 l) (i : Nat) : -9223372036854775808 ≤ l.getD i 0 ∧ l.getD i 0 ≤ 9223372036854775807 := by
  rw [← h.getD i]; exact ⟨W_lo _, W_hi _⟩
theorem sizedL_inT {n : Nat} {l : List Int} (h : In64 l) : In64 (sizedL n l) := by
  intro x hx
  simp only [sizedL, List.mem_map] at hx
  obtain ⟨i, _, rfl⟩ := hx
  exact in64_atT h i
theorem own_of_RT {W : World} {base n : Nat} {v : Value} {xs : List Int} {ok : Nat → Prop} (h : (Kd.int .i64).R 3 W base ok v xs) (hl : xs.length = n) : W.ownsRow base 3 1 v n (nums .i64 xs) := by
  have := Kd.own_of_R h
  rw [hl] at this; exact this
theorem own_cellT {W : World} {b g h cap : Nat} {xs : List Int} (HO : W.ownsRow b 3 1 (.slice (some ⟨g, 0, none⟩) h cap) h (nums .i64 xs)) (q : Nat) (hq : q < h) : W.cell? ⟨g, q, none⟩ = some (.int .i64 (xs.getD q 0)) := by
  have := (own_at HO (q : Int) (by omega) (by omega)).1
  rw [Int.toNat_natCast] at this
  rw [this, rd, Int.toNat_natCast]
theorem own_CT {W : World} {b g n cap : Nat} {xs : List Int} (HO : W.ownsRow b 3 1 (.slice (some ⟨g, 0, none⟩) n cap) n (nums .i64 xs)) : (Kd.int .i64).C W (some ⟨g, 0, none⟩) n xs := by
  have hl : xs.length = n := by have := HO.1; simp [nums] at this; exact this
  subst hl
  have hR := Kd.R_of_own (enc := Value.int .i64) (h1 := fun _ => rfl) (ok := fun _ => True) (xs := xs) HO (fun _ _ => trivial)
  exact (Kd.R_reads' hR).2.2
theorem sized_o (A0 : Option Addr) (m c0 N : Nat) (l0 v : List Int) (a : Int) (W : World) (b : Nat) (hb : b ≤ W.heap.size) (hl : l0.length = m) (hC : (Kd.int .i64).C W A0 m l0) (hmc : m ≤ c0) (hm : m ≤ 4000000000000000000) (hN : sizeOf_ a = N) (hv : sizedL N l0 = v) (h0 : 0 < N) :
    Calls Tryd.prog 15 #[.slice A0 m c0, .int .i64 a] W fun e w' => ∃ g c, e = .returned (.slice (some ⟨g, 0, none⟩) N c) ∧ N ≤ c ∧ W.heap.size ≤ g ∧ g < w'.heap.size ∧ Aside0 (w'.ownsRow b 3 1 (.slice (some ⟨g, 0, none⟩) N c) N (nums .i64 v)) ∧ Aside0 (Below W.heap.size W w') := by
  subst hl
  refine (earshotlaw12_sized.calls A0 c0 l0 a _ W hC hmc (by unfold earshotlaw12_sized.f; rw [if_pos (by simpa using hm)])).mono ?_
  rintro e w' ⟨v0, rfl, hR, hB⟩
  rw [hN, hv] at hR
  have hvl : v.length = N := by rw [← hv, sizedL_length]
  obtain ⟨g, c, rfl, h1, h2, _⟩ := Kd.R_form hR (by omega)
  have h3 := (Kd.R_reads' hR).2.1
  have hbg := Kd.R_base hR g rfl
  rw [hvl] at h3 ⊢
  have ho := own_of_RT (Kd.R_lower hR hb) hvl
  rw [hvl] at ho
  exact ⟨g, c, rfl, h3, hbg, by have := own_cellT ho 0 h0; exact World.block_lt_of_cell? w' _ this, ⟨ho⟩, ⟨hB⟩⟩
theorem dct_x (n c1 : Nat) (A : Option Addr) (l : List Int) (w : World) (hG : GlobA w) (hl : l.length = n) (hC : (Kd.int .i64).C w A n l) (hm : mayB n = true) (h1 : 1 ≤ n) :
    Calls Tryd.prog 21 #[.int .i64 (n : Int), .slice A n c1] w fun e w' => ∃ B d, e = .returned (.slice B n d) ∧ n ≤ d ∧ Aside0 ((Kd.int .i64).C w' B n (dctL n l)) ∧ Aside0 (Below w.heap.size w w') := by
  refine (dct_yes n n c1 A l w hG hl hC hm h1 (Nat.le_refl _)).mono ?_
  rintro e w' ⟨v, rfl, hR, hb⟩
  have hL : (dctL n l).length = n := by simp [dctL]
  obtain ⟨B, d, rfl, h1, h2⟩ := Kd.R_reads hR
  rw [hL] at h1 h2 ⊢
  exact ⟨B, d, rfl, h1, ⟨h2⟩, ⟨hb⟩⟩
theorem sizeOf_mayT (a : Int) : mayB (sizeOf_ a) = true := by
  have m0 := Int.emod_nonneg a (show (3 : Int) ≠ 0 by decide)
  have m1 := Int.emod_lt_of_pos a (show (0 : Int) < 3 by decide)
  have h : a % 3 = 0 ∨ a % 3 = 1 ∨ a % 3 = 2 := by omega
  unfold sizeOf_
  rcases h with h | h | h <;> rw [h] <;> decide
theorem set_row {ys zs ts : List Int} {k n : Nat} {x : Int} (hy : ys.length = n) (hk : k < n) (hx : zs.getD k 0 = x) (h : ∀ j, j < n → ys.getD j 0 = if j < k then zs.getD j 0 else ts.getD j 0) (j : Nat) (hj : j < n) :
    (ys.set k x).getD j 0 = if j < k + 1 then zs.getD j 0 else ts.getD j 0 := by
  by_cases e : j = k
  · subst e
    rw [if_pos (by omega), hx, List.getD_eq_getElem?_getD, List.getElem?_set_self (by omega)]; rfl
  · have := h j hj
    rw [List.getD_eq_getElem?_getD] at this ⊢
    rw [List.getElem?_set_ne (fun h' => e h'.symm), this]
    by_cases h2 : j < k
    · rw [if_pos h2, if_pos (by omega)]
    · rw [if_neg h2, if_neg (by omega)]
def OwnT (W : World) (b g N c : Nat) (xs : List Int) : Prop := W.ownsRow b 3 1 (.slice (some ⟨g, 0, none⟩) N c) N (nums .i64 xs)
theorem OwnT.other {W : World} {b g N c : Nat} {xs : List Int} (h : OwnT W b g N c xs) (p k : Nat) (hne : p ≠ g) (x : Value) : OwnT (W.setCell ⟨p, k, none⟩ x) b g N c xs := own_setCell h (p := ⟨p, k, none⟩) (by simpa [Value.ownBlock] using hne) x
theorem OwnT.set {W : World} {b g N c : Nat} {xs : List Int} (h : OwnT W b g N c xs) (k : Nat) (x : Int) : OwnT (W.setCell ⟨g, k, none⟩ (.int .i64 x)) b g N c (xs.set k x) := by
  have := (own_store h (k : Int) x).1
  rw [Int.toNat_natCast] at this
  exact this
theorem OwnT.cell {W : World} {b g N c : Nat} {xs : List Int} (h : OwnT W b g N c xs) (k : Nat) (hk : k < N) {x : Int} (hx : xs.getD k 0 = x) : W.cell? ⟨g, k, none⟩ = some (.int .i64 x) := by rw [← hx]; exact own_cellT h k hk
theorem OwnT.free {W : World} {b g N c : Nat} {xs : List Int} (h : OwnT W b g N c xs) (k : Nat) (hk : k < N) : W.frozen? ⟨g, k, none⟩ = false := (own_free h k hk).2
theorem OwnT.drew {W : World} {b g N c : Nat} {xs : List Int} (h : OwnT W b g N c xs) (n : Nat) : OwnT (W.drewN n) b g N c xs := h
structure Six (W : World) (b N cv cu gv gu g0 : Nat) (xv xu x0 x1 x2 x3 : List Int) : Prop where
  v : OwnT W b gv N cv xv
  u : OwnT W b gu N cu xu
  a0 : OwnT W b g0 N N x0
  a1 : OwnT W b (g0 + 1) N N x1
  a2 : OwnT W b (g0 + 1 + 1) N N x2
  a3 : OwnT W b (g0 + 1 + 1 + 1) N N x3
section
variable {W : World} {b N cv cu gv gu g0 : Nat} {xv xu x0 x1 x2 x3 : List Int}
theorem Six.setV (h : Six W b N cv cu gv gu g0 xv xu x0 x1 x2 x3) (h1 : gv < gu) (h2 : gu < g0) (k : Nat) (x : Int) : Six (W.setCell ⟨gv, k, none⟩ (.int .i64 x)) b N cv cu gv gu g0 (xv.set k x) xu x0 x1 x2 x3 :=
  ⟨h.v.set k x, h.u.other _ _ (by omega) _, h.a0.other _ _ (by omega) _, h.a1.other _ _ (by omega) _, h.a2.other _ _ (by omega) _, h.a3.other _ _ (by omega) _⟩
theorem Six.set0 (h : Six W b N cv cu gv gu g0 xv xu x0 x1 x2 x3) (h1 : gv < gu) (h2 : gu < g0) (k : Nat) (x : Int) : Six (W.setCell ⟨g0, k, none⟩ (.int .i64 x)) b N cv cu gv gu g0 xv xu (x0.set k x) x1 x2 x3 :=
  ⟨h.v.other _ _ (by omega) _, h.u.other _ _ (by omega) _, h.a0.set k x, h.a1.other _ _ (by omega) _, h.a2.other _ _ (by omega) _, h.a3.other _ _ (by omega) _⟩
theorem Six.set1 (h : Six W b N cv cu gv gu g0 xv xu x0 x1 x2 x3) (h1 : gv < gu) (h2 : gu < g0) (k : Nat) (x : Int) : Six (W.setCell ⟨g0 + 1, k, none⟩ (.int .i64 x)) b N cv cu gv gu g0 xv xu x0 (x1.set k x) x2 x3 :=
  ⟨h.v.other _ _ (by omega) _, h.u.other _ _ (by omega) _, h.a0.other _ _ (by omega) _, h.a1.set k x, h.a2.other _ _ (by omega) _, h.a3.other _ _ (by omega) _⟩
theorem Six.set2 (h : Six W b N cv cu gv gu g0 xv xu x0 x1 x2 x3) (h1 : gv < gu) (h2 : gu < g0) (k : Nat) (x : Int) : Six (W.setCell ⟨g0 + 1 + 1, k, none⟩ (.int .i64 x)) b N cv cu gv gu g0 xv xu x0 x1 (x2.set k x) x3 :=
  ⟨h.v.other _ _ (by omega) _, h.u.other _ _ (by omega) _, h.a0.other _ _ (by omega) _, h.a1.other _ _ (by omega) _, h.a2.set k x, h.a3.other _ _ (by omega) _⟩
theorem Six.set3 (h : Six W b N cv cu gv gu g0 xv xu x0 x1 x2 x3) (h1 : gv < gu) (h2 : gu < g0) (k : Nat) (x : Int) : Six (W.setCell ⟨g0 + 1 + 1 + 1, k, none⟩ (.int .i64 x)) b N cv cu gv gu g0 xv xu x0 x1 x2 (x3.set k x) :=
  ⟨h.v.other _ _ (by omega) _, h.u.other _ _ (by omega) _, h.a0.other _ _ (by omega) _, h.a1.other _ _ (by omega) _, h.a2.other _ _ (by omega) _, h.a3.set k x⟩
end
theorem six_made {W : World} {b N cv cu gv gu : Nat} {xv xu : List Int} (hv : OwnT W b gv N cv xv) (hu : OwnT W b gu N cu xu) (hb : b ≤ W.heap.size) (hN : N ≤ 16) :
    Six ((((W.alloc (.cells (madeCells #[.int .i64 0] N) 3)).alloc (.cells (madeCells #[.int .i64 0] N) 3)).alloc (.cells (madeCells #[.int .i64 0] N) 3)).alloc (.cells (madeCells #[.int .i64 0] N) 3)) b N cv cu gv gu W.heap.size xv xu (List.replicate N 0) (List.replicate N 0) (List.replicate N 0) (List.replicate N 0) := by
  have k0 := own_made W b 3 .i64 N hb (by omega)
  have k1 := own_made (W.alloc (.cells (madeCells #[.int .i64 0] N) 3)) b 3 .i64 N (by simp; omega) (by omega)
  have k2 := own_made ((W.alloc (.cells (madeCells #[.int .i64 0] N) 3)).alloc (.cells (madeCells #[.int .i64 0] N) 3)) b 3 .i64 N (by simp; omega) (by omega)
  have k3 := own_made (((W.alloc (.cells (madeCells #[.int .i64 0] N) 3)).alloc (.cells (madeCells #[.int .i64 0] N) 3)).alloc (.cells (madeCells #[.int .i64 0] N) 3)) b 3 .i64 N (by simp; omega) (by omega)
  have hs : ∀ (X : World) (o : Obj), (X.alloc o).heap.size = X.heap.size + 1 := fun X o => by simp
  simp only [hs] at k1 k2 k3
  exact ⟨own_alloc (own_alloc (own_alloc (own_alloc hv _) _) _) _, own_alloc (own_alloc (own_alloc (own_alloc hu _) _) _) _, own_alloc (own_alloc (own_alloc k0 _) _) _, own_alloc (own_alloc k1 _) _, own_alloc k2 _, k3⟩
set_option maxHeartbeats 64000000 in
set_option maxRecDepth 100000 in
theorem turned_go (A0 A1 : Option Addr) (m c0 m1 c1 N : Nat) (l0 l1 v u : List Int) (a : Int) (w : World) (hG : GlobA w) (hl : l0.length = m) (hC : (Kd.int .i64).C w A0 m l0) (hmc : m ≤ c0) (hm : m ≤ 4000000000000000000) (hin : In64 l0) (hl1 : l1.length = m1) (hC1 : (Kd.int .i64).C w A1 m1 l1) (hmc1 : m1 ≤ c1) (hm1 : m1 ≤ 4000000000000000000) (hin1 : In64 l1) (hN : sizeOf_ a = N) (hv : sizedL N l0 = v) (hu : sizedL N l1 = u) :
    Calls Tryd.prog 7 #[.slice A0 m c0, .slice A1 m1 c1, .int .i64 a] w fun e w' => e = .returned (.bool true) ∧ Below w.heap.size w w' := by
  have hmay := sizeOf_mayT a
  rw [hN] at hmay
  have hN2 : 4 ≤ N ∧ N ≤ 16 := by rcases mayB_cases hmay with rfl | rfl | rfl <;> omega
  obtain ⟨hN4, hN16⟩ := hN2
  have hvl : v.length = N := by rw [← hv, sizedL_length]
  have hul : u.length = N := by rw [← hu, sizedL_length]
  have hvin : In64 v := by rw [← hv]; exact sizedL_inT hin
  have huin : In64 u := by rw [← hu]; exact sizedL_inT hin1
  obtain ⟨f, hf⟩ : ∃ f : Nat → Int, ∀ i, v.getD i 0 / 16777216 = f i := ⟨fun i => v.getD i 0 / 16777216, fun i => rfl⟩
  obtain ⟨g, hg⟩ : ∃ g : Nat → Int, ∀ i, u.getD i 0 / 274877906944 = g i := ⟨fun i => u.getD i 0 / 274877906944, fun i => rfl⟩
  have hfb : ∀ j, -549755813888 ≤ f j ∧ f j ≤ 549755813887 := fun j => by have := in64_atT hvin j; rw [← hf j]; omega
  have hgb : ∀ j, -33554432 ≤ g j ∧ g j ≤ 33554431 := fun j => by have := in64_atT huin j; rw [← hg j]; omega
  have hall := turned_all hmay f g (fun j _ => hfb j) (fun j _ => hgb j)
  have HSZ0 : Aside0 (∀ W : World, w.heap.size ≤ W.heap.size → (Kd.int .i64).C W A0 m l0 → Calls Tryd.prog 15 #[.slice A0 m c0, .int .i64 a] W fun e w' => ∃ g c, e = .returned (.slice (some ⟨g, 0, none⟩) N c) ∧ N ≤ c ∧ W.heap.size ≤ g ∧ g < w'.heap.size ∧ Aside0 (w'.ownsRow w.heap.size 3 1 (.slice (some ⟨g, 0, none⟩) N c) N (nums .i64 v)) ∧ Aside0 (Below W.heap.size W w')) := ⟨fun W hb h => sized_o A0 m c0 N l0 v a W w.heap.size hb hl h hmc hm hN hv (by omega)⟩
  have HSZ1 : Aside0 (∀ W : World, w.heap.size ≤ W.heap.size → (Kd.int .i64).C W A1 m1 l1 → Calls Tryd.prog 15 #[.slice A1 m1 c1, .int .i64 a] W fun e w' => ∃ g c, e = .returned (.slice (some ⟨g, 0, none⟩) N c) ∧ N ≤ c ∧ W.heap.size ≤ g ∧ g < w'.heap.size ∧ Aside0 (w'.ownsRow w.heap.size 3 1 (.slice (some ⟨g, 0, none⟩) N c) N (nums .i64 u)) ∧ Aside0 (Below W.heap.size W w')) := ⟨fun W hb h => sized_o A1 m1 c1 N l1 u a W w.heap.size hb hl1 h hmc1 hm1 hN hu (by omega)⟩
  obtain ⟨T0, hT0⟩ : ∃ T, rowT N f = T := ⟨_, rfl⟩
  obtain ⟨T1, hT1⟩ : ∃ T, rowT N (fun i => f (N - 1 - i)) = T := ⟨_, rfl⟩
  obtain ⟨T2, hT2⟩ : ∃ T, rowT N (fun i => f i / 16384 * 16384) = T := ⟨_, rfl⟩
  obtain ⟨T3, hT3⟩ : ∃ T, rowT N (fun i => g i * 16384) = T := ⟨_, rfl⟩
  obtain ⟨T4, hT4⟩ : ∃ T, rowT N (fun i => f i / 16384 * 16384 + g i * 16384) = T := ⟨_, rfl⟩
  rw [hT0, hT1, hT2, hT3, hT4] at hall
  have HL : Aside0 (T0.length = N ∧ T1.length = N ∧ T2.length = N ∧ T3.length = N ∧ T4.length = N) := ⟨by subst hT0 hT1 hT2 hT3 hT4; simp [rowT]⟩
  have H0 : Aside0 (∀ i, i < N → T0.getD i 0 = f i) := ⟨fun i hi => by rw [← hT0]; exact rowT_getD N _ i hi⟩
  have H1 : Aside0 (∀ i, i < N → T1.getD i 0 = f (N - 1 - i)) := ⟨fun i hi => by rw [← hT1]; exact rowT_getD N _ i hi⟩
  have H2 : Aside0 (∀ i, i < N → T2.getD i 0 = f i / 16384 * 16384) := ⟨fun i hi => by rw [← hT2]; exact rowT_getD N _ i hi⟩
  have H3 : Aside0 (∀ i, i < N → T3.getD i 0 = g i * 16384) := ⟨fun i hi => by rw [← hT3]; exact rowT_getD N _ i hi⟩
  have H4 : Aside0 (∀ i, i < N → T4.getD i 0 = f i / 16384 * 16384 + g i * 16384) := ⟨fun i hi => by rw [← hT4]; exact rowT_getD N _ i hi⟩
  have HF := Aside0.mk hf
  have HGG := Aside0.mk hg
  have HFB := Aside0.mk hfb
  have HGB := Aside0.mk hgb
  have HALL := Aside0.mk hall
  have HDL : Aside0 (∀ T : List Int, (dctL N T).length = N ∧ ∀ k, k < N → (dctL N T).getD k 0 = dctV T k) := ⟨fun T => ⟨by simp [dctL], fun k hk => getD_map_range N (dctV T) k hk⟩⟩
  have HDX : Aside0 (∀ (T : List Int) (W : World) (A : Option Addr) (c : Nat), GlobA W → T.length = N → (Kd.int .i64).C W A N T → Calls Tryd.prog 21 #[.int .i64 (N : Int), .slice A N c] W fun e w' => ∃ B d, e = .returned (.slice B N d) ∧ N ≤ d ∧ Aside0 ((Kd.int .i64).C w' B N (dctL N T)) ∧ Aside0 (Below W.heap.size W w')) := ⟨fun T W A c hg hl h => dct_x N c A T W hg hl h hmay (by omega)⟩
  have hmk := print_make 22 3 .i64 8 Tryd.underlying22 turn_info (by decide) N (by omega)
  have HVL := Aside0.mk hvl
  have HUL := Aside0.mk hul
  have HC0 := Aside0.mk hC
  have HC1 := Aside0.mk hC1
  have HG0 := Aside0.mk hG
  have HAW : Aside0 (earshotlaw12_awake.f 30 = some true) := ⟨by decide +kernel⟩
  obtain ⟨N1, hN1⟩ : ∃ N1 : Nat, (N : Int) - 1 = (N1 : Int) := ⟨N - 1, by omega⟩
  have hN1w : IntKind.i64.wrap ((N : Int) - 1) = (N1 : Int) := by rw [IntKind.wrap_i64]; omega
  clear hG hl hC hl1 hC1 hin hin1 hN hv hu hmay hvl hul hvin huin hm hm1 hf hg hfb hgb hall hT0 hT1 hT2 hT3 hT4
  have ST0 : True := trivial
  go_enter Tryd.func7, Tryd.ntmps7
  go_wp2_with (first
    | (go_at_call 14; clear ST0; (with_reducible refine (earshotlaw12_awake.calls 30 true _ HG0.out HAW.out).mono ?_); rintro e_ w1 ⟨rfl, B1⟩; have HB1 := Aside0.mk B1; clear B1; have ST1 : True := trivial)
    | (go_at_call 15; clear ST1; (with_reducible refine (HSZ0.out w1 HB1.out.size (Kd.C_below HC0.out HB1.out)).mono ?_); rintro e_ w2 ⟨gv, cv, rfl, hcv, hgv0, hgv, HOV, B2⟩; have HB2 := Aside0.mk (below_step HB1.out B2.out); clear B2 HB1; have ST2 : True := trivial)
    | (go_at_call 15; clear ST2; (with_reducible refine (HSZ1.out w2 HB2.out.size (Kd.C_below HC1.out HB2.out)).mono ?_); rintro e_ w3 ⟨gu, cu, rfl, hcu, hgu0, hgu, HOU, B3⟩; have HB3 := Aside0.mk (below_step HB2.out B3.out); have HOV3 := Aside0.mk (pw_own_below HOV.out B3.out); clear B3 HB2 HOV; have ST3 : True := trivial))
  have hvu : gv < gu := by omega
  have SX0 := Aside0.mk (six_made (W := w3) (b := w.heap.size) (N := N) (cv := cv) (cu := cu) HOV3.out HOU.out HB3.out.size hN16)
  have hg0b : w.heap.size ≤ w3.heap.size := HB3.out.size
  clear HOV3 HOU ST3
  go_loopw [15] (fun x wr => ∃ (i : Nat) (xs : List Int), i ≤ N ∧ x = .int .i64 (i : Int) ∧ Aside0 (xs.length = N) ∧ Aside0 (∀ j, j < N → xs.getD j 0 = if j < i then T0.getD j 0 else v.getD j 0) ∧ Aside0 (Six wr w.heap.size N cv cu gv gu w3.heap.size xs u (List.replicate N 0) (List.replicate N 0) (List.replicate N 0) (List.replicate N 0)) ∧ Aside0 (Below w.heap.size w wr)) (fun x _ => N - (intOf x).toNat)
  case atStart => exact ⟨0, v, by omega, rfl, HVL, ⟨fun j hj => by rw [if_neg (by omega)]⟩, SX0, ⟨by repeat (first | exact HB3.out | apply below_alloc)⟩⟩
  case round =>
    clear SX0
    obtain ⟨i, xs, hi, rfl, HX, HJ, SX, HB⟩ := hrel
    by_cases hlt : i < N
    · obtain ⟨y, hy⟩ : ∃ y, v.getD i 0 = y := ⟨_, rfl⟩
      have hyk := HJ.out i hlt
      rw [if_neg (by omega), hy] at hyk
      have hfy := HF.out i
      rw [hy] at hfy
      have HT := Aside0.mk ((H0.out i hlt).trans hfy.symm)
      have c2 := SX.out.v.cell i hlt hyk
      have f2 := SX.out.v.free i hlt
      have j0 : (0 : Int) ≤ (i : Int) := by omega
      have j1 : (i : Int) < (N : Int) := by omega
      clear hy hyk hfy
      go_wp2
      go_roundw
      case rel =>
        exact ⟨i + 1, xs.set i (y / 16777216), by omega, by go_num, ⟨by rw [List.length_set, HX.out]⟩, ⟨set_row HX.out hlt HT.out HJ.out⟩, ⟨SX.out.setV hvu hgu i _⟩, ⟨Below.setCell HB.out (own_base SX.out.v gv rfl) _⟩⟩
      case measure => simp [intOf]; omega
    · obtain rfl : N = i := by omega
      have hxv : xs = T0 := row_ext (by rw [HX.out, HL.out.1]) (fun j hj => by rw [HX.out] at hj; rw [HJ.out j hj, if_pos hj])
      subst hxv
      clear HX HJ hlt hi
      go_wp2
      go_loopw [16] (fun x wr => ∃ (i : Nat) (x0 x1 x2 x3 : List Int), i ≤ N ∧ x = .int .i64 (i : Int) ∧ Aside0 (x0.length = N ∧ x1.length = N ∧ x2.length = N ∧ x3.length = N) ∧ Aside0 (∀ j, j < N → x0.getD j 0 = if j < i then T1.getD j 0 else (List.replicate N 0).getD j 0) ∧ Aside0 (∀ j, j < N → x1.getD j 0 = if j < i then T2.getD j 0 else (List.replicate N 0).getD j 0) ∧ Aside0 (∀ j, j < N → x2.getD j 0 = if j < i then T3.getD j 0 else (List.replicate N 0).getD j 0) ∧ Aside0 (∀ j, j < N → x3.getD j 0 = if j < i then T4.getD j 0 else (List.replicate N 0).getD j 0) ∧ Aside0 (Six wr w.heap.size N cv cu gv gu w3.heap.size xs u x0 x1 x2 x3) ∧ Aside0 (Below w.heap.size w wr)) (fun x _ => N - (intOf x).toNat)
      case atStart => exact ⟨0, _, _, _, _, by omega, rfl, ⟨by simp⟩, ⟨fun j hj => by rw [if_neg (by omega)]⟩, ⟨fun j hj => by rw [if_neg (by omega)]⟩, ⟨fun j hj => by rw [if_neg (by omega)]⟩, ⟨fun j hj => by rw [if_neg (by omega)]⟩, SX, HB⟩
      case round =>
        clear SX HB
        obtain ⟨i, x0, x1, x2, x3, hi, rfl, HX, J0, J1, J2, J3, SX, HB⟩ := hrel
        by_cases hlt : i < N
        · obtain ⟨r, hr⟩ : ∃ r, N - 1 - i = r := ⟨_, rfl⟩
          have hrN : r < N := by omega
          obtain ⟨y0, hy0⟩ : ∃ y, f r = y := ⟨_, rfl⟩
          obtain ⟨z, hz⟩ : ∃ y, f i = y := ⟨_, rfl⟩
          obtain ⟨q, hq⟩ : ∃ y, u.getD i 0 = y := ⟨_, rfl⟩
          obtain ⟨y1, hy1⟩ : ∃ y, z / 16384 * 16384 = y := ⟨_, rfl⟩
          obtain ⟨y2, hy2⟩ : ∃ y, q / 274877906944 * 16384 = y := ⟨_, rfl⟩
          obtain ⟨y3, hy3⟩ : ∃ y, y1 + y2 = y := ⟨_, rfl⟩
          have t0 := H0.out r hrN
          have t1 := H0.out i hlt
          have t2 := H1.out i hlt
          have t3 := H2.out i hlt
          have t4 := H3.out i hlt
          have t5 := H4.out i hlt
          have hgq := HGG.out i
          rw [hq] at hgq
          rw [hr] at t2
          rw [← hgq] at t4 t5
          rw [hy0] at t0 t2
          rw [hz] at t1 t3 t5
          rw [hy1] at t3 t5
          rw [hy2] at t4 t5
          rw [hy3] at t5
          have b1 := HFB.out i
          have b2 := HGB.out i
          rw [hz] at b1
          rw [← hgq] at b2
          have e1 : IntKind.i64.wrap (z / 16384 * 16384) = y1 := by rw [IntKind.wrap_i64]; omega
          have e2 : IntKind.i64.wrap (q / 274877906944 * 16384) = y2 := by rw [IntKind.wrap_i64]; omega
          have e3 : IntKind.i64.wrap (y1 + y2) = y3 := by rw [IntKind.wrap_i64]; omega
          have e4 : IntKind.i64.wrap ((N1 : Int) - (i : Int)) = (r : Int) := by rw [IntKind.wrap_i64]; omega
          have T2_ := Aside0.mk t2
          have T3_ := Aside0.mk t3
          have T4_ := Aside0.mk t4
          have T5_ := Aside0.mk t5
          have c0 := SX.out.v.cell r hrN t0
          have f0 := SX.out.a0.free i hlt
          have S1 := SX.out.set0 hvu hgu i y0
          have c1 := S1.v.cell i hlt t1
          have f1 := S1.a1.free i hlt
          have S2 := S1.set1 hvu hgu i y1
          have c2 := S2.u.cell i hlt hq
          have f2 := S2.a2.free i hlt
          have S3 := S2.set2 hvu hgu i y2
          have c3 := S3.a1.cell i hlt (x := y1) (by rw [List.getD_eq_getElem?_getD, List.getElem?_set_self (by rw [HX.out.2.1]; exact hlt)]; rfl)
          have c4 := S3.a2.cell i hlt (x := y2) (by rw [List.getD_eq_getElem?_getD, List.getElem?_set_self (by rw [HX.out.2.2.1]; exact hlt)]; rfl)
          have f3 := S3.a3.free i hlt
          have S4 := Aside0.mk (S3.set3 hvu hgu i y3)
          obtain ⟨⟨z0, d0⟩, _⟩ := own_free SX.out.a0 i hlt
          obtain ⟨⟨z1, d1⟩, _⟩ := own_free S1.a1 i hlt
          obtain ⟨⟨z2, d2⟩, _⟩ := own_free S2.a2 i hlt
          obtain ⟨⟨z3, d3⟩, _⟩ := own_free S3.a3 i hlt
          have j0 : (0 : Int) ≤ (i : Int) := by omega
          have j1 : (i : Int) < (N : Int) := by omega
          have j2 : (r : Int) < (N : Int) := by omega
          have j3 : (0 : Int) ≤ (r : Int) := by omega
          clear t0 t1 t2 t3 t4 t5 S1 S2 S3 hy0 hz hq hy1 hy2 hy3 hgq b1 b2
          go_wp2
          go_region_with (fail)
          all_goals
            go_wp2
            go_roundw
            case rel =>
              have S5 := S4.out
              exact ⟨i + 1, _, _, _, _, by omega, by go_num, ⟨by rw [List.length_set, List.length_set, List.length_set, List.length_set]; exact HX.out⟩, ⟨set_row HX.out.1 hlt T2_.out J0.out⟩, ⟨set_row HX.out.2.1 hlt T3_.out J1.out⟩, ⟨set_row HX.out.2.2.1 hlt T4_.out J2.out⟩, ⟨set_row HX.out.2.2.2 hlt T5_.out J3.out⟩, ⟨⟨S5.v, S5.u, S5.a0, S5.a1, S5.a2, S5.a3⟩⟩, ⟨below_drew1 (Below.setCell (Below.setCell (Below.setCell (Below.setCell HB.out hg0b _) (by show w.heap.size ≤ w3.heap.size + 1; omega) _) (by show w.heap.size ≤ w3.heap.size + 1 + 1; omega) _) (by show w.heap.size ≤ w3.heap.size + 1 + 1 + 1; omega) _)⟩⟩
            case measure => simp [intOf]; omega
        · obtain rfl : N = i := by omega
          have ex : ∀ (x T : List Int), x.length = N → T.length = N → (∀ j, j < N → x.getD j 0 = if j < N then T.getD j 0 else (List.replicate N 0).getD j 0) → x = T := fun x T h1 h2 h => row_ext (by rw [h1, h2]) (fun j hj => by rw [h1] at hj; rw [h j hj, if_pos hj])
          obtain ⟨k0, k1, k2, k3⟩ := HX.out
          obtain ⟨_, l1_, l2_, l3_, l4_⟩ := HL.out
          obtain rfl := ex x0 T1 k0 l1_ J0.out
          obtain rfl := ex x1 T2 k1 l2_ J1.out
          obtain rfl := ex x2 T3 k2 l3_ J2.out
          obtain rfl := ex x3 T4 k3 l4_ J3.out
          have K0_0 := Aside0.mk (own_CT SX.out.v)
          have K1_0 := Aside0.mk (own_CT SX.out.a0)
          have K2_0 := Aside0.mk (own_CT SX.out.a1)
          have K3_0 := Aside0.mk (own_CT SX.out.a2)
          have K4_0 := Aside0.mk (own_CT SX.out.a3)
          have BW0 := HB
          have ST10 : True := trivial
          clear k0 k1 k2 k3 l1_ l2_ l3_ l4_ HX J0 J1 J2 J3 SX HB ex hlt hi H0 H1 H2 H3 H4 HFB HGB HGG HF
          go_wp2_with (first
            | (go_at_call 21; clear ST10; refine (HDX.out xs _ (some ⟨gv, 0, none⟩) cv (HG0.out.below (below_step BW0.out (show Below wr.heap.size wr _ by repeat (first | exact Below.refl _ _ | apply below_alloc | apply pw_below_drewN | apply below_drew1)))) (HL.out.1) (by repeat (first | exact K0_0.out | refine Kd.C_alloc ?_ _ | refine Kd.C_drewN ?_ _ | refine Kd.C_drew ?_))).mono ?_; rintro e_ z0 ⟨P0, d0, rfl, hd0, D0_1, B_⟩; have hb := below_then (show Below wr.heap.size wr _ by repeat (first | exact Below.refl _ _ | apply below_alloc | apply pw_below_drewN | apply below_drew1)) (by simp) B_.out; have BW1 := Aside0.mk (below_step BW0.out hb); have K1_1 := Aside0.mk (Kd.C_below K1_0.out hb); have K2_1 := Aside0.mk (Kd.C_below K2_0.out hb); have K3_1 := Aside0.mk (Kd.C_below K3_0.out hb); have K4_1 := Aside0.mk (Kd.C_below K4_0.out hb); clear hb B_ BW0 K0_0 K1_0 K2_0 K3_0 K4_0 ; have ST11 : True := trivial)
            | (go_at_call 21; clear ST11; refine (HDX.out x0 _ (some ⟨w3.heap.size, 0, none⟩) N (HG0.out.below (below_step BW1.out (show Below z0.heap.size z0 _ by repeat (first | exact Below.refl _ _ | apply below_alloc | apply pw_below_drewN | apply below_drew1)))) (HL.out.2.1) (by repeat (first | exact K1_1.out | refine Kd.C_alloc ?_ _ | refine Kd.C_drewN ?_ _ | refine Kd.C_drew ?_))).mono ?_; rintro e_ z1 ⟨P1, d1, rfl, hd1, D1_2, B_⟩; have hb := below_then (show Below z0.heap.size z0 _ by repeat (first | exact Below.refl _ _ | apply below_alloc | apply pw_below_drewN | apply below_drew1)) (by simp) B_.out; have BW2 := Aside0.mk (below_step BW1.out hb); have K2_2 := Aside0.mk (Kd.C_below K2_1.out hb); have K3_2 := Aside0.mk (Kd.C_below K3_1.out hb); have K4_2 := Aside0.mk (Kd.C_below K4_1.out hb); have D0_2 := Aside0.mk (Kd.C_below D0_1.out hb); clear hb B_ BW1 K1_1 K2_1 K3_1 K4_1 D0_1; have ST12 : True := trivial)
            | (go_at_call 21; clear ST12; refine (HDX.out x1 _ (some ⟨(w3.heap.size + 1), 0, none⟩) N (HG0.out.below (below_step BW2.out (show Below z1.heap.size z1 _ by repeat (first | exact Below.refl _ _ | apply below_alloc | apply pw_below_drewN | apply below_drew1)))) (HL.out.2.2.1) (by repeat (first | exact K2_2.out | refine Kd.C_alloc ?_ _ | refine Kd.C_drewN ?_ _ | refine Kd.C_drew ?_))).mono ?_; rintro e_ z2 ⟨P2, d2, rfl, hd2, D2_3, B_⟩; have hb := below_then (show Below z1.heap.size z1 _ by repeat (first | exact Below.refl _ _ | apply below_alloc | apply pw_below_drewN | apply below_drew1)) (by simp) B_.out; have BW3 := Aside0.mk (below_step BW2.out hb); have K3_3 := Aside0.mk (Kd.C_below K3_2.out hb); have K4_3 := Aside0.mk (Kd.C_below K4_2.out hb); have D0_3 := Aside0.mk (Kd.C_below D0_2.out hb); have D1_3 := Aside0.mk (Kd.C_below D1_2.out hb); clear hb B_ BW2 K2_2 K3_2 K4_2 D0_2 D1_2; have ST13 : True := trivial)
            | (go_at_call 21; clear ST13; refine (HDX.out x2 _ (some ⟨(w3.heap.size + 1 + 1), 0, none⟩) N (HG0.out.below (below_step BW3.out (show Below z2.heap.size z2 _ by repeat (first | exact Below.refl _ _ | apply below_alloc | apply pw_below_drewN | apply below_drew1)))) (HL.out.2.2.2.1) (by repeat (first | exact K3_3.out | refine Kd.C_alloc ?_ _ | refine Kd.C_drewN ?_ _ | refine Kd.C_drew ?_))).mono ?_; rintro e_ z3 ⟨P3, d3, rfl, hd3, D3_4, B_⟩; have hb := below_then (show Below z2.heap.size z2 _ by repeat (first | exact Below.refl _ _ | apply below_alloc | apply pw_below_drewN | apply below_drew1)) (by simp) B_.out; have BW4 := Aside0.mk (below_step BW3.out hb); have K4_4 := Aside0.mk (Kd.C_below K4_3.out hb); have D0_4 := Aside0.mk (Kd.C_below D0_3.out hb); have D1_4 := Aside0.mk (Kd.C_below D1_3.out hb); have D2_4 := Aside0.mk (Kd.C_below D2_3.out hb); clear hb B_ BW3 K3_3 K4_3 D0_3 D1_3 D2_3; have ST14 : True := trivial)
            | (go_at_call 21; clear ST14; refine (HDX.out x3 _ (some ⟨(w3.heap.size + 1 + 1 + 1), 0, none⟩) N (HG0.out.below (below_step BW4.out (show Below z3.heap.size z3 _ by repeat (first | exact Below.refl _ _ | apply below_alloc | apply pw_below_drewN | apply below_drew1)))) (HL.out.2.2.2.2) (by repeat (first | exact K4_4.out | refine Kd.C_alloc ?_ _ | refine Kd.C_drewN ?_ _ | refine Kd.C_drew ?_))).mono ?_; rintro e_ z4 ⟨P4, d4, rfl, hd4, D4_5, B_⟩; have hb := below_then (show Below z3.heap.size z3 _ by repeat (first | exact Below.refl _ _ | apply below_alloc | apply pw_below_drewN | apply below_drew1)) (by simp) B_.out; have BW5 := Aside0.mk (below_step BW4.out hb); have D0_5 := Aside0.mk (Kd.C_below D0_4.out hb); have D1_5 := Aside0.mk (Kd.C_below D1_4.out hb); have D2_5 := Aside0.mk (Kd.C_below D2_4.out hb); have D3_5 := Aside0.mk (Kd.C_below D3_4.out hb); clear hb B_ BW4 K4_4 D0_4 D1_4 D2_4 D3_4; have ST15 : True := trivial))
          clear ST15
          go_loopw [22, 23] (fun x y wr => ∃ (k : Nat), k ≤ N ∧ x = .int .i64 (k : Int) ∧ Aside0 ((Kd.int .i64).C wr P0 N (dctL N xs)) ∧ Aside0 ((Kd.int .i64).C wr P1 N (dctL N x0)) ∧ Aside0 ((Kd.int .i64).C wr P2 N (dctL N x1)) ∧ Aside0 ((Kd.int .i64).C wr P3 N (dctL N x2)) ∧ Aside0 ((Kd.int .i64).C wr P4 N (dctL N x3)) ∧ Aside0 (Below w.heap.size w wr)) (fun x _ _ => N - (intOf x).toNat)
          case atStart => exact ⟨0, by omega, rfl, D0_5, D1_5, D2_5, D3_5, D4_5, BW5⟩
          case round =>
            clear D0_5 D1_5 D2_5 D3_5 D4_5 BW5
            obtain ⟨k, hk, rfl, E0, E1, E2, E3, E4, HB⟩ := hrel
            by_cases hlt : k < N
            · obtain ⟨a0, ha⟩ : ∃ y, dctV xs k = y := ⟨_, rfl⟩
              obtain ⟨a1, hb⟩ : ∃ y, dctV x0 k = y := ⟨_, rfl⟩
              obtain ⟨a2, hx⟩ : ∃ y, dctV x1 k = y := ⟨_, rfl⟩
              obtain ⟨a3, hy⟩ : ∃ y, dctV x2 k = y := ⟨_, rfl⟩
              obtain ⟨a4, hz⟩ : ∃ y, dctV x3 k = y := ⟨_, rfl⟩
              obtain ⟨q0, q1, q2, b0, b1, b2, b3⟩ := HALL.out k hlt a0 a1 a2 a3 a4 ha hb hx hy hz
              obtain ⟨p0, rfl, s0⟩ := sp_ad E0.out (by omega)
              obtain ⟨p1, rfl, s1⟩ := sp_ad E1.out (by omega)
              obtain ⟨p2, rfl, s2⟩ := sp_ad E2.out (by omega)
              obtain ⟨p3, rfl, s3⟩ := sp_ad E3.out (by omega)
              obtain ⟨p4, rfl, s4⟩ := sp_ad E4.out (by omega)
              have c0 := s0 k hlt
              have c1 := s1 k hlt
              have c2 := s2 k hlt
              have c3 := s3 k hlt
              have c4 := s4 k hlt
              rw [(HDL.out xs).2 k hlt, ha] at c0
              rw [(HDL.out x0).2 k hlt, hb] at c1
              rw [(HDL.out x1).2 k hlt, hx] at c2
              rw [(HDL.out x2).2 k hlt, hy] at c3
              rw [(HDL.out x3).2 k hlt, hz] at c4
              have e1 : IntKind.i64.wrap (a2 + a3) = a4 := by rw [IntKind.wrap_i64]; omega
              have hm2 : Int.tmod (k : Int) 2 = 0 ∧ a1 = a0 ∨ Int.tmod (k : Int) 2 = 1 ∧ (a0 + a1 = 0 ∨ a0 + a1 = 1) := by
                have e := Int.tmod_eq_emod_of_nonneg (a := (k : Int)) (b := 2) (by omega)
                rw [e]
                rcases Nat.mod_two_eq_zero_or_one k with h | h
                · exact .inl ⟨by omega, (q0 h).symm⟩
                · exact .inr ⟨by omega, q1 h⟩
              have j0 : (0 : Int) ≤ (k : Int) := by omega
              have j1 : (k : Int) < (N : Int) := by omega
              clear ha hb hx hy hz s0 s1 s2 s3 s4 q0 q1
              have hm3 : (Int.tmod (k : Int) 2 = 0 ∧ a1 = a0 ∧ ∃ o, IntKind.i64.wrap (a0 + a1) = o) ∨ (Int.tmod (k : Int) 2 = 1 ∧ IntKind.i64.wrap (a0 + a1) = 0) ∨ (Int.tmod (k : Int) 2 = 1 ∧ IntKind.i64.wrap (a0 + a1) = 1) := by
                rcases hm2 with ⟨r, h⟩ | ⟨r, h | h⟩
                · exact .inl ⟨r, h, _, rfl⟩
                · exact .inr (.inl ⟨r, by rw [IntKind.wrap_i64]; omega⟩)
                · exact .inr (.inr ⟨r, by rw [IntKind.wrap_i64]; omega⟩)
              clear hm2 b0 b1 b2 b3 q2
              rcases hm3 with ⟨r, rfl, o, ho⟩ | ⟨r, ho⟩ | ⟨r, ho⟩
              all_goals
                go_wp2
                go_quiet (fail)
                go_wp2
                go_quiet (fail)
                go_wp2
                go_roundw
                case rel =>
                  exact ⟨k + 1, by omega, by go_num, ⟨by repeat (first | exact E0.out | refine Kd.C_drewN ?_ _)⟩, ⟨by repeat (first | exact E1.out | refine Kd.C_drewN ?_ _)⟩, ⟨by repeat (first | exact E2.out | refine Kd.C_drewN ?_ _)⟩, ⟨by repeat (first | exact E3.out | refine Kd.C_drewN ?_ _)⟩, ⟨by repeat (first | exact E4.out | refine Kd.C_drewN ?_ _)⟩, ⟨by repeat (first | exact HB.out | apply pw_below_drewN)⟩⟩
                case measure => simp [intOf]; omega
            · obtain rfl : N = k := by omega
              go_wp2
              go_ret
              exact ⟨rfl, HB.out⟩
theorem earshotlaw12_DctTurned.calls (A0 : Option Addr) (c0 : Nat) (l0 : List Int) (A1 : Option Addr) (c1 : Nat) (l1 : List Int) (a2 : Int) (r : Bool) (w : World) (hG : GlobA w) (hr0 : Kd.C (Kd.int .i64) w A0 l0.length l0) (hc0 : l0.length ≤ c0) (hr1 : Kd.C (Kd.int .i64) w A1 l1.length l1) (hc1 : l1.length ≤ c1) (h : earshotlaw12_DctTurned.f l0 l1 a2 = some r) :
    Calls Tryd.prog 7 #[.slice A0 l0.length c0, .slice A1 l1.length c1, .int .i64 a2] w fun e w' => e = .returned (.bool r) ∧ Below w.heap.size w w' := by
  unfold earshotlaw12_DctTurned.f at h
  split at h
  case isFalse => cases h
  rename_i hz
  obtain rfl := Option.some.inj h
  simp only [Bool.and_eq_true, decide_eq_true_eq, List.all_eq_true] at hz
  exact turned_go A0 A1 _ c0 _ c1 _ l0 l1 _ _ a2 w hG rfl hr0 hc0 hz.1.1.1 (fun x hx => hz.1.1.2 x hx) rfl hr1 hc1 hz.1.2 (fun x hx => hz.2 x hx) rfl rfl rfl

/-- THE ONE PURE STATEMENT of earshotlaw12_DctTurned: yours. -/
def earshotlaw12_DctTurned.Pure : Prop := ∀ (l0 : List Int) (l1 : List Int) (a2 : Int), l0.length ≤ maxLen → l0.length * 8 ≤ 140737488351232 → (∀ x ∈ l0, (Lit.int .i64 x).wf = true) → l1.length ≤ maxLen → l1.length * 8 ≤ 140737488351232 → (∀ x ∈ l1, (Lit.int .i64 x).wf = true) → (Lit.int .i64 a2).wf = true → earshotlaw12_DctTurned.f l0 l1 a2 = some true
theorem earshotlaw12_DctTurned.walk (P : earshotlaw12_DctTurned.Pure) (a0 : Option Addr) (len0 cap0 : Nat) (z0 : List Int) (a1 : Option Addr) (len1 cap1 : Nat) (z1 : List Int) (a2 : Int) (w : World) (w0 : (a0 = none ∧ len0 = 0 ∧ cap0 = 0 ∧ z0 = []) ∨ ∃ x, a0 = some x ∧ len0 ≤ cap0 ∧ cap0 ≤ maxLen ∧ z0.length = cap0 ∧ (∀ i, i < z0.length → w.cell? (x.add i) = some (.int .i64 (z0.getD i 0))) ∧ ∀ n ∈ z0, (Lit.int .i64 n).wf = true) (y0 : len0 * 8 ≤ 140737488351232) (w1 : (a1 = none ∧ len1 = 0 ∧ cap1 = 0 ∧ z1 = []) ∨ ∃ x, a1 = some x ∧ len1 ≤ cap1 ∧ cap1 ≤ maxLen ∧ z1.length = cap1 ∧ (∀ i, i < z1.length → w.cell? (x.add i) = some (.int .i64 (z1.getD i 0))) ∧ ∀ n ∈ z1, (Lit.int .i64 n).wf = true) (y1 : len1 * 8 ≤ 140737488351232) (w2 : (Lit.int .i64 a2).wf = true) (hG : GlobA w) :
    Calls Tryd.prog 7 #[.slice a0 len0 cap0, .slice a1 len1 cap1, .int .i64 a2] w fun e w' => e = .returned (.bool true) ∧ Below w.heap.size w w' := by
  obtain ⟨l0, rfl, hr0, hm0, hw0, hc0⟩ := ReadsInt.ofRowC w0
  obtain ⟨l1, rfl, hr1, hm1, hw1, hc1⟩ := ReadsInt.ofRowC w1
  have h := P l0 l1 a2 hm0 y0 hw0 hm1 y1 hw1 w2
  refine (earshotlaw12_DctTurned.calls _ _ l0 _ _ l1 a2 true w hG (Kd.C_of_reads (d := (0 : Int)) (h1 := fun _ => rfl) hr0) hc0 (Kd.C_of_reads (d := (0 : Int)) (h1 := fun _ => rfl) hr1) hc1 h).mono ?_
  rintro e w' ⟨rfl, hd⟩
  exact ⟨rfl, hd⟩

end Go.Proofs.YtmhacdnnnebpdaaDoor.PDctTurned
