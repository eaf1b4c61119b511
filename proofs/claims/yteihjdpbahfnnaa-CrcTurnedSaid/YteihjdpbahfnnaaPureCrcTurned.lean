/- The plain law of CrcTurned: what the printed functions compute answers as the statement says. No conditions beside the statement's own. -/
import Derived.Test.YteihjdpbahfnnaaPCrcTurnedx2
import Derived.Laws.BitsAllLaws
namespace Go.Proofs.Yteihjdpbahfnnaa.Pure
open Go.RowKit Go.Proofs.Yteihjdpbahfnnaa.PCrcTurned Go.Proofs.YteihjdpbahfnnaaW.PrintWords Go.Proofs.YteihjdpbahfnnaaW.PrintLast Go.Proofs.YteihjdpbahfnnaaW.PrintMore
set_option linter.unusedVariables false
set_option linter.unusedSimpArgs false
theorem bsome {α β : Type} (a : α) (f : α → Option β) : (some a).bind f = f a := by
  generalize h : some a = o
  cases o with
  | none => cases h
  | some b => cases h; rfl
/-- One bit of the register. -/
def sN (x : Nat) : Nat := (x / 2) ^^^ (if x % 2 = 1 then 3988292384 else 0)
def rN : Nat → Nat → Nat
  | 0, x => x
  | n + 1, x => rN n (sN x)
theorem div2_xor (a b : Nat) : (a ^^^ b) / 2 = (a / 2) ^^^ (b / 2) := by
  have h := Nat.shiftRight_xor_distrib (a := a) (b := b) (i := 1)
  simpa [Nat.shiftRight_succ] using h
theorem mod2_xor (a b : Nat) : (a ^^^ b) % 2 = (a % 2 + b % 2) % 2 := by
  have h := Nat.xor_mod_two_eq_one (a := a) (b := b)
  have hab : (a ^^^ b) % 2 = 0 ∨ (a ^^^ b) % 2 = 1 := Nat.mod_two_eq_zero_or_one _
  rcases Nat.mod_two_eq_zero_or_one a with ha | ha <;> rcases Nat.mod_two_eq_zero_or_one b with hb | hb <;> rcases hab with hc | hc <;> rw [ha, hb, hc] at h <;> rw [ha, hb, hc] <;> revert h <;> decide
theorem sN_xor (a b : Nat) : sN (a ^^^ b) = sN a ^^^ sN b := by
  unfold sN
  rw [div2_xor, mod2_xor]
  rcases Nat.mod_two_eq_zero_or_one a with ha | ha <;> rcases Nat.mod_two_eq_zero_or_one b with hb | hb <;> simp only [ha, hb]
  · simp
  · simp [Nat.xor_assoc]
  · simp only [Nat.reduceAdd, Nat.reduceMod, if_true, Nat.zero_ne_one, if_false, Nat.xor_zero, reduceIte]
    rw [Nat.xor_assoc, Nat.xor_comm (b / 2), ← Nat.xor_assoc]
  · simp only [Nat.reduceAdd, Nat.reduceMod, if_true, Nat.zero_ne_one, if_false, Nat.xor_zero, reduceIte]
    rw [Nat.xor_assoc, Nat.xor_comm 3988292384 (b / 2 ^^^ 3988292384), Nat.xor_assoc (b / 2), Nat.xor_self, Nat.xor_zero]
theorem rN_xor : ∀ (n a b : Nat), rN n (a ^^^ b) = rN n a ^^^ rN n b
  | 0, _, _ => rfl
  | n + 1, a, b => by simp only [rN]; rw [sN_xor, rN_xor n]
theorem sN_two (y : Nat) : sN (2 * y) = y := by
  unfold sN
  rw [if_neg (by omega), Nat.mul_div_cancel_left y (by decide)]
  simp
theorem rN_two : ∀ (n y : Nat), rN n (2 ^ n * y) = y
  | 0, y => by simp [rN]
  | n + 1, y => by
    simp only [rN]
    rw [Nat.pow_succ, Nat.mul_comm (2 ^ n) 2, Nat.mul_assoc, sN_two, rN_two n]
theorem rN_add : ∀ (m n x : Nat), rN (m + n) x = rN n (rN m x)
  | 0, n, x => by simp [rN]
  | m + 1, n, x => by rw [Nat.succ_add]; simp only [rN]; exact rN_add m n _
theorem sN_lt {x : Nat} (h : x < 2 ^ 32) : sN x < 2 ^ 32 := by
  unfold sN
  refine Nat.xor_lt_two_pow (by omega) ?_
  split <;> decide
theorem sN_pos {x : Nat} (h : x < 2 ^ 32) (h0 : x ≠ 0) : sN x ≠ 0 := by
  unfold sN
  split
  · intro e
    have e2 : (x / 2 ^^^ 3988292384) ^^^ 3988292384 = 0 ^^^ 3988292384 := by rw [e]
    rw [Nat.xor_assoc, Nat.xor_self, Nat.xor_zero, Nat.zero_xor] at e2
    omega
  · simp; omega
theorem rN_lt : ∀ (n : Nat) {x : Nat}, x < 2 ^ 32 → rN n x < 2 ^ 32
  | 0, _, h => h
  | n + 1, _, h => rN_lt n (sN_lt h)
theorem rN_pos : ∀ (n : Nat) {x : Nat}, x < 2 ^ 32 → x ≠ 0 → rN n x ≠ 0
  | 0, _, _, h0 => h0
  | n + 1, _, h, h0 => rN_pos n (sN_lt h) (sN_pos h h0)
theorem rN_zero : ∀ n, rN n 0 = 0
  | 0 => rfl
  | n + 1 => by simp only [rN]; exact rN_zero n
/-- The register behind a row of bytes. -/
def regN (r : Nat) : List Nat → Nat
  | [] => r
  | b :: l => regN (rN 8 (r ^^^ b)) l
/-- A row of bytes as one number, the first one lowest. -/
def numN : List Nat → Nat
  | [] => 0
  | b :: l => b + 256 * numN l
theorem low_xor (b m : Nat) (h : b < 256) : b + 256 * m = b ^^^ (256 * m) := by
  apply Nat.eq_of_testBit_eq
  intro j
  have e1 : 256 * m = 2 ^ 8 * m := by rfl
  rw [Nat.add_comm, e1, Nat.testBit_two_pow_mul_add m (by simpa using h), Nat.testBit_xor, Nat.testBit_two_pow_mul]
  split
  · rename_i hj
    simp [show ¬ (8 ≤ j) by omega]
  · rename_i hj
    have : b.testBit j = false := Nat.testBit_lt_two_pow (Nat.lt_of_lt_of_le h (by simpa using Nat.pow_le_pow_right (n := 2) (by decide) (show 8 ≤ j by omega)))
    simp [this, show 8 ≤ j by omega]
theorem regN_num : ∀ (l : List Nat) (r : Nat), (∀ b ∈ l, b < 256) → regN r l = rN (8 * l.length) (r ^^^ numN l)
  | [], r, _ => by simp [regN, rN, numN]
  | b :: l, r, h => by
    have hb := h b (by simp)
    simp only [regN, numN, List.length_cons]
    rw [regN_num l _ (fun x hx => h x (by simp [hx])), low_xor b _ hb, Nat.mul_succ, Nat.add_comm, rN_add]
    congr 1
    rw [← Nat.xor_assoc, rN_xor 8 (r ^^^ b), show 256 * numN l = 2 ^ 8 * numN l from rfl, rN_two]
theorem regN_append (r : Nat) : ∀ (a b : List Nat), regN r (a ++ b) = regN (regN r a) b := by
  intro a
  induction a generalizing r with
  | nil => intro b; rfl
  | cons x a ih => intro b; simp only [List.cons_append, regN]; exact ih _ b
theorem regN_lt : ∀ (l : List Nat) (r : Nat), r < 2 ^ 32 → (∀ b ∈ l, b < 256) → regN r l < 2 ^ 32
  | [], r, h, _ => h
  | b :: l, r, h, hb => by
    simp only [regN]
    exact regN_lt l _ (rN_lt 8 (Nat.xor_lt_two_pow h (Nat.lt_trans (hb b (by simp)) (by decide)))) (fun x hx => hb x (by simp [hx]))
def xorL (a b : List Nat) : List Nat := List.zipWith (· ^^^ ·) a b
theorem numN_xor : ∀ (a b : List Nat), a.length = b.length → (∀ x ∈ a, x < 256) → (∀ x ∈ b, x < 256) → numN (xorL a b) = numN a ^^^ numN b
  | [], [], _, _, _ => rfl
  | x :: a, y :: b, hl, ha, hb => by
    have hx := ha x (by simp)
    have hy := hb y (by simp)
    simp only [xorL, List.zipWith_cons_cons, numN]
    have ih := numN_xor a b (by simpa using hl) (fun z hz => ha z (by simp [hz])) (fun z hz => hb z (by simp [hz]))
    have h2 : x ^^^ y < 256 := Nat.xor_lt_two_pow (n := 8) hx hy
    rw [show List.zipWith (· ^^^ ·) a b = xorL a b from rfl, ih, low_xor _ _ h2, low_xor x _ hx, low_xor y _ hy]
    rw [show 256 * (numN a ^^^ numN b) = (256 * numN a) ^^^ (256 * numN b) by
      have := Nat.shiftLeft_xor_distrib (a := numN a) (b := numN b) (i := 8)
      simpa [Nat.shiftLeft_eq, Nat.mul_comm] using this]
    simp only [Nat.xor_assoc]
    congr 1
    rw [← Nat.xor_assoc (256 * numN a), Nat.xor_comm (256 * numN a) y, Nat.xor_assoc]
def le4 (c : Nat) : List Nat := [c % 256, c / 256 % 256, c / 65536 % 256, c / 16777216 % 256]
theorem le4_lt (c : Nat) : ∀ b ∈ le4 c, b < 256 := by
  intro b hb
  simp only [le4, List.mem_cons, List.not_mem_nil, or_false] at hb
  omega
theorem numN_le4 {c : Nat} (h : c < 2 ^ 32) : numN (le4 c) = c := by
  simp only [le4, numN]
  omega
/-- A sealed row ends at one and the same register. -/
theorem sealed_reg (s : List Nat) (hs : ∀ b ∈ s, b < 256) : regN 4294967295 (s ++ le4 (4294967295 ^^^ regN 4294967295 s)) = rN 32 4294967295 := by
  have hr := regN_lt s 4294967295 (by decide) hs
  have hc : 4294967295 ^^^ regN 4294967295 s < 2 ^ 32 := Nat.xor_lt_two_pow (by decide) hr
  rw [regN_append, regN_num _ _ (le4_lt _), numN_le4 hc]
  rw [show (le4 (4294967295 ^^^ regN 4294967295 s)).length = 4 from rfl, Nat.xor_comm, Nat.xor_assoc, Nat.xor_self, Nat.xor_zero]
/-- Bits that are turned within 32 in a row turn the register. -/
theorem turned_reg (l l' : List Nat) (from_ y r : Nat) (hl : l'.length = l.length) (hb : ∀ b ∈ l, b < 256) (hb' : ∀ b ∈ l', b < 256) (hn : numN l' = numN l ^^^ (2 ^ from_ * y)) (hf : from_ ≤ 8 * l.length) (hy : y < 2 ^ 32) (h0 : y ≠ 0) :
    regN r l' ≠ regN r l := by
  rw [regN_num _ _ hb, regN_num _ _ hb', hn, hl, ← Nat.xor_assoc, rN_xor]
  have e : rN (8 * l.length) (2 ^ from_ * y) = rN (8 * l.length - from_) y := by
    have h := rN_add from_ (8 * l.length - from_) (2 ^ from_ * y)
    rw [show from_ + (8 * l.length - from_) = 8 * l.length by omega] at h
    rw [h, rN_two]
  have hp := rN_pos (8 * l.length - from_) hy h0
  rw [e]
  intro he
  apply hp
  have h2 : rN (8 * l.length) (r ^^^ numN l) ^^^ (rN (8 * l.length) (r ^^^ numN l) ^^^ rN (8 * l.length - from_) y) = rN (8 * l.length) (r ^^^ numN l) ^^^ rN (8 * l.length) (r ^^^ numN l) := by rw [he]
  rwa [← Nat.xor_assoc, Nat.xor_self, Nat.zero_xor] at h2
theorem numN_set : ∀ (l : List Nat) (p : Nat) (_ : ∀ b ∈ l, b < 256) (h : p / 8 < l.length), numN (l.set (p / 8) (l[p / 8] ^^^ 2 ^ (p % 8))) = numN l ^^^ 2 ^ p
  | [], p, _, h => by simp at h
  | b :: l, p, hb, h => by
    have hb0 := hb b (by simp)
    by_cases hp : p / 8 = 0
    · have e : p % 8 = p := by omega
      have hlt : b ^^^ 2 ^ p < 256 := Nat.xor_lt_two_pow (n := 8) hb0 (Nat.pow_lt_pow_right (by decide) (by omega))
      simp only [hp, List.set_cons_zero, List.getElem_cons_zero, numN, e]
      rw [low_xor _ _ hlt, low_xor b _ hb0, Nat.xor_assoc, Nat.xor_assoc, Nat.xor_comm (2 ^ p)]
    · obtain ⟨q, rfl⟩ : ∃ q, p = q + 8 := ⟨p - 8, by omega⟩
      have e1 : (q + 8) / 8 = q / 8 + 1 := by omega
      have e2 : (q + 8) % 8 = q % 8 := by omega
      have hq : q / 8 < l.length := by rw [e1] at h; simpa using h
      have ih := numN_set l q (fun x hx => hb x (by simp [hx])) hq
      simp only [e1, e2, List.set_cons_succ, List.getElem_cons_succ, numN, ih]
      rw [low_xor b _ hb0, low_xor b _ hb0, Nat.xor_assoc]
      congr 1
      rw [show 2 ^ (q + 8) = 2 ^ q * 256 from Nat.pow_add 2 q 8]
      have := Nat.shiftLeft_xor_distrib (a := numN l) (b := 2 ^ q) (i := 8)
      simpa [Nat.shiftLeft_eq, Nat.mul_comm] using this
theorem crcStep_nat (x : Nat) (h : x < 2 ^ 32) : crcStep (x : Int) = ((sN x : Nat) : Int) := by
  unfold crcStep sN
  have e1 : (Go.bits .and .u32 (x : Int) 1) = ((x % 2 : Nat) : Int) := by
    have := u32_and_nat x 1 (by omega) (by decide)
    rw [Nat.and_one_is_mod] at this
    exact this
  have e2 : ((x : Int) / 2) = ((x / 2 : Nat) : Int) := by omega
  rw [e1, e2]
  rcases Nat.mod_two_eq_zero_or_one x with hx | hx
  · rw [hx, if_neg (by omega)]
    exact u32_xor_nat (x / 2) 0 (by omega) (by decide)
  · rw [hx, if_pos rfl]
    exact u32_xor_nat (x / 2) 3988292384 (by omega) (by decide)
theorem crcReps_nat : ∀ (n x : Nat), x < 2 ^ 32 → crcReps n (x : Int) = ((rN n x : Nat) : Int)
  | 0, _, _ => rfl
  | n + 1, x, h => by rw [crcReps, crcStep_nat x h, crcReps_nat n _ (sN_lt h)]; rfl
theorem crcByte_nat (r b : Nat) (h : r < 2 ^ 32) (hb : b < 256) : crcByte (r : Int) (b : Int) = ((rN 8 (r ^^^ b) : Nat) : Int) := by
  unfold crcByte
  have e : ((b : Int) % 4294967296) = (b : Int) := by omega
  rw [e, u32_xor_nat r b (by omega) (by omega), crcReps_nat 8 _ (Nat.xor_lt_two_pow h (by omega))]
def bl (s : ByteArray) : List Nat := s.data.toList.map UInt8.toNat
theorem bl_lt (s : ByteArray) : ∀ b ∈ bl s, b < 256 := by
  intro b hb
  simp only [bl, List.mem_map] at hb
  obtain ⟨c, _, rfl⟩ := hb
  exact c.toNat_lt
theorem bl_length (s : ByteArray) : (bl s).length = s.size := by rw [bl, List.length_map, data_length]
theorem bt_bl (s : ByteArray) (i : Nat) (h : i < s.size) : bt s (i : Int) = (((bl s)[i]'(by rw [bl_length]; exact h) : Nat) : Int) := by
  have h' : (i : Int).toNat < s.size := by simpa using h
  unfold bt
  rw [dif_pos h']
  simp only [bl, List.getElem_map, Int.toNat_natCast]
  rfl
theorem crcFrom_nat (s : ByteArray) : ∀ (n i r : Nat), n + i = s.size → r < 2 ^ 32 → crcFrom n s (i : Int) (r : Int) = ((regN r ((bl s).drop i) : Nat) : Int)
  | 0, i, r, h, _ => by
    rw [List.drop_eq_nil_of_le (by rw [bl_length]; omega)]
    rfl
  | n + 1, i, r, h, hr => by
    have hi : i < (bl s).length := by rw [bl_length]; omega
    rw [crcFrom, bt_bl s i (by omega), crcByte_nat r _ hr (bl_lt s _ (List.getElem_mem _)), List.drop_eq_getElem_cons hi, regN]
    have hlt : rN 8 (r ^^^ (bl s)[i]) < 2 ^ 32 := rN_lt 8 (Nat.xor_lt_two_pow hr (Nat.lt_trans (bl_lt s _ (List.getElem_mem _)) (by decide)))
    exact crcFrom_nat s n (i + 1) _ (by omega) hlt
theorem crcAll_nat : ∀ (l : List ByteArray) (r : Nat), r < 2 ^ 32 → crcAll l (r : Int) = ((regN r (l.flatMap bl) : Nat) : Int)
  | [], _, _ => rfl
  | s :: l, r, hr => by
    rw [crcAll, show (0 : Int) = ((0 : Nat) : Int) from rfl, crcFrom_nat s s.size 0 r (by omega) hr, List.drop_zero, crcAll_nat l _ (regN_lt _ _ hr (bl_lt s)), List.flatMap_cons, regN_append]
/-- The sum of a row of bytes. -/
def sumN (l : List Nat) : Nat := 4294967295 ^^^ regN 4294967295 l
theorem crcSum_nat (l : List ByteArray) : Go.bits .xor .u32 4294967295 (crcAll l 4294967295) = ((sumN (l.flatMap bl) : Nat) : Int) := by
  have hb : ∀ b ∈ l.flatMap bl, b < 256 := by
    intro b hb
    obtain ⟨s, _, h⟩ := List.mem_flatMap.1 hb
    exact bl_lt s b h
  have h := crcAll_nat l 4294967295 (by decide)
  rw [show ((4294967295 : Nat) : Int) = 4294967295 from rfl] at h
  rw [h]
  exact u32_xor_nat 4294967295 _ (by decide) (regN_lt _ _ (by decide) hb)
theorem crc_Sum_f (l : List ByteArray) (h : crcOk l = true) : crc_Sum.f l = some ((sumN (l.flatMap bl) : Nat) : Int) := by
  unfold crc_Sum.f
  rw [if_pos h, crcSum_nat]
theorem sumN_lt (l : List Nat) (h : ∀ b ∈ l, b < 256) : sumN l < 2 ^ 32 := Nat.xor_lt_two_pow (by decide) (regN_lt _ _ (by decide) h)
theorem bl_extract (s : ByteArray) (a b : Nat) : bl (s.extract a b) = ((bl s).take b).drop a := by
  unfold bl
  rw [← List.map_take, ← List.map_drop]
  congr 1
  rw [ByteArray.data_extract, Array.toList_extract, List.extract_eq_take_drop, List.drop_take]
theorem awake_true : earshotlaw05_awake.f = some true := by
  unfold earshotlaw05_awake.f crc_Sum.f
  rw [if_pos (by decide +kernel)]
  simp only [Option.bind_some]
  decide +kernel
theorem size_ok {l : List ByteArray} (h : l.length ≤ 10) (hs : ∀ s ∈ l, s.size ≤ 100) : crcOk l = true := by
  simp only [crcOk, Bool.and_eq_true, decide_eq_true_eq, List.all_eq_true]
  exact ⟨by omega, fun s h => by have := hs s h; omega⟩
theorem blN_nums (xs : List Nat) (h : ∀ x ∈ xs, x < 256) : bl (strOfNums (xs.map Int.ofNat)) = xs := by
  unfold bl
  rw [strOfNums_data, List.map_map, List.map_map]
  have : ∀ x ∈ xs, ((UInt8.toNat ∘ fun n : Int => UInt8.ofNat n.toNat) ∘ Int.ofNat) x = x := by
    intro x hx
    have := h x hx
    simp only [Function.comp, Int.ofNat_eq_natCast, Int.toNat_natCast, UInt8.toNat_ofNat']
    omega
  rw [List.map_congr_left this]
  simp
theorem regN_eq (l : List Nat) (h : ∀ b ∈ l, b < 256) (n : Nat) (hn : l.length = n) : sumN l = 4294967295 ^^^ rN (8 * n) (4294967295 ^^^ numN l) := by
  unfold sumN
  rw [regN_num l _ h, hn]
theorem xorL_length (a b : List Nat) (n : Nat) (ha : a.length = n) (hb : b.length = n) : (xorL a b).length = n := by
  rw [xorL, List.length_zipWith, ha, hb, Nat.min_self]
theorem xorL_lt (a b : List Nat) (ha : ∀ x ∈ a, x < 256) (hb : ∀ x ∈ b, x < 256) : ∀ x ∈ xorL a b, x < 256 := by
  intro x hx
  rw [xorL, List.zipWith_eq_zipWith_take_min] at hx
  obtain ⟨i, hi, rfl⟩ := List.getElem_of_mem hx
  rw [List.getElem_zipWith]
  have h1 := ha _ (List.mem_of_mem_take (List.getElem_mem (l := a.take (min a.length b.length)) (n := i) (by rw [List.length_zipWith] at hi; omega)))
  have h2 := hb _ (List.mem_of_mem_take (List.getElem_mem (l := b.take (min a.length b.length)) (n := i) (by rw [List.length_zipWith] at hi; omega)))
  exact Nat.xor_lt_two_pow (n := 8) h1 h2
theorem sum_turned (a b c : List Nat) (n : Nat) (ha : ∀ x ∈ a, x < 256) (hb : ∀ x ∈ b, x < 256) (hc : ∀ x ∈ c, x < 256) (la : a.length = n) (lb : b.length = n) (lc : c.length = n) :
    sumN (xorL (xorL a b) c) = sumN a ^^^ sumN b ^^^ sumN c := by
  have lab := xorL_length a b n la lb
  rw [regN_eq _ (xorL_lt _ _ (xorL_lt a b ha hb) hc) n (xorL_length _ c n lab lc), regN_eq a ha n la, regN_eq b hb n lb, regN_eq c hc n lc,
    numN_xor _ c (by rw [lab, lc]) (xorL_lt a b ha hb) hc, numN_xor a b (by rw [la, lb]) ha hb]
  generalize numN a = p
  generalize numN b = q
  generalize numN c = r
  simp only [rN_xor]
  generalize rN (8 * n) p = p'
  generalize rN (8 * n) q = q'
  generalize rN (8 * n) r = r'
  generalize rN (8 * n) 4294967295 = m'
  generalize (4294967295 : Nat) = m
  apply Nat.eq_of_testBit_eq
  intro i
  simp only [Nat.testBit_xor]
  cases m.testBit i <;> cases m'.testBit i <;> cases p'.testBit i <;> cases q'.testBit i <;> cases r'.testBit i <;> rfl
theorem ofTake {α : Type} (l : List α) (i : Nat) (h : i < l.length) : l.take (i + 1) = l.take i ++ [l[i]] := by
  rw [List.take_add_one, List.getElem?_eq_getElem h]
  rfl
theorem crcOk_one (s : ByteArray) (h : s.size ≤ 100) : crcOk [s] = true := size_ok (by simp) (fun x hx => by rw [List.mem_singleton.1 hx]; exact h)
theorem take_at (l S : List Nat) (n i : Nat) (hS : l.take n = S) (h2 : i < S.length) (h4 : i < l.length) : S[i] = l[i] := by
  subst hS
  exact List.getElem_take
theorem bt_take (s : ByteArray) (n i : Nat) (S : List Nat) (hS : (bl s).take n = S) (h : i < n) (hs : n ≤ s.size) (h2 : i < S.length) : bt s (i : Int) = ((S[i] : Nat) : Int) ∧ S[i] < 256 := by
  have h4 : i < (bl s).length := by rw [bl_length]; exact Nat.lt_of_lt_of_le h hs
  rw [take_at (bl s) S n i hS h2 h4]
  exact ⟨bt_bl s i (Nat.lt_of_lt_of_le h hs), bl_lt s _ (List.getElem_mem h4)⟩
theorem next_i (i : Nat) (h : i < 1000) : wrap64 ((i : Int) + 1) = ((i + 1 : Nat) : Int) := by unfold wrap64; omega
theorem turned_l0 (a b c : ByteArray) (n : Nat) (hn : n ≤ 60) (ha : n ≤ a.size) (hb : n ≤ b.size) (hc : n ≤ c.size) (A B C : List Nat) (hA : (bl a).take n = A) (hB : (bl b).take n = B) (hC : (bl c).take n = C) :
    ∀ (j k i : Nat), i + j = n → earshotlaw05_CrcTurned.l0 (k + j + 1) a b c true (n : Int) (((xorL (xorL A B) C).take i).map Int.ofNat) (i : Int) = some true
  | 0, k, i, h => by
    have lA : A.length = n := by rw [← hA, List.length_take, bl_length]; omega
    have lB : B.length = n := by rw [← hB, List.length_take, bl_length]; omega
    have lC : C.length = n := by rw [← hC, List.length_take, bl_length]; omega
    have bA : ∀ x ∈ A, x < 256 := fun x hx => bl_lt a x (List.mem_of_mem_take (hA ▸ hx))
    have bB : ∀ x ∈ B, x < 256 := fun x hx => bl_lt b x (List.mem_of_mem_take (hB ▸ hx))
    have bC : ∀ x ∈ C, x < 256 := fun x hx => bl_lt c x (List.mem_of_mem_take (hC ▸ hx))
    have lX := xorL_length _ C n (xorL_length A B n lA lB) lC
    have bX := xorL_lt _ C (xorL_lt A B bA bB) bC
    have hin : i = n := by omega
    rw [hin, List.take_of_length_le (by rw [lX]; exact Nat.le_refl _), earshotlaw05_CrcTurned.l0, if_neg (by omega), if_pos rfl]
    have z : ∀ s : ByteArray, (s.extract 0 n).size ≤ 100 := fun s => by rw [ByteArray.size_extract]; omega
    have hs : (strOfNums ((xorL (xorL A B) C).map Int.ofNat)).size ≤ 100 := by rw [← bl_length, blN_nums _ bX, lX]; omega
    have e : ∀ (s : ByteArray) (S : List Nat), (bl s).take n = S → crc_Sum.f [s.extract 0 n] = some ((sumN S : Nat) : Int) := fun s S hS => by
      rw [crc_Sum_f _ (crcOk_one _ (z s)), List.flatMap_cons, List.flatMap_nil, List.append_nil, bl_extract, List.drop_zero, hS]
    have e0 : crc_Sum.f [strOfNums ((xorL (xorL A B) C).map Int.ofNat)] = some ((sumN (xorL (xorL A B) C) : Nat) : Int) := by
      rw [crc_Sum_f _ (crcOk_one _ hs), List.flatMap_cons, List.flatMap_nil, List.append_nil, blN_nums _ bX]
    have s1 := sumN_lt A bA
    have s2 := sumN_lt B bB
    have s3 := sumN_lt C bC
    rw [e0, bsome, if_pos (by omega), if_pos (by omega), Int.toNat_natCast, e a A hA, bsome, if_pos (by omega), e b B hB, bsome, if_pos (by omega), e c C hC, bsome,
      u32_xor_nat _ _ s1 s2, u32_xor_nat _ _ (Nat.xor_lt_two_pow s1 s2) s3, sum_turned A B C n bA bB bC lA lB lC, beq_self_eq_true]
  | j + 1, k, i, h => by
    have lA : A.length = n := by rw [← hA, List.length_take, bl_length]; omega
    have lB : B.length = n := by rw [← hB, List.length_take, bl_length]; omega
    have lC : C.length = n := by rw [← hC, List.length_take, bl_length]; omega
    have lX := xorL_length _ C n (xorL_length A B n lA lB) lC
    have hin : i < n := by omega
    obtain ⟨ga, ba⟩ := bt_take a n i A hA hin ha (by rw [lA]; exact hin)
    obtain ⟨gb, bb⟩ := bt_take b n i B hB hin hb (by rw [lB]; exact hin)
    obtain ⟨gc, bc⟩ := bt_take c n i C hC hin hc (by rw [lC]; exact hin)
    have hx : ((xorL (xorL A B) C)[i]'(by omega)) = A[i]'(by omega) ^^^ B[i]'(by omega) ^^^ C[i]'(by omega) := by
      simp only [xorL, List.getElem_zipWith]
    show earshotlaw05_CrcTurned.l0 ((k + j + 1) + 1) _ _ _ _ _ _ _ = _
    have hlen : (((xorL (xorL A B) C).take i).map Int.ofNat).length < 140737488355328 := by rw [List.length_map, List.length_take]; omega
    rw [earshotlaw05_CrcTurned.l0, if_pos (by omega), if_pos (by omega), if_pos (by omega), if_pos (by omega), if_pos (by omega), if_pos hlen, ga, gb, gc,
      u8_xor_nat _ _ ba bb, u8_xor_nat _ _ (Nat.xor_lt_two_pow (n := 8) ba bb) bc, next_i i (by omega), ← hx, show ((((xorL (xorL A B) C)[i]'(by omega) : Nat)) : Int) = Int.ofNat ((xorL (xorL A B) C)[i]'(by omega)) from rfl,
      ← List.map_singleton, ← List.map_append, ← ofTake _ i (by omega)]
    exact turned_l0 a b c n hn ha hb hc A B C hA hB hC j k (i + 1) (by omega)
theorem CrcTurned : earshotlaw05_CrcTurned.Pure := by
  intro a b c _ _ _
  obtain ⟨n, hn⟩ : ∃ n, min a.size (min b.size (min c.size 60)) = n := ⟨_, rfl⟩
  refine ⟨0 + n + 1, ?_⟩
  unfold earshotlaw05_CrcTurned.f
  have e : mn (a.size : Int) (mn (b.size : Int) (mn (c.size : Int) 60)) = (n : Int) := by
    subst hn
    have e1 : mn (c.size : Int) 60 = ((min c.size 60 : Nat) : Int) := by unfold mn; split <;> omega
    have e2 : ∀ x y : Nat, mn (x : Int) (y : Int) = ((min x y : Nat) : Int) := fun x y => by unfold mn; split <;> omega
    rw [e1, e2, e2]
  rw [awake_true, bsome, e]
  exact turned_l0 a b c n (by omega) (by omega) (by omega) (by omega) _ _ _ rfl rfl rfl n 0 0 (by omega)
end Go.Proofs.Yteihjdpbahfnnaa.Pure
