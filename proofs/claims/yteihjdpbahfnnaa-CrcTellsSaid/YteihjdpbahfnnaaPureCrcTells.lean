/- The plain law of CrcTells: what the functions compute answers as the statement says. No conditions beside the statement's own. -/
import Derived.Test.YteihjdpbahfnnaaPCrcTellsx
import Derived.Laws.BitsAllLaws
namespace Go.Proofs.Yteihjdpbahfnnaa.Pure
open Go.RowKit Go.Proofs.Yteihjdpbahfnnaa.PCrcTells Go.Proofs.YteihjdpbahfnnaaW.PrintWords Go.Proofs.YteihjdpbahfnnaaW.PrintLast Go.Proofs.YteihjdpbahfnnaaW.PrintMore
set_option linter.unusedVariables false
set_option linter.unusedSimpArgs false
/-- One bit of the register. -/
def sN (x : Nat) : Nat := (x / 2) ^^^ (if x % 2 = 1 then 3988292384 else 0)
def rN : Nat → Nat → Nat
  | 0, x => x
  | n + 1, x => rN n (sN x)
theorem div2_xor (a b : Nat) : (a ^^^ b) / 2 = (a / 2) ^^^ (b / 2) := by
  have h := Nat.shiftRight_xor_distrib (a := a) (b := b) (i := 1)
  simpa [Nat.shiftRight_succ] using h
theorem mod2_xor (a b : Nat) : (a ^^^ b) % 2 = (a % 2 + b % 2) % 2 := by
  have h := Nat.xor_mod_two_eq_one (a := a) (b := b)
  have hab : (a ^^^ b) % 2 = 0 ∨ (a ^^^ b) % 2 = 1 := Nat.mod_two_eq_zero_or_one _
  rcases Nat.mod_two_eq_zero_or_one a with ha | ha <;> rcases Nat.mod_two_eq_zero_or_one b with hb | hb <;> rcases hab with hc | hc <;> rw [ha, hb, hc] at h <;> rw [ha, hb, hc] <;> revert h <;> decide
theorem sN_xor (a b : Nat) : sN (a ^^^ b) = sN a ^^^ sN b := by
  unfold sN
  rw [div2_xor, mod2_xor]
  rcases Nat.mod_two_eq_zero_or_one a with ha | ha <;> rcases Nat.mod_two_eq_zero_or_one b with hb | hb <;> simp only [ha, hb]
  · simp
  · simp [Nat.xor_assoc]
  · simp only [Nat.reduceAdd, Nat.reduceMod, if_true, Nat.zero_ne_one, if_false, Nat.xor_zero, reduceIte]
    rw [Nat.xor_assoc, Nat.xor_comm (b / 2), ← Nat.xor_assoc]
  · simp only [Nat.reduceAdd, Nat.reduceMod, if_true, Nat.zero_ne_one, if_false, Nat.xor_zero, reduceIte]
    rw [Nat.xor_assoc, Nat.xor_comm 3988292384 (b / 2 ^^^ 3988292384), Nat.xor_assoc (b / 2), Nat.xor_self, Nat.xor_zero]
theorem rN_xor : ∀ (n a b : Nat), rN n (a ^^^ b) = rN n a ^^^ rN n b
  | 0, _, _ => rfl
  | n + 1, a, b => by simp only [rN]; rw [sN_xor, rN_xor n]
theorem sN_two (y : Nat) : sN (2 * y) = y := by
  unfold sN
  rw [if_neg (by omega), Nat.mul_div_cancel_left y (by decide)]
  simp
theorem rN_two : ∀ (n y : Nat), rN n (2 ^ n * y) = y
  | 0, y => by simp [rN]
  | n + 1, y => by
    simp only [rN]
    rw [Nat.pow_succ, Nat.mul_comm (2 ^ n) 2, Nat.mul_assoc, sN_two, rN_two n]
theorem rN_add : ∀ (m n x : Nat), rN (m + n) x = rN n (rN m x)
  | 0, n, x => by simp [rN]
  | m + 1, n, x => by rw [Nat.succ_add]; simp only [rN]; exact rN_add m n _
theorem sN_lt {x : Nat} (h : x < 2 ^ 32) : sN x < 2 ^ 32 := by
  unfold sN
  refine Nat.xor_lt_two_pow (by omega) ?_
  split <;> decide
theorem sN_pos {x : Nat} (h : x < 2 ^ 32) (h0 : x ≠ 0) : sN x ≠ 0 := by
  unfold sN
  split
  · intro e
    have e2 : (x / 2 ^^^ 3988292384) ^^^ 3988292384 = 0 ^^^ 3988292384 := by rw [e]
    rw [Nat.xor_assoc, Nat.xor_self, Nat.xor_zero, Nat.zero_xor] at e2
    omega
  · simp; omega
theorem rN_lt : ∀ (n : Nat) {x : Nat}, x < 2 ^ 32 → rN n x < 2 ^ 32
  | 0, _, h => h
  | n + 1, _, h => rN_lt n (sN_lt h)
theorem rN_pos : ∀ (n : Nat) {x : Nat}, x < 2 ^ 32 → x ≠ 0 → rN n x ≠ 0
  | 0, _, _, h0 => h0
  | n + 1, _, h, h0 => rN_pos n (sN_lt h) (sN_pos h h0)
theorem rN_zero : ∀ n, rN n 0 = 0
  | 0 => rfl
  | n + 1 => by simp only [rN]; exact rN_zero n
/-- The register behind a row of bytes. -/
def regN (r : Nat) : List Nat → Nat
  | [] => r
  | b :: l => regN (rN 8 (r ^^^ b)) l
/-- A row of bytes as one number, the first one lowest. -/
def numN : List Nat → Nat
  | [] => 0
  | b :: l => b + 256 * numN l
theorem low_xor (b m : Nat) (h : b < 256) : b + 256 * m = b ^^^ (256 * m) := by
  apply Nat.eq_of_testBit_eq
  intro j
  have e1 : 256 * m = 2 ^ 8 * m := by rfl
  rw [Nat.add_comm, e1, Nat.testBit_two_pow_mul_add m (by simpa using h), Nat.testBit_xor, Nat.testBit_two_pow_mul]
  split
  · rename_i hj
    simp [show ¬ (8 ≤ j) by omega]
  · rename_i hj
    have : b.testBit j = false := Nat.testBit_lt_two_pow (Nat.lt_of_lt_of_le h (by simpa using Nat.pow_le_pow_right (n := 2) (by decide) (show 8 ≤ j by omega)))
    simp [this, show 8 ≤ j by omega]
theorem regN_num : ∀ (l : List Nat) (r : Nat), (∀ b ∈ l, b < 256) → regN r l = rN (8 * l.length) (r ^^^ numN l)
  | [], r, _ => by simp [regN, rN, numN]
  | b :: l, r, h => by
    have hb := h b (by simp)
    simp only [regN, numN, List.length_cons]
    rw [regN_num l _ (fun x hx => h x (by simp [hx])), low_xor b _ hb, Nat.mul_succ, Nat.add_comm, rN_add]
    congr 1
    rw [← Nat.xor_assoc, rN_xor 8 (r ^^^ b), show 256 * numN l = 2 ^ 8 * numN l from rfl, rN_two]
theorem regN_append (r : Nat) : ∀ (a b : List Nat), regN r (a ++ b) = regN (regN r a) b := by
  intro a
  induction a generalizing r with
  | nil => intro b; rfl
  | cons x a ih => intro b; simp only [List.cons_append, regN]; exact ih _ b
theorem regN_lt : ∀ (l : List Nat) (r : Nat), r < 2 ^ 32 → (∀ b ∈ l, b < 256) → regN r l < 2 ^ 32
  | [], r, h, _ => h
  | b :: l, r, h, hb => by
    simp only [regN]
    exact regN_lt l _ (rN_lt 8 (Nat.xor_lt_two_pow h (Nat.lt_trans (hb b (by simp)) (by decide)))) (fun x hx => hb x (by simp [hx]))
def xorL (a b : List Nat) : List Nat := List.zipWith (· ^^^ ·) a b
theorem numN_xor : ∀ (a b : List Nat), a.length = b.length → (∀ x ∈ a, x < 256) → (∀ x ∈ b, x < 256) → numN (xorL a b) = numN a ^^^ numN b
  | [], [], _, _, _ => rfl
  | x :: a, y :: b, hl, ha, hb => by
    have hx := ha x (by simp)
    have hy := hb y (by simp)
    simp only [xorL, List.zipWith_cons_cons, numN]
    have ih := numN_xor a b (by simpa using hl) (fun z hz => ha z (by simp [hz])) (fun z hz => hb z (by simp [hz]))
    have h2 : x ^^^ y < 256 := Nat.xor_lt_two_pow (n := 8) hx hy
    rw [show List.zipWith (· ^^^ ·) a b = xorL a b from rfl, ih, low_xor _ _ h2, low_xor x _ hx, low_xor y _ hy]
    rw [show 256 * (numN a ^^^ numN b) = (256 * numN a) ^^^ (256 * numN b) by
      have := Nat.shiftLeft_xor_distrib (a := numN a) (b := numN b) (i := 8)
      simpa [Nat.shiftLeft_eq, Nat.mul_comm] using this]
    simp only [Nat.xor_assoc]
    congr 1
    rw [← Nat.xor_assoc (256 * numN a), Nat.xor_comm (256 * numN a) y, Nat.xor_assoc]
def le4 (c : Nat) : List Nat := [c % 256, c / 256 % 256, c / 65536 % 256, c / 16777216 % 256]
theorem le4_lt (c : Nat) : ∀ b ∈ le4 c, b < 256 := by
  intro b hb
  simp only [le4, List.mem_cons, List.not_mem_nil, or_false] at hb
  omega
theorem numN_le4 {c : Nat} (h : c < 2 ^ 32) : numN (le4 c) = c := by
  simp only [le4, numN]
  omega
/-- A sealed row ends at one and the same register. -/
theorem sealed_reg (s : List Nat) (hs : ∀ b ∈ s, b < 256) : regN 4294967295 (s ++ le4 (4294967295 ^^^ regN 4294967295 s)) = rN 32 4294967295 := by
  have hr := regN_lt s 4294967295 (by decide) hs
  have hc : 4294967295 ^^^ regN 4294967295 s < 2 ^ 32 := Nat.xor_lt_two_pow (by decide) hr
  rw [regN_append, regN_num _ _ (le4_lt _), numN_le4 hc]
  rw [show (le4 (4294967295 ^^^ regN 4294967295 s)).length = 4 from rfl, Nat.xor_comm, Nat.xor_assoc, Nat.xor_self, Nat.xor_zero]
/-- Bits that are turned within 32 in a row turn the register. -/
theorem turned_reg (l l' : List Nat) (from_ y r : Nat) (hl : l'.length = l.length) (hb : ∀ b ∈ l, b < 256) (hb' : ∀ b ∈ l', b < 256) (hn : numN l' = numN l ^^^ (2 ^ from_ * y)) (hf : from_ ≤ 8 * l.length) (hy : y < 2 ^ 32) (h0 : y ≠ 0) :
    regN r l' ≠ regN r l := by
  rw [regN_num _ _ hb, regN_num _ _ hb', hn, hl, ← Nat.xor_assoc, rN_xor]
  have e : rN (8 * l.length) (2 ^ from_ * y) = rN (8 * l.length - from_) y := by
    have h := rN_add from_ (8 * l.length - from_) (2 ^ from_ * y)
    rw [show from_ + (8 * l.length - from_) = 8 * l.length by omega] at h
    rw [h, rN_two]
  have hp := rN_pos (8 * l.length - from_) hy h0
  rw [e]
  intro he
  apply hp
  have h2 : rN (8 * l.length) (r ^^^ numN l) ^^^ (rN (8 * l.length) (r ^^^ numN l) ^^^ rN (8 * l.length - from_) y) = rN (8 * l.length) (r ^^^ numN l) ^^^ rN (8 * l.length) (r ^^^ numN l) := by rw [he]
  rwa [← Nat.xor_assoc, Nat.xor_self, Nat.zero_xor] at h2
theorem numN_set : ∀ (l : List Nat) (p : Nat) (_ : ∀ b ∈ l, b < 256) (h : p / 8 < l.length), numN (l.set (p / 8) (l[p / 8] ^^^ 2 ^ (p % 8))) = numN l ^^^ 2 ^ p
  | [], p, _, h => by simp at h
  | b :: l, p, hb, h => by
    have hb0 := hb b (by simp)
    by_cases hp : p / 8 = 0
    · have e : p % 8 = p := by omega
      have hlt : b ^^^ 2 ^ p < 256 := Nat.xor_lt_two_pow (n := 8) hb0 (Nat.pow_lt_pow_right (by decide) (by omega))
      simp only [hp, List.set_cons_zero, List.getElem_cons_zero, numN, e]
      rw [low_xor _ _ hlt, low_xor b _ hb0, Nat.xor_assoc, Nat.xor_assoc, Nat.xor_comm (2 ^ p)]
    · obtain ⟨q, rfl⟩ : ∃ q, p = q + 8 := ⟨p - 8, by omega⟩
      have e1 : (q + 8) / 8 = q / 8 + 1 := by omega
      have e2 : (q + 8) % 8 = q % 8 := by omega
      have hq : q / 8 < l.length := by rw [e1] at h; simpa using h
      have ih := numN_set l q (fun x hx => hb x (by simp [hx])) hq
      simp only [e1, e2, List.set_cons_succ, List.getElem_cons_succ, numN, ih]
      rw [low_xor b _ hb0, low_xor b _ hb0, Nat.xor_assoc]
      congr 1
      rw [show 2 ^ (q + 8) = 2 ^ q * 256 from Nat.pow_add 2 q 8]
      have := Nat.shiftLeft_xor_distrib (a := numN l) (b := 2 ^ q) (i := 8)
      simpa [Nat.shiftLeft_eq, Nat.mul_comm] using this
theorem crcStep_nat (x : Nat) (h : x < 2 ^ 32) : crcStep (x : Int) = ((sN x : Nat) : Int) := by
  unfold crcStep sN
  have e1 : (Go.bits .and .u32 (x : Int) 1) = ((x % 2 : Nat) : Int) := by
    have := u32_and_nat x 1 (by omega) (by decide)
    rw [Nat.and_one_is_mod] at this
    exact this
  have e2 : ((x : Int) / 2) = ((x / 2 : Nat) : Int) := by omega
  rw [e1, e2]
  rcases Nat.mod_two_eq_zero_or_one x with hx | hx
  · rw [hx, if_neg (by omega)]
    exact u32_xor_nat (x / 2) 0 (by omega) (by decide)
  · rw [hx, if_pos rfl]
    exact u32_xor_nat (x / 2) 3988292384 (by omega) (by decide)
theorem crcReps_nat : ∀ (n x : Nat), x < 2 ^ 32 → crcReps n (x : Int) = ((rN n x : Nat) : Int)
  | 0, _, _ => rfl
  | n + 1, x, h => by rw [crcReps, crcStep_nat x h, crcReps_nat n _ (sN_lt h)]; rfl
theorem crcByte_nat (r b : Nat) (h : r < 2 ^ 32) (hb : b < 256) : crcByte (r : Int) (b : Int) = ((rN 8 (r ^^^ b) : Nat) : Int) := by
  unfold crcByte
  have e : ((b : Int) % 4294967296) = (b : Int) := by omega
  rw [e, u32_xor_nat r b (by omega) (by omega), crcReps_nat 8 _ (Nat.xor_lt_two_pow h (by omega))]
def bl (s : ByteArray) : List Nat := s.data.toList.map UInt8.toNat
theorem bl_lt (s : ByteArray) : ∀ b ∈ bl s, b < 256 := by
  intro b hb
  simp only [bl, List.mem_map] at hb
  obtain ⟨c, _, rfl⟩ := hb
  exact c.toNat_lt
theorem bl_length (s : ByteArray) : (bl s).length = s.size := by rw [bl, List.length_map, data_length]
theorem bt_bl (s : ByteArray) (i : Nat) (h : i < s.size) : bt s (i : Int) = (((bl s)[i]'(by rw [bl_length]; exact h) : Nat) : Int) := by
  have h' : (i : Int).toNat < s.size := by simpa using h
  unfold bt
  rw [dif_pos h']
  simp only [bl, List.getElem_map, Int.toNat_natCast]
  rfl
theorem crcFrom_nat (s : ByteArray) : ∀ (n i r : Nat), n + i = s.size → r < 2 ^ 32 → crcFrom n s (i : Int) (r : Int) = ((regN r ((bl s).drop i) : Nat) : Int)
  | 0, i, r, h, _ => by
    rw [List.drop_eq_nil_of_le (by rw [bl_length]; omega)]
    rfl
  | n + 1, i, r, h, hr => by
    have hi : i < (bl s).length := by rw [bl_length]; omega
    rw [crcFrom, bt_bl s i (by omega), crcByte_nat r _ hr (bl_lt s _ (List.getElem_mem _)), List.drop_eq_getElem_cons hi, regN]
    have hlt : rN 8 (r ^^^ (bl s)[i]) < 2 ^ 32 := rN_lt 8 (Nat.xor_lt_two_pow hr (Nat.lt_trans (bl_lt s _ (List.getElem_mem _)) (by decide)))
    exact crcFrom_nat s n (i + 1) _ (by omega) hlt
theorem crcAll_nat : ∀ (l : List ByteArray) (r : Nat), r < 2 ^ 32 → crcAll l (r : Int) = ((regN r (l.flatMap bl) : Nat) : Int)
  | [], _, _ => rfl
  | s :: l, r, hr => by
    rw [crcAll, show (0 : Int) = ((0 : Nat) : Int) from rfl, crcFrom_nat s s.size 0 r (by omega) hr, List.drop_zero, crcAll_nat l _ (regN_lt _ _ hr (bl_lt s)), List.flatMap_cons, regN_append]
/-- The sum of a row of bytes. -/
def sumN (l : List Nat) : Nat := 4294967295 ^^^ regN 4294967295 l
theorem crcSum_nat (l : List ByteArray) : Go.bits .xor .u32 4294967295 (crcAll l 4294967295) = ((sumN (l.flatMap bl) : Nat) : Int) := by
  have hb : ∀ b ∈ l.flatMap bl, b < 256 := by
    intro b hb
    obtain ⟨s, _, h⟩ := List.mem_flatMap.1 hb
    exact bl_lt s b h
  have h := crcAll_nat l 4294967295 (by decide)
  rw [show ((4294967295 : Nat) : Int) = 4294967295 from rfl] at h
  rw [h]
  exact u32_xor_nat 4294967295 _ (by decide) (regN_lt _ _ (by decide) hb)
theorem crc_Sum_f (l : List ByteArray) (h : crcOk l = true) : crc_Sum.f l = some ((sumN (l.flatMap bl) : Nat) : Int) := by
  unfold crc_Sum.f
  rw [if_pos h, crcSum_nat]
theorem sumN_lt (l : List Nat) (h : ∀ b ∈ l, b < 256) : sumN l < 2 ^ 32 := Nat.xor_lt_two_pow (by decide) (regN_lt _ _ (by decide) h)
theorem bl_extract (s : ByteArray) (a b : Nat) : bl (s.extract a b) = ((bl s).take b).drop a := by
  unfold bl
  rw [← List.map_take, ← List.map_drop]
  congr 1
  rw [ByteArray.data_extract, Array.toList_extract, List.extract_eq_take_drop, List.drop_take]
theorem awake_true : earshotlaw05_awake.f = some true := by
  unfold earshotlaw05_awake.f crc_Sum.f
  rw [if_pos (by decide +kernel)]
  simp only [Option.bind_some]
  decide +kernel
theorem size_ok {l : List ByteArray} (h : l.length ≤ 10) (hs : ∀ s ∈ l, s.size ≤ 100) : crcOk l = true := by
  simp only [crcOk, Bool.and_eq_true, decide_eq_true_eq, List.all_eq_true]
  exact ⟨by omega, fun s h => by have := hs s h; omega⟩
theorem short_some (a : ByteArray) : ∃ s, earshotlaw05_short.f a = some s ∧ s.size ≤ 60 := by
  unfold earshotlaw05_short.f
  split
  · rename_i h
    rw [if_pos (by decide), if_pos (by omega)]
    exact ⟨_, rfl, by rw [ByteArray.size_extract]; omega⟩
  · rename_i h
    exact ⟨a, rfl, by omega⟩
def sealB (s : ByteArray) : ByteArray := strOfNums (bytesOf s ++ crcLe 4 (crcSumOf s))
theorem bl_ext {a b : ByteArray} (h : bl a = bl b) : a = b := by
  have h2 : a.data.toList = b.data.toList := (List.map_inj_right (f := UInt8.toNat) (fun x y e => UInt8.toNat_inj.1 e)).1 h
  cases a; cases b
  simpa using h2
theorem bl_nums (xs : List Nat) (h : ∀ x ∈ xs, x < 256) : bl (strOfNums (xs.map Int.ofNat)) = xs := by
  unfold bl
  rw [strOfNums_data, List.map_map, List.map_map]
  have : ∀ x ∈ xs, ((UInt8.toNat ∘ fun n : Int => UInt8.ofNat n.toNat) ∘ Int.ofNat) x = x := by
    intro x hx
    have := h x hx
    simp only [Function.comp, Int.ofNat_eq_natCast, Int.toNat_natCast, UInt8.toNat_ofNat']
    omega
  rw [List.map_congr_left this]
  simp
theorem bytesOf_bl (s : ByteArray) : bytesOf s = (bl s).map Int.ofNat := by
  simp [bytesOf, bl, List.map_map, Function.comp_def]
theorem crcLe_nat (c : Nat) : crcLe 4 (c : Int) = (le4 c).map Int.ofNat := by
  simp only [crcLe, le4, List.map_cons, List.map_nil, Int.ofNat_eq_natCast]
  refine List.cons_eq_cons.2 ⟨by omega, List.cons_eq_cons.2 ⟨by omega, List.cons_eq_cons.2 ⟨by omega, List.cons_eq_cons.2 ⟨by omega, rfl⟩⟩⟩⟩
theorem bl_seal (s : ByteArray) : bl (sealB s) = bl s ++ le4 (sumN (bl s)) := by
  have e : crcSumOf s = ((sumN (bl s) : Nat) : Int) := by
    unfold crcSumOf
    rw [crcSum_nat, List.flatMap_cons, List.flatMap_nil, List.append_nil]
  unfold sealB
  rw [e, bytesOf_bl, crcLe_nat, ← List.map_append, bl_nums]
  intro x hx
  rcases List.mem_append.1 hx with h | h
  · exact bl_lt s x h
  · exact le4_lt _ x h
theorem seal_size (s : ByteArray) : (sealB s).size = s.size + 4 := by
  rw [← bl_length, bl_seal, List.length_append, bl_length]
  rfl
theorem seal_head (s : ByteArray) : (sealB s).extract 0 s.size = s := by
  refine bl_ext ?_
  rw [bl_extract, List.drop_zero, bl_seal, List.take_left' (bl_length s)]
theorem seal_f (s : ByteArray) (h : s.size ≤ 1000) : crc_Seal.f s = some (sealB s) := by
  unfold crc_Seal.f
  rw [if_pos (by omega)]
  rfl
theorem open_seal (s : ByteArray) (h : s.size ≤ 1000) : crc_Open.f (sealB s) = some (s, true) := by
  unfold crc_Open.f
  have hz := seal_size s
  have e : wrap64 (((sealB s).size : Int) - 4) = (s.size : Int) := by rw [hz]; unfold wrap64; omega
  rw [if_neg (by omega), e, if_pos (by omega), if_pos (by omega), Int.toNat_natCast, seal_head, seal_f s h, Option.bind_some, if_pos rfl]
theorem open_short (s : ByteArray) (h : s.size < 4) : crc_Open.f s = some ((⟨#[]⟩ : ByteArray), false) := by
  unfold crc_Open.f
  rw [if_pos (by omega)]
theorem data_of_toList {a b : ByteArray} (h : a.toList = b.toList) : a = b := by
  have e : ∀ s : ByteArray, s.toList = s.data.toList := fun s => ByteArray.toList_eq s
  rw [e, e] at h
  cases a; cases b
  simpa using h
/-- What is opened is sealed. -/
theorem open_sealed (f : ByteArray) (hf : f.size ≤ 1000) (h4 : 4 ≤ f.size) : (∃ s, s.size ≤ 996 ∧ f = sealB s ∧ crc_Open.f f = some (s, true)) ∨ (∀ s, s.size ≤ 1000 → f ≠ sealB s) ∧ crc_Open.f f = some ((⟨#[]⟩ : ByteArray), false) := by
  have e : wrap64 ((f.size : Int) - 4) = ((f.size - 4 : Nat) : Int) := by unfold wrap64; omega
  have hs : (f.extract 0 (f.size - 4)).size = f.size - 4 := by rw [ByteArray.size_extract]; omega
  by_cases hq : sealB (f.extract 0 (f.size - 4)) = f
  · refine .inl ⟨f.extract 0 (f.size - 4), by omega, hq.symm, ?_⟩
    have := open_seal (f.extract 0 (f.size - 4)) (by omega)
    rwa [hq] at this
  · refine .inr ⟨fun s hs2 he => hq ?_, ?_⟩
    · have : f.extract 0 (f.size - 4) = s := by
        rw [he, seal_size, Nat.add_sub_cancel, seal_head]
      rw [this, he]
    · unfold crc_Open.f
      rw [if_neg (by omega), e, if_pos (by omega), if_pos (by omega), Int.toNat_natCast, seal_f _ (by omega), Option.bind_some, if_neg (fun h => hq (data_of_toList h))]
theorem refstep_nat (x : Nat) (h : x < 2 ^ 32) : earshotref05_step.f (x : Int) = some ((sN x : Nat) : Int) := by
  unfold earshotref05_step.f sN
  have e0 : Int.tmod (x : Int) 2 = ((x % 2 : Nat) : Int) := by rw [Int.tmod_eq_emod_of_nonneg (by omega)]; omega
  have e1 : (Int.tdiv (x : Int) 2) % 4294967296 = ((x / 2 : Nat) : Int) := by rw [Int.tdiv_eq_ediv_of_nonneg (by omega)]; omega
  rw [e0, e1]
  rcases Nat.mod_two_eq_zero_or_one x with hx | hx
  · rw [hx, if_neg (by decide), if_neg (by decide), Nat.xor_zero]
  · rw [hx, if_pos (by decide), if_pos rfl]
    have := u32_xor_nat (x / 2) 3988292384 (by omega) (by decide)
    rw [← this]; rfl
theorem ref_l1 (s : ByteArray) (i : Int) (K : Nat) : ∀ (d j x : Nat), j + d = 8 → x < 2 ^ 32 → earshotref05_Sum.l1 (K + d + 1) s (x : Int) i (j : Int) = earshotref05_Sum.l0 K s ((rN d x : Nat) : Int) (wrap64 (i + 1))
  | 0, j, x, hj, _ => by
    rw [Nat.add_zero]
    simp only [earshotref05_Sum.l1]
    rw [if_neg (by omega)]
    rfl
  | d + 1, j, x, hj, hx => by
    rw [show K + (d + 1) + 1 = (K + d + 1) + 1 by omega]
    rw [earshotref05_Sum.l1, if_pos (by omega), refstep_nat x hx, Option.bind_some, show wrap64 ((j : Int) + 1) = ((j + 1 : Nat) : Int) by unfold wrap64; omega]
    rw [ref_l1 s i K d (j + 1) (sN x) (by omega) (sN_lt hx)]
    rfl
theorem ref_l0 (s : ByteArray) (hs : s.size ≤ 1000000) (m : Nat) : ∀ (n i r : Nat), n + i = s.size → r < 2 ^ 32 → earshotref05_Sum.l0 (10 * n + 1 + m) s (r : Int) (i : Int) = some ((4294967295 ^^^ regN r ((bl s).drop i) : Nat) : Int)
  | 0, i, r, h, hr => by
    rw [show 10 * 0 + 1 + m = m + 1 by omega]
    rw [earshotref05_Sum.l0, if_neg (by omega), List.drop_of_length_le (by rw [bl_length]; omega)]
    have := u32_xor_nat r 4294967295 (by omega) (by decide)
    rw [Nat.xor_comm]
    rw [regN, ← this]; rfl
  | n + 1, i, r, h, hr => by
    have hi : i < s.size := by omega
    have hd : (bl s).drop i = (bl s)[i]'(by rw [bl_length]; exact hi) :: (bl s).drop (i + 1) := List.drop_eq_getElem_cons _
    have hb := bl_lt s _ (List.getElem_mem (by rw [bl_length]; exact hi : i < (bl s).length))
    rw [show 10 * (n + 1) + 1 + m = (((10 * n + 1 + m) + 8 + 1) + 1) by omega]
    rw [earshotref05_Sum.l0, if_pos (by omega), if_pos (by omega), bt_bl s i hi]
    rw [show (((bl s)[i]'(by rw [bl_length]; exact hi) : Nat) : Int) % 4294967296 = (((bl s)[i]'(by rw [bl_length]; exact hi) : Nat) : Int) by omega, u32_xor_nat r _ (by omega) (by omega)]
    have hx : r ^^^ (bl s)[i]'(by rw [bl_length]; exact hi) < 2 ^ 32 := Nat.xor_lt_two_pow hr (by omega)
    have h1 := ref_l1 s (i : Int) (10 * n + 1 + m) 8 0 _ rfl hx
    rw [show ((0 : Nat) : Int) = 0 from rfl] at h1
    rw [h1, show wrap64 ((i : Int) + 1) = ((i + 1 : Nat) : Int) by unfold wrap64; omega]
    rw [ref_l0 s hs m n (i + 1) _ (by omega) (rN_lt 8 hx), hd, regN]
theorem ref_sum (s : ByteArray) (hs : s.size ≤ 100) : earshotref05_Sum.f 1001 s = some ((sumN (bl s) : Nat) : Int) := by
  unfold earshotref05_Sum.f
  have h := ref_l0 s (by omega) (1000 - 10 * s.size) s.size 0 4294967295 (by omega) (by decide)
  rw [show 10 * s.size + 1 + (1000 - 10 * s.size) = 1001 by omega] at h
  exact h
theorem bl_append (a b : ByteArray) : bl (a ++ b) = bl a ++ bl b := by simp [bl]
theorem ref_seal (s : ByteArray) (hs : s.size ≤ 100) : earshotref05_Seal.f 1001 s = some (sealB s) := by
  unfold earshotref05_Seal.f
  rw [ref_sum s hs, Option.bind_some]
  generalize hc : sumN (bl s) = c
  have hlt : c < 2 ^ 32 := hc ▸ sumN_lt _ (bl_lt s)
  have e : ([((c : Nat) : Int) % 256, ((c : Nat) : Int) / 256 % 256, ((c : Nat) : Int) / 65536 % 256, ((c : Nat) : Int) / 16777216 % 256] : List Int) = (le4 c).map Int.ofNat := by
    simp only [le4, List.map_cons, List.map_nil, Int.ofNat_eq_natCast]
    rfl
  rw [e, Option.bind_some]
  have hb : bl (strOfNums ((le4 c).map Int.ofNat)) = le4 c := bl_nums _ (le4_lt c)
  have hz : (strOfNums ((le4 c).map Int.ofNat)).size = 4 := by rw [← bl_length, hb]; rfl
  rw [if_pos (by omega)]
  congr 1
  refine bl_ext ?_
  rw [bl_append, hb, bl_seal, hc]
theorem ref_open (f : ByteArray) (hf : f.size ≤ 100) : ∃ a b, crc_Open.f f = some (a, b) ∧ earshotref05_Open.f 1001 f = some (a, b) := by
  unfold crc_Open.f earshotref05_Open.f
  by_cases h4 : (f.size : Int) < 4
  · rw [if_pos h4, if_pos h4]
    exact ⟨_, _, rfl, rfl⟩
  · have e : wrap64 ((f.size : Int) - 4) = ((f.size - 4 : Nat) : Int) := by unfold wrap64; omega
    have hz : (f.extract 0 (f.size - 4)).size = f.size - 4 := by rw [ByteArray.size_extract]; omega
    rw [if_neg h4, if_neg h4, e, if_pos (by omega), if_pos (by omega), if_pos (by omega), if_pos (by omega), Int.toNat_natCast, seal_f _ (by omega), ref_seal _ (by omega), Option.bind_some]
    split <;> exact ⟨_, _, rfl, rfl⟩
theorem opens_true (f : ByteArray) (hf : f.size ≤ 100) : earshotlaw05_opens.f 1001 f = some true := by
  obtain ⟨a, b, h1, h2⟩ := ref_open f hf
  unfold earshotlaw05_opens.f
  rw [h1, h2, Option.bind_some, Option.bind_some, if_pos rfl]
  simp
theorem tell_range {n : Nat} (h0 : 0 < n) (h1 : n ≤ 1000) (q : Int) : 0 ≤ tellI (n : Int) q ∧ tellI (n : Int) q < (n : Int) := by
  unfold tellI
  have a := Int.lt_tmod_of_pos q (show (0 : Int) < (n : Int) by omega)
  have b := Int.tmod_lt_of_pos q (show (0 : Int) < (n : Int) by omega)
  rw [show wrap64 (Int.tmod q (n : Int) + (n : Int)) = Int.tmod q (n : Int) + (n : Int) by unfold wrap64; omega, Int.tmod_eq_emod_of_nonneg (by omega)]
  exact ⟨Int.emod_nonneg _ (by omega), Int.emod_lt_of_pos _ (by omega)⟩
theorem nums_size (xs : List Int) : (strOfNums xs).size = xs.length := by
  rw [← data_length, strOfNums_data, List.length_map]
theorem CrcTells : earshotlaw05_CrcTells.Pure := by
  intro a0 a1 q0 q1 _ _ _ _
  refine ⟨1001, ?_⟩
  obtain ⟨s, hs, hz⟩ := short_some a0
  obtain ⟨u, hu, hy⟩ := short_some a1
  have hsz := seal_size s
  have hok : crcOk [s] = true := size_ok (by simp) (by simp; omega)
  have hsum : crc_Sum.f [s] = some ((sumN (bl s) : Nat) : Int) := by
    rw [crc_Sum_f [s] hok, List.flatMap_cons, List.flatMap_nil, List.append_nil]
  obtain ⟨i0, i1⟩ := tell_range (n := (sealB s).size) (by omega) (by omega) q0
  have ho2 := opens_true (strOfNums ((bytesOf (sealB s)).set (tellI ((sealB s).size : Int) q0).toNat (q1 % 256))) (by rw [nums_size, List.length_set, bytesOf_length]; omega)
  unfold earshotlaw05_CrcTells.f
  rw [awake_true, Option.bind_some, hs, Option.bind_some, ref_seal s (by omega), Option.bind_some, hsum, Option.bind_some, ref_sum s (by omega), Option.bind_some, seal_f s (by omega), Option.bind_some, hu, Option.bind_some, opens_true u (by omega), Option.bind_some, ho2, Option.bind_some]
  rw [if_pos ⟨rfl, rfl, rfl, rfl, rfl, by omega, by omega, i0, i1⟩]
end Go.Proofs.Yteihjdpbahfnnaa.Pure
