/- The plain law of DctRows: what the functions compute answers as the statement says. No conditions beside the statement's own. -/
import Derived.Test.YtmhacdnnnebpdaaDoorPDctRowsx
import Derived.Laws.BitsAllLaws
namespace Go.Proofs.YtmhacdnnnebpdaaDoor.Pure
open Go.RowKit Go.Proofs.YtmhacdnnnebpdaaDoor.PDctRows Go.Proofs.YtmhacdnnnebpdaaDoorW.PrintWords Go.Proofs.YtmhacdnnnebpdaaDoorW.PrintLast Go.Proofs.YtmhacdnnnebpdaaDoorW.PrintMore
set_option linter.unusedVariables false
set_option linter.unusedSimpArgs false
theorem bsome {α β : Type} (a : α) (f : α → Option β) : (some a).bind f = f a := by
  generalize h : some a = o
  cases o with
  | none => cases h
  | some b => cases h; rfl
theorem i64_mask (i : Nat) (hi : i ≤ 62) (n m : Int) (hm : m = ((2 ^ i - 1 : Nat) : Int)) : Go.bits .and .i64 n m = n % ((2 ^ i : Nat) : Int) := by
  have hp : 0 < 2 ^ i := Nat.two_pow_pos i
  have hle : 2 ^ i ≤ 4611686018427387904 := Nat.pow_le_pow_right (n := 2) (by decide) hi
  have h1 : (BitVec.ofInt 64 m).toNat = 2 ^ i - 1 := by
    subst hm
    rw [BitVec.ofInt_natCast, BitVec.toNat_ofNat]
    exact Nat.mod_eq_of_lt (by omega)
  have key : (BitVec.ofInt 64 n &&& BitVec.ofInt 64 m).toNat = (n % ((2 ^ 64 : Nat) : Int)).toNat % 2 ^ i := by
    rw [BitVec.toNat_and, BitVec.toNat_ofInt, h1, Nat.and_two_pow_sub_one_eq_mod]
  show IntKind.i64.wrap ((BitVec.ofInt 64 n &&& BitVec.ofInt 64 m).toNat : Nat) = n % _
  rw [key, IntKind.wrap_i64]
  have r0 : 0 ≤ n % ((2 ^ 64 : Nat) : Int) := Int.emod_nonneg _ (by decide)
  have e : (((n % ((2 ^ 64 : Nat) : Int)).toNat % 2 ^ i : Nat) : Int) = n % ((2 ^ i : Nat) : Int) := by
    rw [Int.natCast_emod, Int.toNat_of_nonneg r0]
    refine Int.emod_emod_of_dvd _ ?_
    exact Int.natCast_dvd_natCast.2 (Nat.pow_dvd_pow 2 (by omega))
  rw [e]
  generalize hz : n % ((2 ^ i : Nat) : Int) = z
  have m0 : 0 ≤ z := hz ▸ Int.emod_nonneg _ (by omega)
  have m1 : z < ((2 ^ i : Nat) : Int) := hz ▸ Int.emod_lt_of_pos _ (by omega)
  have hle' : ((2 ^ i : Nat) : Int) ≤ 4611686018427387904 := Int.ofNat_le.2 hle
  have m2 : z < 4611686018427387904 := Int.lt_of_lt_of_le m1 hle'
  clear m1 hle' hle hz e key h1
  omega
theorem drows_awake : earshotlaw12_awake.f 30 = some true := by decide +kernel
theorem drows4 : ∀ i : Fin 4, ((dct_Row.f ((i.1 : Nat) : Int) 4).bind fun t => if (t.length : Int) = 4 then earshotlaw12_DctRows.l0 30 true 4 ((i.1 : Nat) : Int) t 0 0 else some false) = some true := by decide +kernel
theorem drows8 : ∀ i : Fin 8, ((dct_Row.f ((i.1 : Nat) : Int) 8).bind fun t => if (t.length : Int) = 8 then earshotlaw12_DctRows.l0 30 true 8 ((i.1 : Nat) : Int) t 0 0 else some false) = some true := by decide +kernel
theorem drows16 : ∀ i : Fin 16, ((dct_Row.f ((i.1 : Nat) : Int) 16).bind fun t => if (t.length : Int) = 16 then earshotlaw12_DctRows.l0 30 true 16 ((i.1 : Nat) : Int) t 0 0 else some false) = some true := by decide +kernel
theorem drem {s e : Int} (h : s % 3 = e) : IntKind.u64.wrap (Int.tmod (wrap64 (Int.tmod s 3 + 3)) 3) = e := by
  have a := Int.lt_tmod_of_pos s (show (0 : Int) < 3 by decide)
  have b := Int.tmod_lt_of_pos s (show (0 : Int) < 3 by decide)
  have c := Int.tmod_eq_emod (a := s) (b := 3)
  have k2 : wrap64 (Int.tmod s 3 + 3) = Int.tmod s 3 + 3 := by unfold wrap64; omega
  have d : Int.tmod (Int.tmod s 3 + 3) 3 = e := by
    rw [Int.tmod_eq_emod_of_nonneg (by omega)]
    split at c <;> omega
  rw [k2, d, IntKind.wrap_u64]
  omega
theorem DctRows : earshotlaw12_DctRows.Pure := by
  intro a0 a1 _ _
  refine ⟨30, ?_⟩
  unfold earshotlaw12_DctRows.f
  rw [drows_awake, bsome]
  have m0 := Int.emod_nonneg a0 (show (3 : Int) ≠ 0 by decide)
  have m1 := Int.emod_lt_of_pos a0 (show (0 : Int) < 3 by decide)
  have hc : a0 % 3 = 0 ∨ a0 % 3 = 1 ∨ a0 % 3 = 2 := by omega
  rcases hc with h | h | h
  · rw [drem h, if_pos (by decide), show shl .i64 4 0 = 4 by decide, show wrap64 (4 - 1) = 3 by decide +kernel, i64_mask 2 (by decide) a1 3 rfl]
    obtain ⟨n, hn⟩ := Int.eq_ofNat_of_zero_le (Int.emod_nonneg a1 (show ((2 ^ 2 : Nat) : Int) ≠ 0 by decide))
    have hl := Int.emod_lt_of_pos a1 (show (0 : Int) < ((2 ^ 2 : Nat) : Int) by decide)
    rw [hn] at hl ⊢
    exact drows4 ⟨n, by omega⟩
  · rw [drem h, if_pos (by decide), show shl .i64 4 1 = 8 by decide, show wrap64 (8 - 1) = 7 by decide +kernel, i64_mask 3 (by decide) a1 7 rfl]
    obtain ⟨n, hn⟩ := Int.eq_ofNat_of_zero_le (Int.emod_nonneg a1 (show ((2 ^ 3 : Nat) : Int) ≠ 0 by decide))
    have hl := Int.emod_lt_of_pos a1 (show (0 : Int) < ((2 ^ 3 : Nat) : Int) by decide)
    rw [hn] at hl ⊢
    exact drows8 ⟨n, by omega⟩
  · rw [drem h, if_pos (by decide), show shl .i64 4 2 = 16 by decide, show wrap64 (16 - 1) = 15 by decide +kernel, i64_mask 4 (by decide) a1 15 rfl]
    obtain ⟨n, hn⟩ := Int.eq_ofNat_of_zero_le (Int.emod_nonneg a1 (show ((2 ^ 4 : Nat) : Int) ≠ 0 by decide))
    have hl := Int.emod_lt_of_pos a1 (show (0 : Int) < ((2 ^ 4 : Nat) : Int) by decide)
    rw [hn] at hl ⊢
    exact drows16 ⟨n, by omega⟩
end Go.Proofs.YtmhacdnnnebpdaaDoor.Pure
