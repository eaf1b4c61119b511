-- Written by a program of this work (wip/tools) for this claim; Lean checks it.
import Derived.Test.YteihjdpbahfnnaaPCrcPartsx0
import Derived.Test.YteihjdpbahfnnaaPCrcPartsx1
namespace Go.Proofs.Yteihjdpbahfnnaa.PCrcParts
open Go.RowKit Go.Proofs.YteihjdpbahfnnaaW.PrintWords Go.Proofs.YteihjdpbahfnnaaW.PrintLast Go.Proofs.YteihjdpbahfnnaaW.PrintMore
attribute [local go_sem] max2_int min2_int max_two min_two max_three min_three max_four min_four   -- for this text's walks alone
set_option linter.unusedVariables false
set_option linter.unusedSimpArgs false

/-! ### earshotlaw05_CrcParts: function 3 -/
def earshotlaw05_CrcParts.f (a0 : ByteArray) (a1_0 : Int) (a1_1 : Int) : Option (Bool) := (earshotlaw05_awake.f).bind fun t106 => ((earshotlaw05_short.f a0).bind fun t107 => (if (wrap64 ((t107.size : Int) + 1)) = 0 then (none) else (if (Int.tmod (wrap64 ((Int.tmod a1_0 (wrap64 ((t107.size : Int) + 1))) + (wrap64 ((t107.size : Int) + 1)))) (wrap64 ((t107.size : Int) + 1))) > (Int.tmod (wrap64 ((Int.tmod a1_1 (wrap64 ((t107.size : Int) + 1))) + (wrap64 ((t107.size : Int) + 1)))) (wrap64 ((t107.size : Int) + 1))) then (if t106 = true then (if 0 ≤ (Int.tmod (wrap64 ((Int.tmod a1_1 (wrap64 ((t107.size : Int) + 1))) + (wrap64 ((t107.size : Int) + 1)))) (wrap64 ((t107.size : Int) + 1))) then (if (Int.tmod (wrap64 ((Int.tmod a1_1 (wrap64 ((t107.size : Int) + 1))) + (wrap64 ((t107.size : Int) + 1)))) (wrap64 ((t107.size : Int) + 1))) ≤ (t107.size : Int) then (if (Int.tmod (wrap64 ((Int.tmod a1_1 (wrap64 ((t107.size : Int) + 1))) + (wrap64 ((t107.size : Int) + 1)))) (wrap64 ((t107.size : Int) + 1))) ≤ (Int.tmod (wrap64 ((Int.tmod a1_0 (wrap64 ((t107.size : Int) + 1))) + (wrap64 ((t107.size : Int) + 1)))) (wrap64 ((t107.size : Int) + 1))) then (if (Int.tmod (wrap64 ((Int.tmod a1_0 (wrap64 ((t107.size : Int) + 1))) + (wrap64 ((t107.size : Int) + 1)))) (wrap64 ((t107.size : Int) + 1))) ≤ (t107.size : Int) then (if 0 ≤ (Int.tmod (wrap64 ((Int.tmod a1_0 (wrap64 ((t107.size : Int) + 1))) + (wrap64 ((t107.size : Int) + 1)))) (wrap64 ((t107.size : Int) + 1))) then ((crc_Sum.f (([t107.extract 0 ((Int.tmod (wrap64 ((Int.tmod a1_1 (wrap64 ((t107.size : Int) + 1))) + (wrap64 ((t107.size : Int) + 1)))) (wrap64 ((t107.size : Int) + 1))) : Int).toNat, t107.extract ((Int.tmod (wrap64 ((Int.tmod a1_1 (wrap64 ((t107.size : Int) + 1))) + (wrap64 ((t107.size : Int) + 1)))) (wrap64 ((t107.size : Int) + 1))) : Int).toNat ((Int.tmod (wrap64 ((Int.tmod a1_0 (wrap64 ((t107.size : Int) + 1))) + (wrap64 ((t107.size : Int) + 1)))) (wrap64 ((t107.size : Int) + 1))) : Int).toNat, t107.extract ((Int.tmod (wrap64 ((Int.tmod a1_0 (wrap64 ((t107.size : Int) + 1))) + (wrap64 ((t107.size : Int) + 1)))) (wrap64 ((t107.size : Int) + 1))) : Int).toNat t107.size] : List ByteArray))).bind fun t111 => ((crc_Sum.f (([t107] : List ByteArray))).bind fun t115 => (some (t111 == t115)))) else (none)) else (none)) else (none)) else (none)) else (none)) else (some false)) else (if t106 = true then (if 0 ≤ (Int.tmod (wrap64 ((Int.tmod a1_0 (wrap64 ((t107.size : Int) + 1))) + (wrap64 ((t107.size : Int) + 1)))) (wrap64 ((t107.size : Int) + 1))) then (if (Int.tmod (wrap64 ((Int.tmod a1_0 (wrap64 ((t107.size : Int) + 1))) + (wrap64 ((t107.size : Int) + 1)))) (wrap64 ((t107.size : Int) + 1))) ≤ (t107.size : Int) then (if (Int.tmod (wrap64 ((Int.tmod a1_0 (wrap64 ((t107.size : Int) + 1))) + (wrap64 ((t107.size : Int) + 1)))) (wrap64 ((t107.size : Int) + 1))) ≤ (Int.tmod (wrap64 ((Int.tmod a1_1 (wrap64 ((t107.size : Int) + 1))) + (wrap64 ((t107.size : Int) + 1)))) (wrap64 ((t107.size : Int) + 1))) then (if (Int.tmod (wrap64 ((Int.tmod a1_1 (wrap64 ((t107.size : Int) + 1))) + (wrap64 ((t107.size : Int) + 1)))) (wrap64 ((t107.size : Int) + 1))) ≤ (t107.size : Int) then (if 0 ≤ (Int.tmod (wrap64 ((Int.tmod a1_1 (wrap64 ((t107.size : Int) + 1))) + (wrap64 ((t107.size : Int) + 1)))) (wrap64 ((t107.size : Int) + 1))) then ((crc_Sum.f (([t107.extract 0 ((Int.tmod (wrap64 ((Int.tmod a1_0 (wrap64 ((t107.size : Int) + 1))) + (wrap64 ((t107.size : Int) + 1)))) (wrap64 ((t107.size : Int) + 1))) : Int).toNat, t107.extract ((Int.tmod (wrap64 ((Int.tmod a1_0 (wrap64 ((t107.size : Int) + 1))) + (wrap64 ((t107.size : Int) + 1)))) (wrap64 ((t107.size : Int) + 1))) : Int).toNat ((Int.tmod (wrap64 ((Int.tmod a1_1 (wrap64 ((t107.size : Int) + 1))) + (wrap64 ((t107.size : Int) + 1)))) (wrap64 ((t107.size : Int) + 1))) : Int).toNat, (⟨#[]⟩ : ByteArray), t107.extract ((Int.tmod (wrap64 ((Int.tmod a1_1 (wrap64 ((t107.size : Int) + 1))) + (wrap64 ((t107.size : Int) + 1)))) (wrap64 ((t107.size : Int) + 1))) : Int).toNat t107.size] : List ByteArray))).bind fun t119 => ((crc_Sum.f (([t107] : List ByteArray))).bind fun t123 => (if t119 = t123 then ((crc_Sum.f ([] : List ByteArray)).bind fun t124 => ((crc_Sum.f (([(⟨#[]⟩ : ByteArray)] : List ByteArray))).bind fun t128 => (some (t124 == t128)))) else (some false)))) else (none)) else (none)) else (none)) else (none)) else (none)) else (some false)))))
def earshotlaw05_CrcParts.T7 : Bool × List (List Nat × List Nat) := (true, [([], []), ([0], [0]), ([1], [1]), ([1], [1]), ([2, 3, 1], [1, 2, 3]), ([1], [1]), ([1], [1]), ([1], [1]), ([5, 6, 7, 1], [1, 5, 6, 7]), ([1], [1]), ([1], [1]), ([9, 10, 1], [1, 9, 10]), ([4, 8, 11, 1], [1, 4, 8, 11]), ([12, 1, 1], [1, 12]), ([1], [1]), ([14, 1], [1, 14]), ([15, 13, 1], [1, 15]), ([13, 16, 1], [1, 13, 16]), ([1, 17], [1, 17]), ([18, 16, 0, 1, 2, 3, 4, 5, 6, 7, 8, 9, 10, 11, 12, 13, 14, 15, 16, 17, 18], [18])])
def earshotlaw05_CrcParts.B7 : List Nat := [0, 1, 3, 3, 15, 3, 3, 3, 227, 3, 3, 1539, 4095, 8191, 3, 16387, 65535, 131071, 262143, 524287]
theorem earshotlaw05_CrcParts.tab7 : rtab .any (opsOf Try.f3 7) = earshotlaw05_CrcParts.T7 := by kernel_rfl
theorem earshotlaw05_CrcParts.bits7 : waitsOk earshotlaw05_CrcParts.T7.2 earshotlaw05_CrcParts.B7 = true := by kernel_rfl
def earshotlaw05_CrcParts.T8 : Bool × List (List Nat × List Nat) := (true, [([], []), ([0], [0]), ([1], [1]), ([1], [1]), ([2, 3, 1], [1, 2, 3]), ([1], [1]), ([1], [1]), ([1], [1]), ([5, 6, 7, 1], [1, 5, 6, 7]), ([1], [1]), ([1], [1]), ([9, 10, 1], [1, 9, 10]), ([4, 8, 11, 1], [1, 4, 8, 11]), ([12, 1, 1], [1, 12]), ([1], [1]), ([14, 1], [1, 14]), ([15, 13, 1], [1, 15]), ([13, 16, 1], [1, 13, 16]), ([1, 17], [1, 17]), ([18, 16], [18]), ([19, 19], [19]), ([19], [19]), ([21, 20, 19], [19, 21]), ([20, 22, 19], [19, 20, 22]), ([19, 23], [19, 23]), ([24, 22, 0, 1, 2, 3, 4, 5, 6, 7, 8, 9, 10, 11, 12, 13, 14, 15, 16, 17, 18, 19, 20, 21, 22, 23, 24], [24])])
def earshotlaw05_CrcParts.B8 : List Nat := [0, 1, 3, 3, 15, 3, 3, 3, 227, 3, 3, 1539, 4095, 8191, 3, 16387, 65535, 131071, 262143, 524287, 1048575, 1048575, 4194303, 8388607, 16777215, 33554431]
theorem earshotlaw05_CrcParts.tab8 : rtab .any (opsOf Try.f3 8) = earshotlaw05_CrcParts.T8 := by kernel_rfl
theorem earshotlaw05_CrcParts.bits8 : waitsOk earshotlaw05_CrcParts.T8.2 earshotlaw05_CrcParts.B8 = true := by kernel_rfl
set_option maxHeartbeats 8000000 in
set_option maxRecDepth 100000 in
theorem earshotlaw05_CrcParts.calls (a0 : ByteArray) (a1_0 : Int) (a1_1 : Int) (r : Bool) (w : World) (h : earshotlaw05_CrcParts.f a0 a1_0 a1_1 = some r) :
    Calls Try.prog 3 #[.string a0, .agg #[.int .i64 a1_0, .int .i64 a1_1]] w fun e w' => e = .returned (.bool r) ∧ Below w.heap.size w w' := by
  have hu22 := Try.underlying22
  have HB := Aside0.mk (Below.refl w.heap.size w)
  have H : ((earshotlaw05_awake.f).bind fun t106 => ((earshotlaw05_short.f a0).bind fun t107 => (if (wrap64 ((t107.size : Int) + 1)) = 0 then (none) else (if (Int.tmod (wrap64 ((Int.tmod a1_0 (wrap64 ((t107.size : Int) + 1))) + (wrap64 ((t107.size : Int) + 1)))) (wrap64 ((t107.size : Int) + 1))) > (Int.tmod (wrap64 ((Int.tmod a1_1 (wrap64 ((t107.size : Int) + 1))) + (wrap64 ((t107.size : Int) + 1)))) (wrap64 ((t107.size : Int) + 1))) then (if t106 = true then (if 0 ≤ (Int.tmod (wrap64 ((Int.tmod a1_1 (wrap64 ((t107.size : Int) + 1))) + (wrap64 ((t107.size : Int) + 1)))) (wrap64 ((t107.size : Int) + 1))) then (if (Int.tmod (wrap64 ((Int.tmod a1_1 (wrap64 ((t107.size : Int) + 1))) + (wrap64 ((t107.size : Int) + 1)))) (wrap64 ((t107.size : Int) + 1))) ≤ (t107.size : Int) then (if (Int.tmod (wrap64 ((Int.tmod a1_1 (wrap64 ((t107.size : Int) + 1))) + (wrap64 ((t107.size : Int) + 1)))) (wrap64 ((t107.size : Int) + 1))) ≤ (Int.tmod (wrap64 ((Int.tmod a1_0 (wrap64 ((t107.size : Int) + 1))) + (wrap64 ((t107.size : Int) + 1)))) (wrap64 ((t107.size : Int) + 1))) then (if (Int.tmod (wrap64 ((Int.tmod a1_0 (wrap64 ((t107.size : Int) + 1))) + (wrap64 ((t107.size : Int) + 1)))) (wrap64 ((t107.size : Int) + 1))) ≤ (t107.size : Int) then (if 0 ≤ (Int.tmod (wrap64 ((Int.tmod a1_0 (wrap64 ((t107.size : Int) + 1))) + (wrap64 ((t107.size : Int) + 1)))) (wrap64 ((t107.size : Int) + 1))) then ((crc_Sum.f (([t107.extract 0 ((Int.tmod (wrap64 ((Int.tmod a1_1 (wrap64 ((t107.size : Int) + 1))) + (wrap64 ((t107.size : Int) + 1)))) (wrap64 ((t107.size : Int) + 1))) : Int).toNat, t107.extract ((Int.tmod (wrap64 ((Int.tmod a1_1 (wrap64 ((t107.size : Int) + 1))) + (wrap64 ((t107.size : Int) + 1)))) (wrap64 ((t107.size : Int) + 1))) : Int).toNat ((Int.tmod (wrap64 ((Int.tmod a1_0 (wrap64 ((t107.size : Int) + 1))) + (wrap64 ((t107.size : Int) + 1)))) (wrap64 ((t107.size : Int) + 1))) : Int).toNat, t107.extract ((Int.tmod (wrap64 ((Int.tmod a1_0 (wrap64 ((t107.size : Int) + 1))) + (wrap64 ((t107.size : Int) + 1)))) (wrap64 ((t107.size : Int) + 1))) : Int).toNat t107.size] : List ByteArray))).bind fun t111 => ((crc_Sum.f (([t107] : List ByteArray))).bind fun t115 => (some (t111 == t115)))) else (none)) else (none)) else (none)) else (none)) else (none)) else (some false)) else (if t106 = true then (if 0 ≤ (Int.tmod (wrap64 ((Int.tmod a1_0 (wrap64 ((t107.size : Int) + 1))) + (wrap64 ((t107.size : Int) + 1)))) (wrap64 ((t107.size : Int) + 1))) then (if (Int.tmod (wrap64 ((Int.tmod a1_0 (wrap64 ((t107.size : Int) + 1))) + (wrap64 ((t107.size : Int) + 1)))) (wrap64 ((t107.size : Int) + 1))) ≤ (t107.size : Int) then (if (Int.tmod (wrap64 ((Int.tmod a1_0 (wrap64 ((t107.size : Int) + 1))) + (wrap64 ((t107.size : Int) + 1)))) (wrap64 ((t107.size : Int) + 1))) ≤ (Int.tmod (wrap64 ((Int.tmod a1_1 (wrap64 ((t107.size : Int) + 1))) + (wrap64 ((t107.size : Int) + 1)))) (wrap64 ((t107.size : Int) + 1))) then (if (Int.tmod (wrap64 ((Int.tmod a1_1 (wrap64 ((t107.size : Int) + 1))) + (wrap64 ((t107.size : Int) + 1)))) (wrap64 ((t107.size : Int) + 1))) ≤ (t107.size : Int) then (if 0 ≤ (Int.tmod (wrap64 ((Int.tmod a1_1 (wrap64 ((t107.size : Int) + 1))) + (wrap64 ((t107.size : Int) + 1)))) (wrap64 ((t107.size : Int) + 1))) then ((crc_Sum.f (([t107.extract 0 ((Int.tmod (wrap64 ((Int.tmod a1_0 (wrap64 ((t107.size : Int) + 1))) + (wrap64 ((t107.size : Int) + 1)))) (wrap64 ((t107.size : Int) + 1))) : Int).toNat, t107.extract ((Int.tmod (wrap64 ((Int.tmod a1_0 (wrap64 ((t107.size : Int) + 1))) + (wrap64 ((t107.size : Int) + 1)))) (wrap64 ((t107.size : Int) + 1))) : Int).toNat ((Int.tmod (wrap64 ((Int.tmod a1_1 (wrap64 ((t107.size : Int) + 1))) + (wrap64 ((t107.size : Int) + 1)))) (wrap64 ((t107.size : Int) + 1))) : Int).toNat, (⟨#[]⟩ : ByteArray), t107.extract ((Int.tmod (wrap64 ((Int.tmod a1_1 (wrap64 ((t107.size : Int) + 1))) + (wrap64 ((t107.size : Int) + 1)))) (wrap64 ((t107.size : Int) + 1))) : Int).toNat t107.size] : List ByteArray))).bind fun t119 => ((crc_Sum.f (([t107] : List ByteArray))).bind fun t123 => (if t119 = t123 then ((crc_Sum.f ([] : List ByteArray)).bind fun t124 => ((crc_Sum.f (([(⟨#[]⟩ : ByteArray)] : List ByteArray))).bind fun t128 => (some (t124 == t128)))) else (some false)))) else (none)) else (none)) else (none)) else (none)) else (none)) else (some false)))))) = some r := h
  clear h
  replace H := Option.bind_eq_some_iff.mp H
  obtain ⟨t106, A30, H⟩ := H
  replace H : ((earshotlaw05_short.f a0).bind fun t107 => (if (wrap64 ((t107.size : Int) + 1)) = 0 then (none) else (if (Int.tmod (wrap64 ((Int.tmod a1_0 (wrap64 ((t107.size : Int) + 1))) + (wrap64 ((t107.size : Int) + 1)))) (wrap64 ((t107.size : Int) + 1))) > (Int.tmod (wrap64 ((Int.tmod a1_1 (wrap64 ((t107.size : Int) + 1))) + (wrap64 ((t107.size : Int) + 1)))) (wrap64 ((t107.size : Int) + 1))) then (if t106 = true then (if 0 ≤ (Int.tmod (wrap64 ((Int.tmod a1_1 (wrap64 ((t107.size : Int) + 1))) + (wrap64 ((t107.size : Int) + 1)))) (wrap64 ((t107.size : Int) + 1))) then (if (Int.tmod (wrap64 ((Int.tmod a1_1 (wrap64 ((t107.size : Int) + 1))) + (wrap64 ((t107.size : Int) + 1)))) (wrap64 ((t107.size : Int) + 1))) ≤ (t107.size : Int) then (if (Int.tmod (wrap64 ((Int.tmod a1_1 (wrap64 ((t107.size : Int) + 1))) + (wrap64 ((t107.size : Int) + 1)))) (wrap64 ((t107.size : Int) + 1))) ≤ (Int.tmod (wrap64 ((Int.tmod a1_0 (wrap64 ((t107.size : Int) + 1))) + (wrap64 ((t107.size : Int) + 1)))) (wrap64 ((t107.size : Int) + 1))) then (if (Int.tmod (wrap64 ((Int.tmod a1_0 (wrap64 ((t107.size : Int) + 1))) + (wrap64 ((t107.size : Int) + 1)))) (wrap64 ((t107.size : Int) + 1))) ≤ (t107.size : Int) then (if 0 ≤ (Int.tmod (wrap64 ((Int.tmod a1_0 (wrap64 ((t107.size : Int) + 1))) + (wrap64 ((t107.size : Int) + 1)))) (wrap64 ((t107.size : Int) + 1))) then ((crc_Sum.f (([t107.extract 0 ((Int.tmod (wrap64 ((Int.tmod a1_1 (wrap64 ((t107.size : Int) + 1))) + (wrap64 ((t107.size : Int) + 1)))) (wrap64 ((t107.size : Int) + 1))) : Int).toNat, t107.extract ((Int.tmod (wrap64 ((Int.tmod a1_1 (wrap64 ((t107.size : Int) + 1))) + (wrap64 ((t107.size : Int) + 1)))) (wrap64 ((t107.size : Int) + 1))) : Int).toNat ((Int.tmod (wrap64 ((Int.tmod a1_0 (wrap64 ((t107.size : Int) + 1))) + (wrap64 ((t107.size : Int) + 1)))) (wrap64 ((t107.size : Int) + 1))) : Int).toNat, t107.extract ((Int.tmod (wrap64 ((Int.tmod a1_0 (wrap64 ((t107.size : Int) + 1))) + (wrap64 ((t107.size : Int) + 1)))) (wrap64 ((t107.size : Int) + 1))) : Int).toNat t107.size] : List ByteArray))).bind fun t111 => ((crc_Sum.f (([t107] : List ByteArray))).bind fun t115 => (some (t111 == t115)))) else (none)) else (none)) else (none)) else (none)) else (none)) else (some false)) else (if t106 = true then (if 0 ≤ (Int.tmod (wrap64 ((Int.tmod a1_0 (wrap64 ((t107.size : Int) + 1))) + (wrap64 ((t107.size : Int) + 1)))) (wrap64 ((t107.size : Int) + 1))) then (if (Int.tmod (wrap64 ((Int.tmod a1_0 (wrap64 ((t107.size : Int) + 1))) + (wrap64 ((t107.size : Int) + 1)))) (wrap64 ((t107.size : Int) + 1))) ≤ (t107.size : Int) then (if (Int.tmod (wrap64 ((Int.tmod a1_0 (wrap64 ((t107.size : Int) + 1))) + (wrap64 ((t107.size : Int) + 1)))) (wrap64 ((t107.size : Int) + 1))) ≤ (Int.tmod (wrap64 ((Int.tmod a1_1 (wrap64 ((t107.size : Int) + 1))) + (wrap64 ((t107.size : Int) + 1)))) (wrap64 ((t107.size : Int) + 1))) then (if (Int.tmod (wrap64 ((Int.tmod a1_1 (wrap64 ((t107.size : Int) + 1))) + (wrap64 ((t107.size : Int) + 1)))) (wrap64 ((t107.size : Int) + 1))) ≤ (t107.size : Int) then (if 0 ≤ (Int.tmod (wrap64 ((Int.tmod a1_1 (wrap64 ((t107.size : Int) + 1))) + (wrap64 ((t107.size : Int) + 1)))) (wrap64 ((t107.size : Int) + 1))) then ((crc_Sum.f (([t107.extract 0 ((Int.tmod (wrap64 ((Int.tmod a1_0 (wrap64 ((t107.size : Int) + 1))) + (wrap64 ((t107.size : Int) + 1)))) (wrap64 ((t107.size : Int) + 1))) : Int).toNat, t107.extract ((Int.tmod (wrap64 ((Int.tmod a1_0 (wrap64 ((t107.size : Int) + 1))) + (wrap64 ((t107.size : Int) + 1)))) (wrap64 ((t107.size : Int) + 1))) : Int).toNat ((Int.tmod (wrap64 ((Int.tmod a1_1 (wrap64 ((t107.size : Int) + 1))) + (wrap64 ((t107.size : Int) + 1)))) (wrap64 ((t107.size : Int) + 1))) : Int).toNat, (⟨#[]⟩ : ByteArray), t107.extract ((Int.tmod (wrap64 ((Int.tmod a1_1 (wrap64 ((t107.size : Int) + 1))) + (wrap64 ((t107.size : Int) + 1)))) (wrap64 ((t107.size : Int) + 1))) : Int).toNat t107.size] : List ByteArray))).bind fun t119 => ((crc_Sum.f (([t107] : List ByteArray))).bind fun t123 => (if t119 = t123 then ((crc_Sum.f ([] : List ByteArray)).bind fun t124 => ((crc_Sum.f (([(⟨#[]⟩ : ByteArray)] : List ByteArray))).bind fun t128 => (some (t124 == t128)))) else (some false)))) else (none)) else (none)) else (none)) else (none)) else (none)) else (some false))))) = some r := H
  have A3 := Aside0.mk A30
  clear A30
  replace H := Option.bind_eq_some_iff.mp H
  obtain ⟨t107, A40, H⟩ := H
  replace H : (if (wrap64 ((t107.size : Int) + 1)) = 0 then (none) else (if (Int.tmod (wrap64 ((Int.tmod a1_0 (wrap64 ((t107.size : Int) + 1))) + (wrap64 ((t107.size : Int) + 1)))) (wrap64 ((t107.size : Int) + 1))) > (Int.tmod (wrap64 ((Int.tmod a1_1 (wrap64 ((t107.size : Int) + 1))) + (wrap64 ((t107.size : Int) + 1)))) (wrap64 ((t107.size : Int) + 1))) then (if t106 = true then (if 0 ≤ (Int.tmod (wrap64 ((Int.tmod a1_1 (wrap64 ((t107.size : Int) + 1))) + (wrap64 ((t107.size : Int) + 1)))) (wrap64 ((t107.size : Int) + 1))) then (if (Int.tmod (wrap64 ((Int.tmod a1_1 (wrap64 ((t107.size : Int) + 1))) + (wrap64 ((t107.size : Int) + 1)))) (wrap64 ((t107.size : Int) + 1))) ≤ (t107.size : Int) then (if (Int.tmod (wrap64 ((Int.tmod a1_1 (wrap64 ((t107.size : Int) + 1))) + (wrap64 ((t107.size : Int) + 1)))) (wrap64 ((t107.size : Int) + 1))) ≤ (Int.tmod (wrap64 ((Int.tmod a1_0 (wrap64 ((t107.size : Int) + 1))) + (wrap64 ((t107.size : Int) + 1)))) (wrap64 ((t107.size : Int) + 1))) then (if (Int.tmod (wrap64 ((Int.tmod a1_0 (wrap64 ((t107.size : Int) + 1))) + (wrap64 ((t107.size : Int) + 1)))) (wrap64 ((t107.size : Int) + 1))) ≤ (t107.size : Int) then (if 0 ≤ (Int.tmod (wrap64 ((Int.tmod a1_0 (wrap64 ((t107.size : Int) + 1))) + (wrap64 ((t107.size : Int) + 1)))) (wrap64 ((t107.size : Int) + 1))) then ((crc_Sum.f (([t107.extract 0 ((Int.tmod (wrap64 ((Int.tmod a1_1 (wrap64 ((t107.size : Int) + 1))) + (wrap64 ((t107.size : Int) + 1)))) (wrap64 ((t107.size : Int) + 1))) : Int).toNat, t107.extract ((Int.tmod (wrap64 ((Int.tmod a1_1 (wrap64 ((t107.size : Int) + 1))) + (wrap64 ((t107.size : Int) + 1)))) (wrap64 ((t107.size : Int) + 1))) : Int).toNat ((Int.tmod (wrap64 ((Int.tmod a1_0 (wrap64 ((t107.size : Int) + 1))) + (wrap64 ((t107.size : Int) + 1)))) (wrap64 ((t107.size : Int) + 1))) : Int).toNat, t107.extract ((Int.tmod (wrap64 ((Int.tmod a1_0 (wrap64 ((t107.size : Int) + 1))) + (wrap64 ((t107.size : Int) + 1)))) (wrap64 ((t107.size : Int) + 1))) : Int).toNat t107.size] : List ByteArray))).bind fun t111 => ((crc_Sum.f (([t107] : List ByteArray))).bind fun t115 => (some (t111 == t115)))) else (none)) else (none)) else (none)) else (none)) else (none)) else (some false)) else (if t106 = true then (if 0 ≤ (Int.tmod (wrap64 ((Int.tmod a1_0 (wrap64 ((t107.size : Int) + 1))) + (wrap64 ((t107.size : Int) + 1)))) (wrap64 ((t107.size : Int) + 1))) then (if (Int.tmod (wrap64 ((Int.tmod a1_0 (wrap64 ((t107.size : Int) + 1))) + (wrap64 ((t107.size : Int) + 1)))) (wrap64 ((t107.size : Int) + 1))) ≤ (t107.size : Int) then (if (Int.tmod (wrap64 ((Int.tmod a1_0 (wrap64 ((t107.size : Int) + 1))) + (wrap64 ((t107.size : Int) + 1)))) (wrap64 ((t107.size : Int) + 1))) ≤ (Int.tmod (wrap64 ((Int.tmod a1_1 (wrap64 ((t107.size : Int) + 1))) + (wrap64 ((t107.size : Int) + 1)))) (wrap64 ((t107.size : Int) + 1))) then (if (Int.tmod (wrap64 ((Int.tmod a1_1 (wrap64 ((t107.size : Int) + 1))) + (wrap64 ((t107.size : Int) + 1)))) (wrap64 ((t107.size : Int) + 1))) ≤ (t107.size : Int) then (if 0 ≤ (Int.tmod (wrap64 ((Int.tmod a1_1 (wrap64 ((t107.size : Int) + 1))) + (wrap64 ((t107.size : Int) + 1)))) (wrap64 ((t107.size : Int) + 1))) then ((crc_Sum.f (([t107.extract 0 ((Int.tmod (wrap64 ((Int.tmod a1_0 (wrap64 ((t107.size : Int) + 1))) + (wrap64 ((t107.size : Int) + 1)))) (wrap64 ((t107.size : Int) + 1))) : Int).toNat, t107.extract ((Int.tmod (wrap64 ((Int.tmod a1_0 (wrap64 ((t107.size : Int) + 1))) + (wrap64 ((t107.size : Int) + 1)))) (wrap64 ((t107.size : Int) + 1))) : Int).toNat ((Int.tmod (wrap64 ((Int.tmod a1_1 (wrap64 ((t107.size : Int) + 1))) + (wrap64 ((t107.size : Int) + 1)))) (wrap64 ((t107.size : Int) + 1))) : Int).toNat, (⟨#[]⟩ : ByteArray), t107.extract ((Int.tmod (wrap64 ((Int.tmod a1_1 (wrap64 ((t107.size : Int) + 1))) + (wrap64 ((t107.size : Int) + 1)))) (wrap64 ((t107.size : Int) + 1))) : Int).toNat t107.size] : List ByteArray))).bind fun t119 => ((crc_Sum.f (([t107] : List ByteArray))).bind fun t123 => (if t119 = t123 then ((crc_Sum.f ([] : List ByteArray)).bind fun t124 => ((crc_Sum.f (([(⟨#[]⟩ : ByteArray)] : List ByteArray))).bind fun t128 => (some (t124 == t128)))) else (some false)))) else (none)) else (none)) else (none)) else (none)) else (none)) else (some false)))) = some r := H
  have A4 := Aside0.mk A40
  clear A40
  by_cases c5 : (wrap64 ((t107.size : Int) + 1)) = 0
  · rw [if_pos c5] at H
    exact absurd H (by simp)
  · rw [if_neg c5] at H
    have c5b0 : ((wrap64 ((t107.size : Int) + 1)) == 0) = false := beq_eq_false_iff_ne.mpr c5
    have c5b1 : ((wrap64 ((t107.size : Int) + 1)) != 0) = true := bne_iff_ne.mpr c5
    by_cases c6 : (Int.tmod (wrap64 ((Int.tmod a1_0 (wrap64 ((t107.size : Int) + 1))) + (wrap64 ((t107.size : Int) + 1)))) (wrap64 ((t107.size : Int) + 1))) > (Int.tmod (wrap64 ((Int.tmod a1_1 (wrap64 ((t107.size : Int) + 1))) + (wrap64 ((t107.size : Int) + 1)))) (wrap64 ((t107.size : Int) + 1)))
    · rw [if_pos c6] at H
      have c6b0 : decide ((Int.tmod (wrap64 ((Int.tmod a1_1 (wrap64 ((t107.size : Int) + 1))) + (wrap64 ((t107.size : Int) + 1)))) (wrap64 ((t107.size : Int) + 1))) < (Int.tmod (wrap64 ((Int.tmod a1_0 (wrap64 ((t107.size : Int) + 1))) + (wrap64 ((t107.size : Int) + 1)))) (wrap64 ((t107.size : Int) + 1)))) = true := decide_eq_true c6
      clear c6
      by_cases c7 : t106 = true
      · subst c7
        have H1 : (if 0 ≤ (Int.tmod (wrap64 ((Int.tmod a1_1 (wrap64 ((t107.size : Int) + 1))) + (wrap64 ((t107.size : Int) + 1)))) (wrap64 ((t107.size : Int) + 1))) then (if (Int.tmod (wrap64 ((Int.tmod a1_1 (wrap64 ((t107.size : Int) + 1))) + (wrap64 ((t107.size : Int) + 1)))) (wrap64 ((t107.size : Int) + 1))) ≤ (t107.size : Int) then (if (Int.tmod (wrap64 ((Int.tmod a1_1 (wrap64 ((t107.size : Int) + 1))) + (wrap64 ((t107.size : Int) + 1)))) (wrap64 ((t107.size : Int) + 1))) ≤ (Int.tmod (wrap64 ((Int.tmod a1_0 (wrap64 ((t107.size : Int) + 1))) + (wrap64 ((t107.size : Int) + 1)))) (wrap64 ((t107.size : Int) + 1))) then (if (Int.tmod (wrap64 ((Int.tmod a1_0 (wrap64 ((t107.size : Int) + 1))) + (wrap64 ((t107.size : Int) + 1)))) (wrap64 ((t107.size : Int) + 1))) ≤ (t107.size : Int) then (if 0 ≤ (Int.tmod (wrap64 ((Int.tmod a1_0 (wrap64 ((t107.size : Int) + 1))) + (wrap64 ((t107.size : Int) + 1)))) (wrap64 ((t107.size : Int) + 1))) then ((crc_Sum.f (([t107.extract 0 ((Int.tmod (wrap64 ((Int.tmod a1_1 (wrap64 ((t107.size : Int) + 1))) + (wrap64 ((t107.size : Int) + 1)))) (wrap64 ((t107.size : Int) + 1))) : Int).toNat, t107.extract ((Int.tmod (wrap64 ((Int.tmod a1_1 (wrap64 ((t107.size : Int) + 1))) + (wrap64 ((t107.size : Int) + 1)))) (wrap64 ((t107.size : Int) + 1))) : Int).toNat ((Int.tmod (wrap64 ((Int.tmod a1_0 (wrap64 ((t107.size : Int) + 1))) + (wrap64 ((t107.size : Int) + 1)))) (wrap64 ((t107.size : Int) + 1))) : Int).toNat, t107.extract ((Int.tmod (wrap64 ((Int.tmod a1_0 (wrap64 ((t107.size : Int) + 1))) + (wrap64 ((t107.size : Int) + 1)))) (wrap64 ((t107.size : Int) + 1))) : Int).toNat t107.size] : List ByteArray))).bind fun t111 => ((crc_Sum.f (([t107] : List ByteArray))).bind fun t115 => (some (t111 == t115)))) else (none)) else (none)) else (none)) else (none)) else (none)) = some r := by rw [if_pos rfl] at H; exact H
        clear H
        have H := H1
        clear H1
        obtain ⟨ji8, hji8⟩ : ∃ j_ : Int, (Int.tmod (wrap64 ((Int.tmod a1_1 (wrap64 ((t107.size : Int) + 1))) + (wrap64 ((t107.size : Int) + 1)))) (wrap64 ((t107.size : Int) + 1))) = j_ := ⟨_, rfl⟩
        replace H : (if 0 ≤ (ji8) then (if (ji8) ≤ (t107.size : Int) then (if (ji8) ≤ (Int.tmod (wrap64 ((Int.tmod a1_0 (wrap64 ((t107.size : Int) + 1))) + (wrap64 ((t107.size : Int) + 1)))) (wrap64 ((t107.size : Int) + 1))) then (if (Int.tmod (wrap64 ((Int.tmod a1_0 (wrap64 ((t107.size : Int) + 1))) + (wrap64 ((t107.size : Int) + 1)))) (wrap64 ((t107.size : Int) + 1))) ≤ (t107.size : Int) then (if 0 ≤ (Int.tmod (wrap64 ((Int.tmod a1_0 (wrap64 ((t107.size : Int) + 1))) + (wrap64 ((t107.size : Int) + 1)))) (wrap64 ((t107.size : Int) + 1))) then ((crc_Sum.f (([t107.extract 0 ((ji8) : Int).toNat, t107.extract ((ji8) : Int).toNat ((Int.tmod (wrap64 ((Int.tmod a1_0 (wrap64 ((t107.size : Int) + 1))) + (wrap64 ((t107.size : Int) + 1)))) (wrap64 ((t107.size : Int) + 1))) : Int).toNat, t107.extract ((Int.tmod (wrap64 ((Int.tmod a1_0 (wrap64 ((t107.size : Int) + 1))) + (wrap64 ((t107.size : Int) + 1)))) (wrap64 ((t107.size : Int) + 1))) : Int).toNat t107.size] : List ByteArray))).bind fun t111 => ((crc_Sum.f (([t107] : List ByteArray))).bind fun t115 => (some (t111 == t115)))) else (none)) else (none)) else (none)) else (none)) else (none)) = some r := by first | (rw [hji8] at H; exact H) | (simp only [hji8] at H ⊢; exact H)
        (try rw [hji8] at c6b0)
        (try rw [hji8] at A3)
        (try rw [hji8] at A4)
        by_cases c9 : 0 ≤ (ji8)
        · rw [if_pos c9] at H
          have c9b0 := eq_true c9
          have c9b1 : decide (0 ≤ (ji8)) = true := decide_eq_true c9
          clear c9
          by_cases c10 : (ji8) ≤ (t107.size : Int)
          · rw [if_pos c10] at H
            have c10b0 := eq_true c10
            have c10b1 : decide ((ji8) ≤ (t107.size : Int)) = true := decide_eq_true c10
            clear c10
            have c11b0 := eq_true (of_decide_eq_true (by first | (with_reducible assumption) | assumption) : 0 ≤ (ji8))
            by_cases c12 : (ji8) ≤ (Int.tmod (wrap64 ((Int.tmod a1_0 (wrap64 ((t107.size : Int) + 1))) + (wrap64 ((t107.size : Int) + 1)))) (wrap64 ((t107.size : Int) + 1)))
            · rw [if_pos c12] at H
              have c12b0 := eq_true c12
              have c12b1 : decide ((ji8) ≤ (Int.tmod (wrap64 ((Int.tmod a1_0 (wrap64 ((t107.size : Int) + 1))) + (wrap64 ((t107.size : Int) + 1)))) (wrap64 ((t107.size : Int) + 1)))) = true := decide_eq_true c12
              by_cases c13 : (Int.tmod (wrap64 ((Int.tmod a1_0 (wrap64 ((t107.size : Int) + 1))) + (wrap64 ((t107.size : Int) + 1)))) (wrap64 ((t107.size : Int) + 1))) ≤ (t107.size : Int)
              · rw [if_pos c13] at H
                have c13b0 := eq_true c13
                have c13b1 : decide ((Int.tmod (wrap64 ((Int.tmod a1_0 (wrap64 ((t107.size : Int) + 1))) + (wrap64 ((t107.size : Int) + 1)))) (wrap64 ((t107.size : Int) + 1))) ≤ (t107.size : Int)) = true := decide_eq_true c13
                obtain ⟨ji14, hji14⟩ : ∃ j_ : Int, (Int.tmod (wrap64 ((Int.tmod a1_0 (wrap64 ((t107.size : Int) + 1))) + (wrap64 ((t107.size : Int) + 1)))) (wrap64 ((t107.size : Int) + 1))) = j_ := ⟨_, rfl⟩
                replace H : (if 0 ≤ (ji14) then ((crc_Sum.f (([t107.extract 0 ((ji8) : Int).toNat, t107.extract ((ji8) : Int).toNat ((ji14) : Int).toNat, t107.extract ((ji14) : Int).toNat t107.size] : List ByteArray))).bind fun t111 => ((crc_Sum.f (([t107] : List ByteArray))).bind fun t115 => (some (t111 == t115)))) else (none)) = some r := by first | (rw [hji14] at H; exact H) | (simp only [hji14] at H ⊢; exact H)
                (try rw [hji14] at c6b0)
                (try rw [hji14] at c12b0)
                (try rw [hji14] at c12b1)
                (try rw [hji14] at c12)
                (try rw [hji14] at c13b0)
                (try rw [hji14] at c13b1)
                (try rw [hji14] at c13)
                (try rw [hji14] at A3)
                (try rw [hji14] at A4)
                by_cases c15 : 0 ≤ (ji14)
                · rw [if_pos c15] at H
                  have c15b0 := eq_true c15
                  have c15b1 : decide (0 ≤ (ji14)) = true := decide_eq_true c15
                  clear c15
                  have c16b0 := eq_true (of_decide_eq_true (by first | (with_reducible assumption) | assumption) : (ji14) ≤ (t107.size : Int))
                  obtain ⟨y108, hy108⟩ : ∃ y_ : List ByteArray, y_ = (([t107.extract 0 ((ji8) : Int).toNat, t107.extract ((ji8) : Int).toNat ((ji14) : Int).toNat, t107.extract ((ji14) : Int).toNat t107.size] : List ByteArray)) := ⟨_, rfl⟩
                  replace H : ((crc_Sum.f y108).bind fun t111 => ((crc_Sum.f (([t107] : List ByteArray))).bind fun t115 => (some (t111 == t115)))) = some r := by first | (rw [hy108]; with_reducible exact H) | (have H2_ := (Option.bind_some _ _).symm.trans H; rw [hy108]; with_reducible exact H2_) | (have H2_ := (Option.bind_some _ _).symm.trans H; with_reducible exact H2_) | with_reducible exact H | (rw [hy108]; exact H) | exact H
                  have Ny108 := Aside0.mk hy108
                  clear hy108
                  replace H := Option.bind_eq_some_iff.mp H
                  obtain ⟨t111, A170, H⟩ := H
                  replace H : ((crc_Sum.f (([t107] : List ByteArray))).bind fun t115 => (some (t111 == t115))) = some r := H
                  have A17 := Aside0.mk A170
                  clear A170
                  obtain ⟨y112, hy112⟩ : ∃ y_ : List ByteArray, y_ = (([t107] : List ByteArray)) := ⟨_, rfl⟩
                  replace H : ((crc_Sum.f y112).bind fun t115 => (some (t111 == t115))) = some r := by first | (rw [hy112]; with_reducible exact H) | (have H2_ := (Option.bind_some _ _).symm.trans H; rw [hy112]; with_reducible exact H2_) | (have H2_ := (Option.bind_some _ _).symm.trans H; with_reducible exact H2_) | with_reducible exact H | (rw [hy112]; exact H) | exact H
                  have Ny112 := Aside0.mk hy112
                  clear hy112
                  replace H := Option.bind_eq_some_iff.mp H
                  obtain ⟨t115, A180, H⟩ := H
                  replace H : (some (t111 == t115)) = some r := H
                  have A18 := Aside0.mk A180
                  clear A180
                  obtain rfl := Option.some.inj H
                  go_enter Try.func3, Try.ntmps3
                  try go_wp2_with (first | ((with_reducible refine gate_dst (N := 3) rfl ?_); (try (refine gate_guard (by rfl) ?_; dsimp only)); refine box_event ?hg (N := 3) ?hd (cs := #[.int .i64 a1_0, .int .i64 a1_1]) (t := 22) ?hr ?_; (case hd => rfl); (case hg => first | rfl | exact wanted_on rfl rfl rfl (by first | assumption | rfl | (simp [*]; done))); (case hr => first | (go_simp; done) | (go_simp; rfl)); intro gb105 hg w19 hbox hb; have n0_ := Aside0.mk (below_step (by repeat (first | (with_reducible first | exact HB.out | apply below_alloc | apply pw_below_drewN | apply below_drew1) | exact HB.out)) hb); have n1_ := Aside0.mk (hbox); have n2_ := Aside0.mk ((by rw [hg]; exact (below_size (by repeat (first | (with_reducible first | exact HB.out | apply below_alloc | apply pw_below_drewN | apply below_drew1) | exact HB.out))) : w.heap.size ≤ gb105)); have n3_ := Aside0.mk ((by rw [hg]; exact (below_size (by repeat (first | (with_reducible first | exact HB.out | apply below_alloc | apply pw_below_drewN | apply below_drew1) | exact HB.out))) : w.heap.size ≤ gb105)); clear HB; have HB := n0_; have BK105 := n1_; have GW105 := n2_; have GE105 := n3_; clear n0_ n1_ n2_ n3_; clear hb hbox hg) | ((with_reducible refine gate_callee (f := 13) rfl ?_); refine goesL_ (some 9) rfl rfl Try.func13 (by kernel_rfl) rfl #[] rfl (by (try simp only [List.map_toArray, List.map_cons, List.map_nil]); first | done | rfl | (simp only [List.length_drop, List.length_take]; rfl)) ?_; (with_reducible refine (earshotlaw05_awake.calls  true _ A3.out).mono ?_); rintro e w20 ⟨rfl, hb⟩; refine ⟨_, rfl, ?_⟩; have n0_ := Aside0.mk (blk_below (g := gb105) (o := .cells #[.int .i64 a1_0, .int .i64 a1_1] 22 (0, 0)) (by (with_reducible repeat (first | refine blk_drewN ?_ _ | refine blk_drew ?_ | refine blk_alloc ?_ _)); exact BK105.out) hb); have n1_ := Aside0.mk (below_step (by repeat (first | (with_reducible first | exact HB.out | apply below_alloc | apply pw_below_drewN | apply below_drew1 | refine below_set ?_ GE105.out) | exact HB.out)) hb); clear BK105; clear HB; have BK105 := n0_; have HB := n1_; clear n0_ n1_; (try clear hb); (try clear hb2); (try clear hk); (try clear hi)) | ((with_reducible refine gate_callee (f := 14) rfl ?_); refine goesL_ (some 11) rfl rfl Try.func14 (by kernel_rfl) rfl #[.string a0] rfl (by (try simp only [List.map_toArray, List.map_cons, List.map_nil]); first | done | rfl | (simp only [List.length_drop, List.length_take]; rfl)) ?_; (with_reducible refine (earshotlaw05_short.calls a0 t107 _ A4.out).mono ?_); rintro e w' ⟨rfl, ⟨nd, rfl⟩⟩; refine ⟨_, rfl, ?_⟩; have hcz21_0 : w20.cell? ⟨gb105, 0, none⟩ = some (.int .i64 a1_0) := (blk_cell BK105.out 0).trans rfl; have hcz21_1 : w20.cell? ⟨gb105, 1, none⟩ = some (.int .i64 a1_1) := (blk_cell BK105.out 1).trans rfl; have hfz21_0 := blk_frozen BK105.out 0; have hfz21_1 := blk_frozen BK105.out 1))
                  (try (rw [drewN_self w20]; generalize hq_ : World.drewN w20 _ = w20; have n0_ : Aside0 (w20.heap[gb105]? = some (.cells #[.int .i64 a1_0, .int .i64 a1_1] 22 (0, 0))) := ⟨by rw [← hq_]; exact (by (with_reducible repeat (first | refine blk_drewN ?_ _ | refine blk_drew ?_ | refine blk_alloc ?_ _)); exact BK105.out)⟩; have n1_ : Aside0 (Below w.heap.size w w20) := ⟨by rw [← hq_]; exact (by repeat (first | (with_reducible first | exact HB.out | apply below_alloc | apply pw_below_drewN | apply below_drew1 | refine below_set ?_ GE105.out) | exact HB.out))⟩; clear BK105 HB hq_; have BK105 := n0_; have HB := n1_; clear n0_ n1_))
                  have n0_ := Aside0.mk (blk_drew BK105.out)
                  have n1_ := Aside0.mk (below_drew1 HB.out)
                  clear BK105
                  clear HB
                  have BK105 := n0_
                  have HB := n1_
                  clear n0_ n1_
                  refine start_ (n := 20) (S := fun w' => True) (ds := []) #[false, false, false, false, false, false, false, false, false, false, false, false, false, false, false, false, false, false, false, false] (by kernel_rfl) rfl rfl trivial (fun hHeld => ?_); refine with_tabW earshotlaw05_CrcParts.tab7 earshotlaw05_CrcParts.bits7 (fun HT_ HW_ => ?_)
                  generalize w20.drew = w22 at BK105 HB hHeld ⊢
                  refine pure_ (i := 0) (N := some 34) (v := ?_) (a' := ?_) #[true, false, false, false, false, false, false, false, false, false, false, false, false, false, false, false, false, false, false, false] rfl rfl (any_of HT_.out (by kernel_rfl)) (fun _ _ _ h => h) (Or.inl ⟨by rfl, ?_⟩) ?_ ?_
                  rotate_left
                  · intro w'
                    go_simp
                    with_reducible rfl
                  rotate_left
                  · simp only [Act.put, List.setIfInBounds_toArray, List.set_cons_zero, List.set_cons_succ, i64_w, i32_w]
                    rfl
                  refine pure_ (i := 1) (N := some 35) (v := ?_) (a' := ?_) #[true, true, false, false, false, false, false, false, false, false, false, false, false, false, false, false, false, false, false, false] rfl rfl (any_of HT_.out (by kernel_rfl)) (fun _ _ _ h => h) (Or.inl ⟨by rfl, ?_⟩) ?_ ?_
                  rotate_left
                  · intro w'
                    go_simp
                    with_reducible rfl
                  rotate_left
                  · simp only [Act.put, List.setIfInBounds_toArray, List.set_cons_zero, List.set_cons_succ, i64_w, i32_w]
                    rfl
                  refine pure_ (i := 2) (N := some 36) (v := ?_) (a' := ?_) #[true, true, true, false, false, false, false, false, false, false, false, false, false, false, false, false, false, false, false, false] rfl rfl (any_of HT_.out (by kernel_rfl)) (fun _ _ _ h => h) (Or.inl ⟨by rfl, ?_⟩) ?_ ?_
                  rotate_left
                  · intro w'
                    go_simp
                    with_reducible rfl
                  rotate_left
                  · simp only [Act.put, List.setIfInBounds_toArray, List.set_cons_zero, List.set_cons_succ, i64_w, i32_w]
                    rfl
                  refine pure_ (i := 3) (N := some 37) (v := ?_) (a' := ?_) #[true, true, true, true, false, false, false, false, false, false, false, false, false, false, false, false, false, false, false, false] rfl rfl (any_of HT_.out (by kernel_rfl)) (fun _ _ _ h => h) (Or.inl ⟨by rfl, ?_⟩) ?_ ?_
                  rotate_left
                  · intro w'
                    go_simp
                    with_reducible rfl
                  rotate_left
                  · simp only [Act.put, List.setIfInBounds_toArray, List.set_cons_zero, List.set_cons_succ, i64_w, i32_w]
                    rfl
                  refine pure_ (i := 5) (N := some 39) (v := ?_) (a' := ?_) #[true, true, true, true, false, true, false, false, false, false, false, false, false, false, false, false, false, false, false, false] rfl rfl (any_of HT_.out (by kernel_rfl)) (fun _ _ _ h => h) (Or.inl ⟨by rfl, ?_⟩) ?_ ?_
                  rotate_left
                  · intro w'
                    go_simp
                    with_reducible rfl
                  rotate_left
                  · simp only [Act.put, List.setIfInBounds_toArray, List.set_cons_zero, List.set_cons_succ, i64_w, i32_w]
                    rfl
                  refine pure_ (i := 6) (N := some 40) (v := ?_) (a' := ?_) #[true, true, true, true, false, true, true, false, false, false, false, false, false, false, false, false, false, false, false, false] rfl rfl (any_of HT_.out (by kernel_rfl)) (fun _ _ _ h => h) (Or.inl ⟨by rfl, ?_⟩) ?_ ?_
                  rotate_left
                  · intro w'
                    go_simp
                    with_reducible rfl
                  rotate_left
                  · simp only [Act.put, List.setIfInBounds_toArray, List.set_cons_zero, List.set_cons_succ, i64_w, i32_w]
                    rfl
                  refine pure_ (i := 7) (N := some 41) (v := ?_) (a' := ?_) #[true, true, true, true, false, true, true, true, false, false, false, false, false, false, false, false, false, false, false, false] rfl rfl (any_of HT_.out (by kernel_rfl)) (fun _ _ _ h => h) (Or.inl ⟨by rfl, ?_⟩) ?_ ?_
                  rotate_left
                  · intro w'
                    go_simp
                    with_reducible rfl
                  rotate_left
                  · simp only [Act.put, List.setIfInBounds_toArray, List.set_cons_zero, List.set_cons_succ, i64_w, i32_w]
                    rfl
                  refine pure_ (i := 9) (N := some 43) (v := ?_) (a' := ?_) #[true, true, true, true, false, true, true, true, false, true, false, false, false, false, false, false, false, false, false, false] rfl rfl (any_of HT_.out (by kernel_rfl)) (fun _ _ _ h => h) (Or.inl ⟨by rfl, ?_⟩) ?_ ?_
                  rotate_left
                  · intro w'
                    go_simp
                    with_reducible rfl
                  rotate_left
                  · simp only [Act.put, List.setIfInBounds_toArray, List.set_cons_zero, List.set_cons_succ, i64_w, i32_w]
                    rfl
                  refine pure_ (i := 10) (N := some 44) (v := ?_) (a' := ?_) #[true, true, true, true, false, true, true, true, false, true, true, false, false, false, false, false, false, false, false, false] rfl rfl (any_of HT_.out (by kernel_rfl)) (fun _ _ _ h => h) (Or.inl ⟨by rfl, ?_⟩) ?_ ?_
                  rotate_left
                  · intro w'
                    go_simp
                    with_reducible rfl
                  rotate_left
                  · simp only [Act.put, List.setIfInBounds_toArray, List.set_cons_zero, List.set_cons_succ, i64_w, i32_w]
                    rfl
                  refine pure_ (i := 14) (N := some 48) (v := ?_) (a' := ?_) #[true, true, true, true, false, true, true, true, false, true, true, false, false, false, true, false, false, false, false, false] rfl rfl (any_of HT_.out (by kernel_rfl)) (fun _ _ _ h => h) (Or.inl ⟨by rfl, ?_⟩) ?_ ?_
                  rotate_left
                  · intro w'
                    go_simp
                    with_reducible rfl
                  rotate_left
                  · simp only [Act.put, List.setIfInBounds_toArray, List.set_cons_zero, List.set_cons_succ, i64_w, i32_w]
                    rfl
                  refine inv_at [4, 8, 11, 12, 13, 15, 16, 17, 18, 19] (fun a0_ b a w' => ∃ (v109 : Value) (v113 : Value), a = putSel a0_ b [(4, 38, .string (t107.extract 0 ((ji8) : Int).toNat)), (8, 42, .string (t107.extract ((ji8) : Int).toNat ((ji14) : Int).toNat)), (11, 45, .string (t107.extract ((ji14) : Int).toNat t107.size)), (12, 46, v109), (13, 47, .int .u32 t111), (15, 49, v113), (16, 50, .int .u32 t115), (17, 51, .bool (t111 == t115)), (18, 52, .bool (t111 == t115)), (19, 4, .bool (t111 == t115))] ∧ (w'.heap[gb105]? = some (.cells #[.int .i64 a1_0, .int .i64 a1_1] 22 (0, 0))) ∧ (Below w.heap.size w w') ∧ (b 12 = true → Kd.R Kd.string 9 w' w.heap.size (fun _ => True) v109 y108) ∧ (b 15 = true → Kd.R Kd.string 9 w' w.heap.size (fun _ => True) v113 y112)) HT_.out HW_.out (by kernel_rfl) (by kernel_rfl) ?_ ?_ ?_
                  · exact ⟨.bool false, .bool false, by simp only [putSel, Bool.false_eq_true, if_false], BK105.out, HB.out, fun h_ => absurd h_ (by decide), fun h_ => absurd h_ (by decide)⟩
                  · skip
                    clear BK105 HB
                    refine steps_cons ?_ ?_
                    · rintro b a w' ⟨v109, v113, ha, Q_BK105, Q_HB, Q_HO110, Q_HO114⟩ hb_ hon hoff
                      refine ⟨_, rfl, fun K hK => ?_⟩
                      have e36 : a.tmps[36]? = some (.string t107) := by rw [ha]; exact (putSel_off rfl).trans rfl
                      have e37 : a.tmps[37]? = some (.int .i64 ji8) := by rw [ha]; exact (putSel_off rfl).trans rfl
                      have e35 : a.tmps[35]? = some (.bool true) := by rw [ha]; exact (putSel_off rfl).trans rfl
                      replace ha := Aside0.mk ha
                      have BK105 := Aside0.mk Q_BK105
                      have HB := Aside0.mk Q_HB
                      refine value_ (w1 := w') (v := .string (t107.extract 0 ((ji8) : Int).toNat)) (wanted_on rfl rfl rfl (e35.trans (by first | rfl | (simp [*]; done)))) rfl ?_ ?_
                      · go_simp
                        (try simp only [i64_w])
                        try rfl
                      refine hK.out _ _ ⟨v109, v113, (by rw [ha.out]; exact putSel_upk 0 hb_ rfl rfl rfl), Q_BK105, Q_HB, fun h0_ => absurd ((hoff 12 (by kernel_rfl)).symm.trans h0_) (by decide), Q_HO114⟩
                    refine steps_cons ?_ ?_
                    · rintro b a w' ⟨v109, v113, ha, Q_BK105, Q_HB, Q_HO110, Q_HO114⟩ hb_ hon hoff
                      refine ⟨_, rfl, fun K hK => ?_⟩
                      have e39 : a.tmps[39]? = some (.string t107) := by rw [ha]; exact (putSel_off rfl).trans rfl
                      have e40 : a.tmps[40]? = some (.int .i64 ji8) := by rw [ha]; exact (putSel_off rfl).trans rfl
                      have e41 : a.tmps[41]? = some (.int .i64 ji14) := by rw [ha]; exact (putSel_off rfl).trans rfl
                      have e35 : a.tmps[35]? = some (.bool true) := by rw [ha]; exact (putSel_off rfl).trans rfl
                      replace ha := Aside0.mk ha
                      have BK105 := Aside0.mk Q_BK105
                      have HB := Aside0.mk Q_HB
                      refine value_ (w1 := w') (v := .string (t107.extract ((ji8) : Int).toNat ((ji14) : Int).toNat)) (wanted_on rfl rfl rfl (e35.trans (by first | rfl | (simp [*]; done)))) rfl ?_ ?_
                      · go_simp
                        (try simp only [i64_w])
                        try rfl
                      refine hK.out _ _ ⟨v109, v113, (by rw [ha.out]; exact putSel_upk 1 hb_ rfl rfl rfl), Q_BK105, Q_HB, fun h0_ => absurd ((hoff 12 (by kernel_rfl)).symm.trans h0_) (by decide), Q_HO114⟩
                    refine steps_cons ?_ ?_
                    · rintro b a w' ⟨v109, v113, ha, Q_BK105, Q_HB, Q_HO110, Q_HO114⟩ hb_ hon hoff
                      refine ⟨_, rfl, fun K hK => ?_⟩
                      have e43 : a.tmps[43]? = some (.string t107) := by rw [ha]; exact (putSel_off rfl).trans rfl
                      have e44 : a.tmps[44]? = some (.int .i64 ji14) := by rw [ha]; exact (putSel_off rfl).trans rfl
                      have e35 : a.tmps[35]? = some (.bool true) := by rw [ha]; exact (putSel_off rfl).trans rfl
                      replace ha := Aside0.mk ha
                      have BK105 := Aside0.mk Q_BK105
                      have HB := Aside0.mk Q_HB
                      refine value_ (w1 := w') (v := .string (t107.extract ((ji14) : Int).toNat t107.size)) (wanted_on rfl rfl rfl (e35.trans (by first | rfl | (simp [*]; done)))) rfl ?_ ?_
                      · go_simp
                        (try simp only [i64_w])
                        try rfl
                      refine hK.out _ _ ⟨v109, v113, (by rw [ha.out]; exact putSel_upk 2 hb_ rfl rfl rfl), Q_BK105, Q_HB, fun h0_ => absurd ((hoff 12 (by kernel_rfl)).symm.trans h0_) (by decide), Q_HO114⟩
                    refine steps_cons ?_ ?_
                    · rintro b a w' ⟨v109, v113, ha, Q_BK105, Q_HB, Q_HO110, Q_HO114⟩ hb_ hon hoff
                      refine ⟨_, rfl, fun K hK => ?_⟩
                      have e38 : a.tmps[38]? = some (.string (t107.extract 0 ((ji8) : Int).toNat)) := by rw [ha]; exact putSel_on (e := (4, 38, .string (t107.extract 0 ((ji8) : Int).toNat))) 0 rfl rfl (hon 4 (by kernel_rfl)) rfl
                      have e42 : a.tmps[42]? = some (.string (t107.extract ((ji8) : Int).toNat ((ji14) : Int).toNat)) := by rw [ha]; exact putSel_on (e := (8, 42, .string (t107.extract ((ji8) : Int).toNat ((ji14) : Int).toNat))) 1 rfl rfl (hon 8 (by kernel_rfl)) rfl
                      have e45 : a.tmps[45]? = some (.string (t107.extract ((ji14) : Int).toNat t107.size)) := by rw [ha]; exact putSel_on (e := (11, 45, .string (t107.extract ((ji14) : Int).toNat t107.size))) 2 rfl rfl (hon 11 (by kernel_rfl)) rfl
                      have e35 : a.tmps[35]? = some (.bool true) := by rw [ha]; exact (putSel_off rfl).trans rfl
                      replace ha := Aside0.mk ha
                      have BK105 := Aside0.mk Q_BK105
                      have HB := Aside0.mk Q_HB
                      refine Kd.R_lit_step Kd.string _ 9 ?hg (N := 46) ?hd (xs := ([t107.extract 0 ((ji8) : Int).toNat, t107.extract ((ji8) : Int).toNat ((ji14) : Int).toNat, t107.extract ((ji14) : Int).toNat t107.size] : List ByteArray)) (inner := [.string (t107.extract 0 ((ji8) : Int).toNat), .string (t107.extract ((ji8) : Int).toNat ((ji14) : Int).toNat), .string (t107.extract ((ji14) : Int).toNat t107.size)]) (ok := fun _ => True) (okp := fun _ => True) ?hr ?hp (fun _ hk => hk) trivial (Below.refl _ _) (Nat.le_refl _) (by simp) ?_; (case hd => rfl); (case hg => first | rfl | exact wanted_on rfl rfl rfl (by first | assumption | rfl | (simp [*]; done))); (case hr => first | (go_simp; done) | (go_simp; rfl)); (case hp => exact (Reps.one (show Kd.M Kd.string _ _ _ (t107.extract 0 ((ji8) : Int).toNat) [.string (t107.extract 0 ((ji8) : Int).toNat)] from rfl) (Reps.one (show Kd.M Kd.string _ _ _ (t107.extract ((ji8) : Int).toNat ((ji14) : Int).toNat) [.string (t107.extract ((ji8) : Int).toNat ((ji14) : Int).toNat)] from rfl) (Reps.one (show Kd.M Kd.string _ _ _ (t107.extract ((ji14) : Int).toNat t107.size) [.string (t107.extract ((ji14) : Int).toNat t107.size)] from rfl) (Reps.none _ _)))))
                      intro v109 w23 ho24 hb hg_ hnew_
                      clear hg_ hnew_
                      (first | rw [← Ny108.out] at ho24 | (simp only [Int.reduceToNat] at ho24; rw [← Ny108.out] at ho24))
                      have n0_ := Aside0.mk (Kd.R_lower ho24 (below_size (by repeat (first | (with_reducible first | exact HB.out | apply below_alloc | apply pw_below_drewN | apply below_drew1 | refine below_set ?_ GE105.out) | exact HB.out))))
                      have n1_ := Aside0.mk (blk_below (g := gb105) (o := .cells #[.int .i64 a1_0, .int .i64 a1_1] 22 (0, 0)) (by (with_reducible repeat (first | refine blk_drewN ?_ _ | refine blk_drew ?_ | refine blk_alloc ?_ _)); exact BK105.out) hb)
                      have n2_ := Aside0.mk (below_step (by repeat (first | (with_reducible first | exact HB.out | apply below_alloc | apply pw_below_drewN | apply below_drew1 | refine below_set ?_ GE105.out) | exact HB.out)) hb)
                      have z_HO114 := fun (h0_ : b 15 = true) => (show Kd.R Kd.string 9 w23 w.heap.size (fun _ => True) v113 y112 from by first | exact (Kd.R_elder' (by (with_reducible repeat (first | apply Kd.R_alloc | apply Kd.R_drewN | apply Kd.R_drew)); exact (Q_HO114 h0_)) (Kd.R_base ho24) hb) | exact Kd.R_mono (Kd.R_elder' (by (with_reducible repeat (first | apply Kd.R_alloc | apply Kd.R_drewN | apply Kd.R_drew)); exact (Q_HO114 h0_)) (Kd.R_base ho24) hb) (fun _ h_ => by first | trivial | exact h_ | exact h_.1))
                      clear BK105
                      clear HB
                      have HO110 := n0_
                      have BK105 := n1_
                      have HB := n2_
                      clear n0_ n1_ n2_
                      clear hb ho24
                      refine hK.out _ _ ⟨v109, v113, (by rw [ha.out]; exact putSel_upk 3 hb_ rfl rfl rfl), (by (with_reducible repeat (first | refine blk_drewN ?_ _ | refine blk_drew ?_ | refine blk_alloc ?_ _)); exact BK105.out), (by repeat (first | (with_reducible first | exact HB.out | apply below_alloc | apply pw_below_drewN | apply below_drew1 | refine below_set ?_ GE105.out) | exact HB.out)), fun _ => (by (with_reducible repeat (first | apply Kd.R_alloc | apply Kd.R_drewN | apply Kd.R_drew)); (first | exact HO110.out | exact Kd.R_mono HO110.out (fun _ _ => trivial) | exact Kd.R_mono HO110.out (fun _ hk => hk.1))), z_HO114⟩
                    refine steps_cons ?_ ?_
                    · rintro b a w' ⟨v109, v113, ha, Q_BK105, Q_HB, Q_HO110, Q_HO114⟩ hb_ hon hoff
                      refine ⟨_, rfl, fun K hK => ?_⟩
                      have e46 : a.tmps[46]? = some (v109) := by rw [ha]; exact putSel_on (e := (12, 46, v109)) 3 rfl rfl (hon 12 (by kernel_rfl)) rfl
                      have e35 : a.tmps[35]? = some (.bool true) := by rw [ha]; exact (putSel_off rfl).trans rfl
                      replace ha := Aside0.mk ha
                      have BK105 := Aside0.mk Q_BK105
                      have HB := Aside0.mk Q_HB
                      have HO110 := Aside0.mk (Q_HO110 (hon 12 (by kernel_rfl)))
                      obtain ⟨Ao26, co26, eo26⟩ := Kd.R_slice HO110.out
                      (first | subst eo26 | (injection eo26 with f1_ f2_ f3_; have f4_ := f1_.symm; have f5_ := f3_.symm; clear f1_ f2_ f3_; subst f4_; subst f5_))
                      refine goes_ Try.func15 (by kernel_rfl) rfl #[.slice Ao26 y108.length co26] (by first | rfl | exact wanted_on rfl rfl rfl (by first | assumption | rfl | (simp [*]; done))) rfl rfl (by first | (simp only [List.map_toArray, List.map_cons, List.map_nil, Act.eval, Array.getD_eq_getD_getElem?, Option.getD_some, e46, e35]; done) | (simp only [List.map_toArray, List.map_cons, List.map_nil, Act.eval, Array.getD_eq_getD_getElem?, Option.getD_some, e46, e35]; rfl)) ?_
                      with_reducible refine (crc_Sum.calls _ _ y108 t111 _ ?side1 ?side2 A17.out).mono ?_
                      (case side1 => repeat (first | exact (Kd.R_reads' HO110.out).2.2 | (with_reducible refine Kd.C_alloc ?_ _) | (with_reducible refine Kd.C_drewN ?_ _) | (with_reducible refine Kd.C_drew ?_)))
                      (case side2 => exact (Kd.R_reads' HO110.out).2.1)
                      rintro e w27 ⟨rfl, hb⟩
                      refine ⟨_, rfl, ?_⟩
                      have n0_ := Aside0.mk (Kd.R_below (by (with_reducible repeat (first | apply Kd.R_alloc | apply Kd.R_drewN | apply Kd.R_drew)); (first | exact HO110.out | exact Kd.R_mono HO110.out (fun _ _ => trivial) | exact Kd.R_mono HO110.out (fun _ hk => hk.1))) hb)
                      have n1_ := Aside0.mk (blk_below (g := gb105) (o := .cells #[.int .i64 a1_0, .int .i64 a1_1] 22 (0, 0)) (by (with_reducible repeat (first | refine blk_drewN ?_ _ | refine blk_drew ?_ | refine blk_alloc ?_ _)); exact BK105.out) hb)
                      have n2_ := Aside0.mk (below_step (by repeat (first | (with_reducible first | exact HB.out | apply below_alloc | apply pw_below_drewN | apply below_drew1 | refine below_set ?_ GE105.out) | exact HB.out)) hb)
                      have z_HO114 := fun (h0_ : b 15 = true) => (show Kd.R Kd.string 9 w27 w.heap.size (fun _ => True) v113 y112 from by first | exact (Kd.R_below (by (with_reducible repeat (first | apply Kd.R_alloc | apply Kd.R_drewN | apply Kd.R_drew)); exact (Q_HO114 h0_)) hb) | exact Kd.R_mono (Kd.R_below (by (with_reducible repeat (first | apply Kd.R_alloc | apply Kd.R_drewN | apply Kd.R_drew)); exact (Q_HO114 h0_)) hb) (fun _ h_ => by first | trivial | exact h_ | exact h_.1))
                      clear HO110
                      clear BK105
                      clear HB
                      have HO110 := n0_
                      have BK105 := n1_
                      have HB := n2_
                      clear n0_ n1_ n2_
                      (try clear hb)
                      (try clear hb2)
                      (try clear hk)
                      (try clear hi)
                      refine hK.out _ _ ⟨.slice Ao26 y108.length co26, v113, (by rw [ha.out]; exact putSel_upk 4 hb_ rfl rfl rfl), (by (with_reducible repeat (first | refine blk_drewN ?_ _ | refine blk_drew ?_ | refine blk_alloc ?_ _)); exact BK105.out), (by repeat (first | (with_reducible first | exact HB.out | apply below_alloc | apply pw_below_drewN | apply below_drew1 | refine below_set ?_ GE105.out) | exact HB.out)), fun _ => (by (with_reducible repeat (first | apply Kd.R_alloc | apply Kd.R_drewN | apply Kd.R_drew)); (first | exact HO110.out | exact Kd.R_mono HO110.out (fun _ _ => trivial) | exact Kd.R_mono HO110.out (fun _ hk => hk.1))), z_HO114⟩
                    refine steps_cons ?_ ?_
                    · rintro b a w' ⟨v109, v113, ha, Q_BK105, Q_HB, Q_HO110, Q_HO114⟩ hb_ hon hoff
                      refine ⟨_, rfl, fun K hK => ?_⟩
                      have e48 : a.tmps[48]? = some (.string t107) := by rw [ha]; exact (putSel_off rfl).trans rfl
                      have e35 : a.tmps[35]? = some (.bool true) := by rw [ha]; exact (putSel_off rfl).trans rfl
                      replace ha := Aside0.mk ha
                      have BK105 := Aside0.mk Q_BK105
                      have HB := Aside0.mk Q_HB
                      refine Kd.R_lit_step Kd.string _ 9 ?hg (N := 49) ?hd (xs := ([t107] : List ByteArray)) (inner := [.string t107]) (ok := fun _ => True) (okp := fun _ => True) ?hr ?hp (fun _ hk => hk) trivial (Below.refl _ _) (Nat.le_refl _) (by simp) ?_; (case hd => rfl); (case hg => first | rfl | exact wanted_on rfl rfl rfl (by first | assumption | rfl | (simp [*]; done))); (case hr => first | (go_simp; done) | (go_simp; rfl)); (case hp => exact (Reps.one (show Kd.M Kd.string _ _ _ t107 [.string t107] from rfl) (Reps.none _ _)))
                      intro v113 w23 ho24 hb hg_ hnew_
                      clear hg_ hnew_
                      (first | rw [← Ny112.out] at ho24 | (simp only [Int.reduceToNat] at ho24; rw [← Ny112.out] at ho24))
                      have n0_ := Aside0.mk (Kd.R_lower ho24 (below_size (by repeat (first | (with_reducible first | exact HB.out | apply below_alloc | apply pw_below_drewN | apply below_drew1 | refine below_set ?_ GE105.out) | exact HB.out))))
                      have n1_ := Aside0.mk (blk_below (g := gb105) (o := .cells #[.int .i64 a1_0, .int .i64 a1_1] 22 (0, 0)) (by (with_reducible repeat (first | refine blk_drewN ?_ _ | refine blk_drew ?_ | refine blk_alloc ?_ _)); exact BK105.out) hb)
                      have n2_ := Aside0.mk (below_step (by repeat (first | (with_reducible first | exact HB.out | apply below_alloc | apply pw_below_drewN | apply below_drew1 | refine below_set ?_ GE105.out) | exact HB.out)) hb)
                      have z_HO110 := fun (h0_ : b 12 = true) => (show Kd.R Kd.string 9 w23 w.heap.size (fun _ => True) v109 y108 from by first | exact (Kd.R_elder' (by (with_reducible repeat (first | apply Kd.R_alloc | apply Kd.R_drewN | apply Kd.R_drew)); exact (Q_HO110 h0_)) (Kd.R_base ho24) hb) | exact Kd.R_mono (Kd.R_elder' (by (with_reducible repeat (first | apply Kd.R_alloc | apply Kd.R_drewN | apply Kd.R_drew)); exact (Q_HO110 h0_)) (Kd.R_base ho24) hb) (fun _ h_ => by first | trivial | exact h_ | exact h_.1))
                      clear BK105
                      clear HB
                      have HO114 := n0_
                      have BK105 := n1_
                      have HB := n2_
                      clear n0_ n1_ n2_
                      clear hb ho24
                      refine hK.out _ _ ⟨v109, v113, (by rw [ha.out]; exact putSel_upk 5 hb_ rfl rfl rfl), (by (with_reducible repeat (first | refine blk_drewN ?_ _ | refine blk_drew ?_ | refine blk_alloc ?_ _)); exact BK105.out), (by repeat (first | (with_reducible first | exact HB.out | apply below_alloc | apply pw_below_drewN | apply below_drew1 | refine below_set ?_ GE105.out) | exact HB.out)), z_HO110, fun _ => (by (with_reducible repeat (first | apply Kd.R_alloc | apply Kd.R_drewN | apply Kd.R_drew)); (first | exact HO114.out | exact Kd.R_mono HO114.out (fun _ _ => trivial) | exact Kd.R_mono HO114.out (fun _ hk => hk.1)))⟩
                    refine steps_cons ?_ ?_
                    · rintro b a w' ⟨v109, v113, ha, Q_BK105, Q_HB, Q_HO110, Q_HO114⟩ hb_ hon hoff
                      refine ⟨_, rfl, fun K hK => ?_⟩
                      have e49 : a.tmps[49]? = some (v113) := by rw [ha]; exact putSel_on (e := (15, 49, v113)) 5 rfl rfl (hon 15 (by kernel_rfl)) rfl
                      have e35 : a.tmps[35]? = some (.bool true) := by rw [ha]; exact (putSel_off rfl).trans rfl
                      replace ha := Aside0.mk ha
                      have BK105 := Aside0.mk Q_BK105
                      have HB := Aside0.mk Q_HB
                      have HO110 := Aside0.mk (Q_HO110 (hon 12 (by kernel_rfl)))
                      have HO114 := Aside0.mk (Q_HO114 (hon 15 (by kernel_rfl)))
                      obtain ⟨Ao30, co30, eo30⟩ := Kd.R_slice HO114.out
                      (first | subst eo30 | (injection eo30 with f1_ f2_ f3_; have f4_ := f1_.symm; have f5_ := f3_.symm; clear f1_ f2_ f3_; subst f4_; subst f5_))
                      refine goes_ Try.func15 (by kernel_rfl) rfl #[.slice Ao30 y112.length co30] (by first | rfl | exact wanted_on rfl rfl rfl (by first | assumption | rfl | (simp [*]; done))) rfl rfl (by first | (simp only [List.map_toArray, List.map_cons, List.map_nil, Act.eval, Array.getD_eq_getD_getElem?, Option.getD_some, e49, e35]; done) | (simp only [List.map_toArray, List.map_cons, List.map_nil, Act.eval, Array.getD_eq_getD_getElem?, Option.getD_some, e49, e35]; rfl)) ?_
                      with_reducible refine (crc_Sum.calls _ _ y112 t115 _ ?side1 ?side2 A18.out).mono ?_
                      (case side1 => repeat (first | exact (Kd.R_reads' HO114.out).2.2 | (with_reducible refine Kd.C_alloc ?_ _) | (with_reducible refine Kd.C_drewN ?_ _) | (with_reducible refine Kd.C_drew ?_)))
                      (case side2 => exact (Kd.R_reads' HO114.out).2.1)
                      rintro e w31 ⟨rfl, hb⟩
                      refine ⟨_, rfl, ?_⟩
                      have n0_ := Aside0.mk (Kd.R_below (by (with_reducible repeat (first | apply Kd.R_alloc | apply Kd.R_drewN | apply Kd.R_drew)); (first | exact HO110.out | exact Kd.R_mono HO110.out (fun _ _ => trivial) | exact Kd.R_mono HO110.out (fun _ hk => hk.1))) hb)
                      have n1_ := Aside0.mk (Kd.R_below (by (with_reducible repeat (first | apply Kd.R_alloc | apply Kd.R_drewN | apply Kd.R_drew)); (first | exact HO114.out | exact Kd.R_mono HO114.out (fun _ _ => trivial) | exact Kd.R_mono HO114.out (fun _ hk => hk.1))) hb)
                      have n2_ := Aside0.mk (blk_below (g := gb105) (o := .cells #[.int .i64 a1_0, .int .i64 a1_1] 22 (0, 0)) (by (with_reducible repeat (first | refine blk_drewN ?_ _ | refine blk_drew ?_ | refine blk_alloc ?_ _)); exact BK105.out) hb)
                      have n3_ := Aside0.mk (below_step (by repeat (first | (with_reducible first | exact HB.out | apply below_alloc | apply pw_below_drewN | apply below_drew1 | refine below_set ?_ GE105.out) | exact HB.out)) hb)
                      clear HO110
                      clear HO114
                      clear BK105
                      clear HB
                      have HO110 := n0_
                      have HO114 := n1_
                      have BK105 := n2_
                      have HB := n3_
                      clear n0_ n1_ n2_ n3_
                      (try clear hb)
                      (try clear hb2)
                      (try clear hk)
                      (try clear hi)
                      refine hK.out _ _ ⟨v109, .slice Ao30 y112.length co30, (by rw [ha.out]; exact putSel_upk 6 hb_ rfl rfl rfl), (by (with_reducible repeat (first | refine blk_drewN ?_ _ | refine blk_drew ?_ | refine blk_alloc ?_ _)); exact BK105.out), (by repeat (first | (with_reducible first | exact HB.out | apply below_alloc | apply pw_below_drewN | apply below_drew1 | refine below_set ?_ GE105.out) | exact HB.out)), fun _ => (by (with_reducible repeat (first | apply Kd.R_alloc | apply Kd.R_drewN | apply Kd.R_drew)); (first | exact HO110.out | exact Kd.R_mono HO110.out (fun _ _ => trivial) | exact Kd.R_mono HO110.out (fun _ hk => hk.1))), fun _ => (by (with_reducible repeat (first | apply Kd.R_alloc | apply Kd.R_drewN | apply Kd.R_drew)); (first | exact HO114.out | exact Kd.R_mono HO114.out (fun _ _ => trivial) | exact Kd.R_mono HO114.out (fun _ hk => hk.1)))⟩
                    refine steps_cons ?_ ?_
                    · rintro b a w' ⟨v109, v113, ha, Q_BK105, Q_HB, Q_HO110, Q_HO114⟩ hb_ hon hoff
                      refine ⟨_, rfl, fun K hK => ?_⟩
                      have e47 : a.tmps[47]? = some (.int .u32 t111) := by rw [ha]; exact putSel_on (e := (13, 47, .int .u32 t111)) 4 rfl rfl (hon 13 (by kernel_rfl)) rfl
                      have e50 : a.tmps[50]? = some (.int .u32 t115) := by rw [ha]; exact putSel_on (e := (16, 50, .int .u32 t115)) 6 rfl rfl (hon 16 (by kernel_rfl)) rfl
                      have e35 : a.tmps[35]? = some (.bool true) := by rw [ha]; exact (putSel_off rfl).trans rfl
                      replace ha := Aside0.mk ha
                      have BK105 := Aside0.mk Q_BK105
                      have HB := Aside0.mk Q_HB
                      have HO110 := Aside0.mk (Q_HO110 (hon 12 (by kernel_rfl)))
                      have HO114 := Aside0.mk (Q_HO114 (hon 15 (by kernel_rfl)))
                      refine value_ (w1 := w') (v := .bool (t111 == t115)) (wanted_on rfl rfl rfl (e35.trans (by first | rfl | (simp [*]; done)))) rfl ?_ ?_
                      · go_simp
                        (try simp only [i64_w])
                        try rfl
                      refine hK.out _ _ ⟨v109, v113, (by rw [ha.out]; exact putSel_upk 7 hb_ rfl rfl rfl), Q_BK105, Q_HB, Q_HO110, Q_HO114⟩
                    refine steps_cons ?_ ?_
                    · rintro b a w' ⟨v109, v113, ha, Q_BK105, Q_HB, Q_HO110, Q_HO114⟩ hb_ hon hoff
                      refine ⟨_, rfl, fun K hK => ?_⟩
                      have e35 : a.tmps[35]? = some (.bool true) := by rw [ha]; exact (putSel_off rfl).trans rfl
                      have e51 : a.tmps[51]? = some (.bool (t111 == t115)) := by rw [ha]; exact putSel_on (e := (17, 51, .bool (t111 == t115))) 7 rfl rfl (hon 17 (by kernel_rfl)) rfl
                      replace ha := Aside0.mk ha
                      have BK105 := Aside0.mk Q_BK105
                      have HB := Aside0.mk Q_HB
                      have HO110 := Aside0.mk (Q_HO110 (hon 12 (by kernel_rfl)))
                      have HO114 := Aside0.mk (Q_HO114 (hon 15 (by kernel_rfl)))
                      refine value_ (w1 := w') (v := .bool (t111 == t115)) (by rfl) rfl ?_ ?_
                      · go_simp
                        (try simp only [i64_w])
                        try rfl
                      refine hK.out _ _ ⟨v109, v113, (by rw [ha.out]; exact putSel_upk 8 hb_ rfl rfl rfl), Q_BK105, Q_HB, Q_HO110, Q_HO114⟩
                    refine steps_cons ?_ ?_
                    · rintro b a w' ⟨v109, v113, ha, Q_BK105, Q_HB, Q_HO110, Q_HO114⟩ hb_ hon hoff
                      refine ⟨_, rfl, fun K hK => ?_⟩
                      have e52 : a.tmps[52]? = some (.bool (t111 == t115)) := by rw [ha]; exact putSel_on (e := (18, 52, .bool (t111 == t115))) 8 rfl rfl (hon 18 (by kernel_rfl)) rfl
                      replace ha := Aside0.mk ha
                      have BK105 := Aside0.mk Q_BK105
                      have HB := Aside0.mk Q_HB
                      have HO110 := Aside0.mk (Q_HO110 (hon 12 (by kernel_rfl)))
                      have HO114 := Aside0.mk (Q_HO114 (hon 15 (by kernel_rfl)))
                      refine value_ (w1 := w') (v := .bool (t111 == t115)) (by rfl) rfl ?_ ?_
                      · go_simp
                        (try simp only [i64_w])
                        try rfl
                      refine hK.out _ _ ⟨v109, v113, (by rw [ha.out]; exact putSel_upk 9 hb_ rfl rfl rfl), Q_BK105, Q_HB, Q_HO110, Q_HO114⟩
                    exact steps_nil
                  rintro b a w31 hall ⟨v109, v113, ha, Q_BK105, Q_HB, Q_HO110, Q_HO114⟩
                  clear BK105 HB
                  have hb4_ := hall 4 (by kernel_rfl)
                  have hb8_ := hall 8 (by kernel_rfl)
                  have hb11_ := hall 11 (by kernel_rfl)
                  have hb12_ := hall 12 (by kernel_rfl)
                  have hb13_ := hall 13 (by kernel_rfl)
                  have hb15_ := hall 15 (by kernel_rfl)
                  have hb16_ := hall 16 (by kernel_rfl)
                  have hb17_ := hall 17 (by kernel_rfl)
                  have hb18_ := hall 18 (by kernel_rfl)
                  have hb19_ := hall 19 (by kernel_rfl)
                  subst ha
                  simp only [putSel, hb4_, hb8_, hb11_, hb12_, hb13_, hb15_, hb16_, hb17_, hb18_, hb19_, if_true, Act.put, List.setIfInBounds_toArray, List.set_cons_zero, List.set_cons_succ]
                  have BK105 := Aside0.mk Q_BK105
                  clear Q_BK105
                  have HB := Aside0.mk Q_HB
                  clear Q_HB
                  have HO110 := Aside0.mk (Q_HO110 hb12_)
                  clear Q_HO110
                  have HO114 := Aside0.mk (Q_HO114 hb15_)
                  clear Q_HO114
                  clear hall hb4_ hb8_ hb11_ hb12_ hb13_ hb15_ hb16_ hb17_ hb18_ hb19_
                  try go_wp2
                  go_ret
                  exact ⟨by first | rfl | (simp [errW_none, errW_some] <;> rfl) | (simp only [← hji8, ← hji14]; first | rfl | (simp [errW_none, errW_some] <;> rfl)) | (simp [*, errW_none, errW_some] <;> rfl), by repeat (first | (with_reducible first | exact HB.out | apply below_alloc | apply pw_below_drewN | apply below_drew1 | refine below_set ?_ GE105.out) | exact HB.out)⟩
                · rw [if_neg c15] at H
                  exact absurd H (by simp)
              · rw [if_neg c13] at H
                exact absurd H (by simp)
            · rw [if_neg c12] at H
              exact absurd H (by simp)
          · rw [if_neg c10] at H
            exact absurd H (by simp)
        · rw [if_neg c9] at H
          exact absurd H (by simp)
      · replace c7 := Bool.eq_false_iff.mpr c7
        subst c7
        have H1 : (some false) = some r := by rw [if_neg (show ¬ (false = true) by decide)] at H; exact H
        clear H
        have H := H1
        clear H1
        obtain rfl := Option.some.inj H
        go_enter Try.func3, Try.ntmps3
        try go_wp2_with (first | ((with_reducible refine gate_dst (N := 3) rfl ?_); (try (refine gate_guard (by rfl) ?_; dsimp only)); refine box_event ?hg (N := 3) ?hd (cs := #[.int .i64 a1_0, .int .i64 a1_1]) (t := 22) ?hr ?_; (case hd => rfl); (case hg => first | rfl | exact wanted_on rfl rfl rfl (by first | assumption | rfl | (simp [*]; done))); (case hr => first | (go_simp; done) | (go_simp; rfl)); intro gb105 hg w32 hbox hb; have n0_ := Aside0.mk (below_step (by repeat (first | (with_reducible first | exact HB.out | apply below_alloc | apply pw_below_drewN | apply below_drew1) | exact HB.out)) hb); have n1_ := Aside0.mk (hbox); have n2_ := Aside0.mk ((by rw [hg]; exact (below_size (by repeat (first | (with_reducible first | exact HB.out | apply below_alloc | apply pw_below_drewN | apply below_drew1) | exact HB.out))) : w.heap.size ≤ gb105)); have n3_ := Aside0.mk ((by rw [hg]; exact (below_size (by repeat (first | (with_reducible first | exact HB.out | apply below_alloc | apply pw_below_drewN | apply below_drew1) | exact HB.out))) : w.heap.size ≤ gb105)); clear HB; have HB := n0_; have BK105 := n1_; have GW105 := n2_; have GE105 := n3_; clear n0_ n1_ n2_ n3_; clear hb hbox hg) | ((with_reducible refine gate_callee (f := 13) rfl ?_); refine goesL_ (some 9) rfl rfl Try.func13 (by kernel_rfl) rfl #[] rfl (by (try simp only [List.map_toArray, List.map_cons, List.map_nil]); first | done | rfl | (simp only [List.length_drop, List.length_take]; rfl)) ?_; (with_reducible refine (earshotlaw05_awake.calls  false _ A3.out).mono ?_); rintro e w33 ⟨rfl, hb⟩; refine ⟨_, rfl, ?_⟩; have n0_ := Aside0.mk (blk_below (g := gb105) (o := .cells #[.int .i64 a1_0, .int .i64 a1_1] 22 (0, 0)) (by (with_reducible repeat (first | refine blk_drewN ?_ _ | refine blk_drew ?_ | refine blk_alloc ?_ _)); exact BK105.out) hb); have n1_ := Aside0.mk (below_step (by repeat (first | (with_reducible first | exact HB.out | apply below_alloc | apply pw_below_drewN | apply below_drew1 | refine below_set ?_ GE105.out) | exact HB.out)) hb); clear BK105; clear HB; have BK105 := n0_; have HB := n1_; clear n0_ n1_; (try clear hb); (try clear hb2); (try clear hk); (try clear hi)) | ((with_reducible refine gate_callee (f := 14) rfl ?_); refine goesL_ (some 11) rfl rfl Try.func14 (by kernel_rfl) rfl #[.string a0] rfl (by (try simp only [List.map_toArray, List.map_cons, List.map_nil]); first | done | rfl | (simp only [List.length_drop, List.length_take]; rfl)) ?_; (with_reducible refine (earshotlaw05_short.calls a0 t107 _ A4.out).mono ?_); rintro e w' ⟨rfl, ⟨nd, rfl⟩⟩; refine ⟨_, rfl, ?_⟩; have hcz34_0 : w33.cell? ⟨gb105, 0, none⟩ = some (.int .i64 a1_0) := (blk_cell BK105.out 0).trans rfl; have hcz34_1 : w33.cell? ⟨gb105, 1, none⟩ = some (.int .i64 a1_1) := (blk_cell BK105.out 1).trans rfl; have hfz34_0 := blk_frozen BK105.out 0; have hfz34_1 := blk_frozen BK105.out 1))
        (try (rw [drewN_self w33]; generalize hq_ : World.drewN w33 _ = w33; have n0_ : Aside0 (w33.heap[gb105]? = some (.cells #[.int .i64 a1_0, .int .i64 a1_1] 22 (0, 0))) := ⟨by rw [← hq_]; exact (by (with_reducible repeat (first | refine blk_drewN ?_ _ | refine blk_drew ?_ | refine blk_alloc ?_ _)); exact BK105.out)⟩; have n1_ : Aside0 (Below w.heap.size w w33) := ⟨by rw [← hq_]; exact (by repeat (first | (with_reducible first | exact HB.out | apply below_alloc | apply pw_below_drewN | apply below_drew1 | refine below_set ?_ GE105.out) | exact HB.out))⟩; clear BK105 HB hq_; have BK105 := n0_; have HB := n1_; clear n0_ n1_))
        have n0_ := Aside0.mk (blk_drew BK105.out)
        have n1_ := Aside0.mk (below_drew1 HB.out)
        clear BK105
        clear HB
        have BK105 := n0_
        have HB := n1_
        clear n0_ n1_
        refine start_ (n := 20) (S := fun w' => True) (ds := []) #[false, false, false, false, false, false, false, false, false, false, false, false, false, false, false, false, false, false, false, false] (by kernel_rfl) rfl rfl trivial (fun hHeld => ?_); refine with_tabW earshotlaw05_CrcParts.tab7 earshotlaw05_CrcParts.bits7 (fun HT_ HW_ => ?_)
        generalize w33.drew = w35 at BK105 HB hHeld ⊢
        refine pure_ (i := 0) (N := some 34) (v := ?_) (a' := ?_) #[true, false, false, false, false, false, false, false, false, false, false, false, false, false, false, false, false, false, false, false] rfl rfl (any_of HT_.out (by kernel_rfl)) (fun _ _ _ h => h) (Or.inl ⟨by rfl, ?_⟩) ?_ ?_
        rotate_left
        · intro w'
          go_simp
          with_reducible rfl
        rotate_left
        · simp only [Act.put, List.setIfInBounds_toArray, List.set_cons_zero, List.set_cons_succ, i64_w, i32_w]
          rfl
        refine pure_ (i := 1) (N := some 35) (v := ?_) (a' := ?_) #[true, true, false, false, false, false, false, false, false, false, false, false, false, false, false, false, false, false, false, false] rfl rfl (any_of HT_.out (by kernel_rfl)) (fun _ _ _ h => h) (Or.inl ⟨by rfl, ?_⟩) ?_ ?_
        rotate_left
        · intro w'
          go_simp
          with_reducible rfl
        rotate_left
        · simp only [Act.put, List.setIfInBounds_toArray, List.set_cons_zero, List.set_cons_succ, i64_w, i32_w]
          rfl
        refine pure_ (i := 2) (N := some 36) (v := undef) (a' := ?_) #[true, true, true, false, false, false, false, false, false, false, false, false, false, false, false, false, false, false, false, false] rfl rfl (any_of HT_.out (by kernel_rfl)) (fun _ _ _ h => h) (Or.inr ⟨by rfl, rfl⟩) ?_ ?_
        rotate_left
        · simp only [Act.put, List.setIfInBounds_toArray, List.set_cons_zero, List.set_cons_succ, i64_w, i32_w]
          rfl
        refine pure_ (i := 3) (N := some 37) (v := undef) (a' := ?_) #[true, true, true, true, false, false, false, false, false, false, false, false, false, false, false, false, false, false, false, false] rfl rfl (any_of HT_.out (by kernel_rfl)) (fun _ _ _ h => h) (Or.inr ⟨by rfl, rfl⟩) ?_ ?_
        rotate_left
        · simp only [Act.put, List.setIfInBounds_toArray, List.set_cons_zero, List.set_cons_succ, i64_w, i32_w]
          rfl
        refine pure_ (i := 4) (N := some 38) (v := undef) (a' := ?_) #[true, true, true, true, true, false, false, false, false, false, false, false, false, false, false, false, false, false, false, false] rfl rfl (any_of HT_.out (by kernel_rfl)) (fun _ _ _ h => h) (Or.inr ⟨by rfl, rfl⟩) ?_ ?_
        rotate_left
        · simp only [Act.put, List.setIfInBounds_toArray, List.set_cons_zero, List.set_cons_succ, i64_w, i32_w]
          rfl
        refine pure_ (i := 5) (N := some 39) (v := undef) (a' := ?_) #[true, true, true, true, true, true, false, false, false, false, false, false, false, false, false, false, false, false, false, false] rfl rfl (any_of HT_.out (by kernel_rfl)) (fun _ _ _ h => h) (Or.inr ⟨by rfl, rfl⟩) ?_ ?_
        rotate_left
        · simp only [Act.put, List.setIfInBounds_toArray, List.set_cons_zero, List.set_cons_succ, i64_w, i32_w]
          rfl
        refine pure_ (i := 6) (N := some 40) (v := undef) (a' := ?_) #[true, true, true, true, true, true, true, false, false, false, false, false, false, false, false, false, false, false, false, false] rfl rfl (any_of HT_.out (by kernel_rfl)) (fun _ _ _ h => h) (Or.inr ⟨by rfl, rfl⟩) ?_ ?_
        rotate_left
        · simp only [Act.put, List.setIfInBounds_toArray, List.set_cons_zero, List.set_cons_succ, i64_w, i32_w]
          rfl
        refine pure_ (i := 7) (N := some 41) (v := undef) (a' := ?_) #[true, true, true, true, true, true, true, true, false, false, false, false, false, false, false, false, false, false, false, false] rfl rfl (any_of HT_.out (by kernel_rfl)) (fun _ _ _ h => h) (Or.inr ⟨by rfl, rfl⟩) ?_ ?_
        rotate_left
        · simp only [Act.put, List.setIfInBounds_toArray, List.set_cons_zero, List.set_cons_succ, i64_w, i32_w]
          rfl
        refine pure_ (i := 8) (N := some 42) (v := undef) (a' := ?_) #[true, true, true, true, true, true, true, true, true, false, false, false, false, false, false, false, false, false, false, false] rfl rfl (any_of HT_.out (by kernel_rfl)) (fun _ _ _ h => h) (Or.inr ⟨by rfl, rfl⟩) ?_ ?_
        rotate_left
        · simp only [Act.put, List.setIfInBounds_toArray, List.set_cons_zero, List.set_cons_succ, i64_w, i32_w]
          rfl
        refine pure_ (i := 9) (N := some 43) (v := undef) (a' := ?_) #[true, true, true, true, true, true, true, true, true, true, false, false, false, false, false, false, false, false, false, false] rfl rfl (any_of HT_.out (by kernel_rfl)) (fun _ _ _ h => h) (Or.inr ⟨by rfl, rfl⟩) ?_ ?_
        rotate_left
        · simp only [Act.put, List.setIfInBounds_toArray, List.set_cons_zero, List.set_cons_succ, i64_w, i32_w]
          rfl
        refine pure_ (i := 10) (N := some 44) (v := undef) (a' := ?_) #[true, true, true, true, true, true, true, true, true, true, true, false, false, false, false, false, false, false, false, false] rfl rfl (any_of HT_.out (by kernel_rfl)) (fun _ _ _ h => h) (Or.inr ⟨by rfl, rfl⟩) ?_ ?_
        rotate_left
        · simp only [Act.put, List.setIfInBounds_toArray, List.set_cons_zero, List.set_cons_succ, i64_w, i32_w]
          rfl
        refine pure_ (i := 11) (N := some 45) (v := undef) (a' := ?_) #[true, true, true, true, true, true, true, true, true, true, true, true, false, false, false, false, false, false, false, false] rfl rfl (any_of HT_.out (by kernel_rfl)) (fun _ _ _ h => h) (Or.inr ⟨by rfl, rfl⟩) ?_ ?_
        rotate_left
        · simp only [Act.put, List.setIfInBounds_toArray, List.set_cons_zero, List.set_cons_succ, i64_w, i32_w]
          rfl
        refine pure_ (i := 12) (N := some 46) (v := undef) (a' := ?_) #[true, true, true, true, true, true, true, true, true, true, true, true, true, false, false, false, false, false, false, false] rfl rfl (any_of HT_.out (by kernel_rfl)) (fun _ _ _ h => h) (Or.inr ⟨by rfl, rfl⟩) ?_ ?_
        rotate_left
        · simp only [Act.put, List.setIfInBounds_toArray, List.set_cons_zero, List.set_cons_succ, i64_w, i32_w]
          rfl
        refine pure_ (i := 13) (N := some 47) (v := undef) (a' := ?_) #[true, true, true, true, true, true, true, true, true, true, true, true, true, true, false, false, false, false, false, false] rfl rfl (any_of HT_.out (by kernel_rfl)) (fun _ _ _ h => h) (Or.inr ⟨by rfl, rfl⟩) ?_ ?_
        rotate_left
        · simp only [Act.put, List.setIfInBounds_toArray, List.set_cons_zero, List.set_cons_succ, i64_w, i32_w]
          rfl
        refine pure_ (i := 14) (N := some 48) (v := undef) (a' := ?_) #[true, true, true, true, true, true, true, true, true, true, true, true, true, true, true, false, false, false, false, false] rfl rfl (any_of HT_.out (by kernel_rfl)) (fun _ _ _ h => h) (Or.inr ⟨by rfl, rfl⟩) ?_ ?_
        rotate_left
        · simp only [Act.put, List.setIfInBounds_toArray, List.set_cons_zero, List.set_cons_succ, i64_w, i32_w]
          rfl
        refine pure_ (i := 15) (N := some 49) (v := undef) (a' := ?_) #[true, true, true, true, true, true, true, true, true, true, true, true, true, true, true, true, false, false, false, false] rfl rfl (any_of HT_.out (by kernel_rfl)) (fun _ _ _ h => h) (Or.inr ⟨by rfl, rfl⟩) ?_ ?_
        rotate_left
        · simp only [Act.put, List.setIfInBounds_toArray, List.set_cons_zero, List.set_cons_succ, i64_w, i32_w]
          rfl
        refine pure_ (i := 16) (N := some 50) (v := undef) (a' := ?_) #[true, true, true, true, true, true, true, true, true, true, true, true, true, true, true, true, true, false, false, false] rfl rfl (any_of HT_.out (by kernel_rfl)) (fun _ _ _ h => h) (Or.inr ⟨by rfl, rfl⟩) ?_ ?_
        rotate_left
        · simp only [Act.put, List.setIfInBounds_toArray, List.set_cons_zero, List.set_cons_succ, i64_w, i32_w]
          rfl
        refine pure_ (i := 17) (N := some 51) (v := undef) (a' := ?_) #[true, true, true, true, true, true, true, true, true, true, true, true, true, true, true, true, true, true, false, false] rfl rfl (any_of HT_.out (by kernel_rfl)) (fun _ _ _ h => h) (Or.inr ⟨by rfl, rfl⟩) ?_ ?_
        rotate_left
        · simp only [Act.put, List.setIfInBounds_toArray, List.set_cons_zero, List.set_cons_succ, i64_w, i32_w]
          rfl
        refine pure_ (i := 18) (N := some 52) (v := ?_) (a' := ?_) #[true, true, true, true, true, true, true, true, true, true, true, true, true, true, true, true, true, true, true, false] rfl rfl (any_of HT_.out (by kernel_rfl)) (fun _ _ _ h => h) (Or.inl ⟨by rfl, ?_⟩) ?_ ?_
        rotate_left
        · intro w'
          go_simp
          with_reducible rfl
        rotate_left
        · simp only [Act.put, List.setIfInBounds_toArray, List.set_cons_zero, List.set_cons_succ, i64_w, i32_w]
          rfl
        refine pure_ (i := 19) (N := some 4) (v := ?_) (a' := ?_) #[true, true, true, true, true, true, true, true, true, true, true, true, true, true, true, true, true, true, true, true] rfl rfl (any_of HT_.out (by kernel_rfl)) (fun _ _ _ h => h) (Or.inl ⟨by rfl, ?_⟩) ?_ ?_
        rotate_left
        · intro w'
          go_simp
          with_reducible rfl
        rotate_left
        · simp only [Act.put, List.setIfInBounds_toArray, List.set_cons_zero, List.set_cons_succ, i64_w, i32_w]
          rfl
        refine done_ (done_of HT_.out (by kernel_rfl)) ?_
        try go_wp2
        go_ret
        exact ⟨by first | rfl | (simp [errW_none, errW_some] <;> rfl) | (simp [*, errW_none, errW_some] <;> rfl), by repeat (first | (with_reducible first | exact HB.out | apply below_alloc | apply pw_below_drewN | apply below_drew1 | refine below_set ?_ GE105.out) | exact HB.out)⟩
    · rw [if_neg c6] at H
      have c6b0 : decide ((Int.tmod (wrap64 ((Int.tmod a1_1 (wrap64 ((t107.size : Int) + 1))) + (wrap64 ((t107.size : Int) + 1)))) (wrap64 ((t107.size : Int) + 1))) < (Int.tmod (wrap64 ((Int.tmod a1_0 (wrap64 ((t107.size : Int) + 1))) + (wrap64 ((t107.size : Int) + 1)))) (wrap64 ((t107.size : Int) + 1)))) = false := decide_eq_false c6
      clear c6
      by_cases c36 : t106 = true
      · subst c36
        have H1 : (if 0 ≤ (Int.tmod (wrap64 ((Int.tmod a1_0 (wrap64 ((t107.size : Int) + 1))) + (wrap64 ((t107.size : Int) + 1)))) (wrap64 ((t107.size : Int) + 1))) then (if (Int.tmod (wrap64 ((Int.tmod a1_0 (wrap64 ((t107.size : Int) + 1))) + (wrap64 ((t107.size : Int) + 1)))) (wrap64 ((t107.size : Int) + 1))) ≤ (t107.size : Int) then (if (Int.tmod (wrap64 ((Int.tmod a1_0 (wrap64 ((t107.size : Int) + 1))) + (wrap64 ((t107.size : Int) + 1)))) (wrap64 ((t107.size : Int) + 1))) ≤ (Int.tmod (wrap64 ((Int.tmod a1_1 (wrap64 ((t107.size : Int) + 1))) + (wrap64 ((t107.size : Int) + 1)))) (wrap64 ((t107.size : Int) + 1))) then (if (Int.tmod (wrap64 ((Int.tmod a1_1 (wrap64 ((t107.size : Int) + 1))) + (wrap64 ((t107.size : Int) + 1)))) (wrap64 ((t107.size : Int) + 1))) ≤ (t107.size : Int) then (if 0 ≤ (Int.tmod (wrap64 ((Int.tmod a1_1 (wrap64 ((t107.size : Int) + 1))) + (wrap64 ((t107.size : Int) + 1)))) (wrap64 ((t107.size : Int) + 1))) then ((crc_Sum.f (([t107.extract 0 ((Int.tmod (wrap64 ((Int.tmod a1_0 (wrap64 ((t107.size : Int) + 1))) + (wrap64 ((t107.size : Int) + 1)))) (wrap64 ((t107.size : Int) + 1))) : Int).toNat, t107.extract ((Int.tmod (wrap64 ((Int.tmod a1_0 (wrap64 ((t107.size : Int) + 1))) + (wrap64 ((t107.size : Int) + 1)))) (wrap64 ((t107.size : Int) + 1))) : Int).toNat ((Int.tmod (wrap64 ((Int.tmod a1_1 (wrap64 ((t107.size : Int) + 1))) + (wrap64 ((t107.size : Int) + 1)))) (wrap64 ((t107.size : Int) + 1))) : Int).toNat, (⟨#[]⟩ : ByteArray), t107.extract ((Int.tmod (wrap64 ((Int.tmod a1_1 (wrap64 ((t107.size : Int) + 1))) + (wrap64 ((t107.size : Int) + 1)))) (wrap64 ((t107.size : Int) + 1))) : Int).toNat t107.size] : List ByteArray))).bind fun t119 => ((crc_Sum.f (([t107] : List ByteArray))).bind fun t123 => (if t119 = t123 then ((crc_Sum.f ([] : List ByteArray)).bind fun t124 => ((crc_Sum.f (([(⟨#[]⟩ : ByteArray)] : List ByteArray))).bind fun t128 => (some (t124 == t128)))) else (some false)))) else (none)) else (none)) else (none)) else (none)) else (none)) = some r := by rw [if_pos rfl] at H; exact H
        clear H
        have H := H1
        clear H1
        obtain ⟨ji37, hji37⟩ : ∃ j_ : Int, (Int.tmod (wrap64 ((Int.tmod a1_0 (wrap64 ((t107.size : Int) + 1))) + (wrap64 ((t107.size : Int) + 1)))) (wrap64 ((t107.size : Int) + 1))) = j_ := ⟨_, rfl⟩
        replace H : (if 0 ≤ (ji37) then (if (ji37) ≤ (t107.size : Int) then (if (ji37) ≤ (Int.tmod (wrap64 ((Int.tmod a1_1 (wrap64 ((t107.size : Int) + 1))) + (wrap64 ((t107.size : Int) + 1)))) (wrap64 ((t107.size : Int) + 1))) then (if (Int.tmod (wrap64 ((Int.tmod a1_1 (wrap64 ((t107.size : Int) + 1))) + (wrap64 ((t107.size : Int) + 1)))) (wrap64 ((t107.size : Int) + 1))) ≤ (t107.size : Int) then (if 0 ≤ (Int.tmod (wrap64 ((Int.tmod a1_1 (wrap64 ((t107.size : Int) + 1))) + (wrap64 ((t107.size : Int) + 1)))) (wrap64 ((t107.size : Int) + 1))) then ((crc_Sum.f (([t107.extract 0 ((ji37) : Int).toNat, t107.extract ((ji37) : Int).toNat ((Int.tmod (wrap64 ((Int.tmod a1_1 (wrap64 ((t107.size : Int) + 1))) + (wrap64 ((t107.size : Int) + 1)))) (wrap64 ((t107.size : Int) + 1))) : Int).toNat, (⟨#[]⟩ : ByteArray), t107.extract ((Int.tmod (wrap64 ((Int.tmod a1_1 (wrap64 ((t107.size : Int) + 1))) + (wrap64 ((t107.size : Int) + 1)))) (wrap64 ((t107.size : Int) + 1))) : Int).toNat t107.size] : List ByteArray))).bind fun t119 => ((crc_Sum.f (([t107] : List ByteArray))).bind fun t123 => (if t119 = t123 then ((crc_Sum.f ([] : List ByteArray)).bind fun t124 => ((crc_Sum.f (([(⟨#[]⟩ : ByteArray)] : List ByteArray))).bind fun t128 => (some (t124 == t128)))) else (some false)))) else (none)) else (none)) else (none)) else (none)) else (none)) = some r := by first | (rw [hji37] at H; exact H) | (simp only [hji37] at H ⊢; exact H)
        (try rw [hji37] at c6b0)
        (try rw [hji37] at A3)
        (try rw [hji37] at A4)
        by_cases c38 : 0 ≤ (ji37)
        · rw [if_pos c38] at H
          have c38b0 := eq_true c38
          have c38b1 : decide (0 ≤ (ji37)) = true := decide_eq_true c38
          clear c38
          by_cases c39 : (ji37) ≤ (t107.size : Int)
          · rw [if_pos c39] at H
            have c39b0 := eq_true c39
            have c39b1 : decide ((ji37) ≤ (t107.size : Int)) = true := decide_eq_true c39
            clear c39
            have c40b0 := eq_true (of_decide_eq_true (by first | (with_reducible assumption) | assumption) : 0 ≤ (ji37))
            by_cases c41 : (ji37) ≤ (Int.tmod (wrap64 ((Int.tmod a1_1 (wrap64 ((t107.size : Int) + 1))) + (wrap64 ((t107.size : Int) + 1)))) (wrap64 ((t107.size : Int) + 1)))
            · rw [if_pos c41] at H
              have c41b0 := eq_true c41
              have c41b1 : decide ((ji37) ≤ (Int.tmod (wrap64 ((Int.tmod a1_1 (wrap64 ((t107.size : Int) + 1))) + (wrap64 ((t107.size : Int) + 1)))) (wrap64 ((t107.size : Int) + 1)))) = true := decide_eq_true c41
              by_cases c42 : (Int.tmod (wrap64 ((Int.tmod a1_1 (wrap64 ((t107.size : Int) + 1))) + (wrap64 ((t107.size : Int) + 1)))) (wrap64 ((t107.size : Int) + 1))) ≤ (t107.size : Int)
              · rw [if_pos c42] at H
                have c42b0 := eq_true c42
                have c42b1 : decide ((Int.tmod (wrap64 ((Int.tmod a1_1 (wrap64 ((t107.size : Int) + 1))) + (wrap64 ((t107.size : Int) + 1)))) (wrap64 ((t107.size : Int) + 1))) ≤ (t107.size : Int)) = true := decide_eq_true c42
                obtain ⟨ji43, hji43⟩ : ∃ j_ : Int, (Int.tmod (wrap64 ((Int.tmod a1_1 (wrap64 ((t107.size : Int) + 1))) + (wrap64 ((t107.size : Int) + 1)))) (wrap64 ((t107.size : Int) + 1))) = j_ := ⟨_, rfl⟩
                replace H : (if 0 ≤ (ji43) then ((crc_Sum.f (([t107.extract 0 ((ji37) : Int).toNat, t107.extract ((ji37) : Int).toNat ((ji43) : Int).toNat, (⟨#[]⟩ : ByteArray), t107.extract ((ji43) : Int).toNat t107.size] : List ByteArray))).bind fun t119 => ((crc_Sum.f (([t107] : List ByteArray))).bind fun t123 => (if t119 = t123 then ((crc_Sum.f ([] : List ByteArray)).bind fun t124 => ((crc_Sum.f (([(⟨#[]⟩ : ByteArray)] : List ByteArray))).bind fun t128 => (some (t124 == t128)))) else (some false)))) else (none)) = some r := by first | (rw [hji43] at H; exact H) | (simp only [hji43] at H ⊢; exact H)
                (try rw [hji43] at c6b0)
                (try rw [hji43] at c41b0)
                (try rw [hji43] at c41b1)
                (try rw [hji43] at c41)
                (try rw [hji43] at c42b0)
                (try rw [hji43] at c42b1)
                (try rw [hji43] at c42)
                (try rw [hji43] at A3)
                (try rw [hji43] at A4)
                by_cases c44 : 0 ≤ (ji43)
                · rw [if_pos c44] at H
                  have c44b0 := eq_true c44
                  have c44b1 : decide (0 ≤ (ji43)) = true := decide_eq_true c44
                  clear c44
                  have c45b0 := eq_true (of_decide_eq_true (by first | (with_reducible assumption) | assumption) : (ji43) ≤ (t107.size : Int))
                  obtain ⟨y116, hy116⟩ : ∃ y_ : List ByteArray, y_ = (([t107.extract 0 ((ji37) : Int).toNat, t107.extract ((ji37) : Int).toNat ((ji43) : Int).toNat, (⟨#[]⟩ : ByteArray), t107.extract ((ji43) : Int).toNat t107.size] : List ByteArray)) := ⟨_, rfl⟩
                  replace H : ((crc_Sum.f y116).bind fun t119 => ((crc_Sum.f (([t107] : List ByteArray))).bind fun t123 => (if t119 = t123 then ((crc_Sum.f ([] : List ByteArray)).bind fun t124 => ((crc_Sum.f (([(⟨#[]⟩ : ByteArray)] : List ByteArray))).bind fun t128 => (some (t124 == t128)))) else (some false)))) = some r := by first | (rw [hy116]; with_reducible exact H) | (have H2_ := (Option.bind_some _ _).symm.trans H; rw [hy116]; with_reducible exact H2_) | (have H2_ := (Option.bind_some _ _).symm.trans H; with_reducible exact H2_) | with_reducible exact H | (rw [hy116]; exact H) | exact H
                  have Ny116 := Aside0.mk hy116
                  clear hy116
                  replace H := Option.bind_eq_some_iff.mp H
                  obtain ⟨t119, A460, H⟩ := H
                  replace H : ((crc_Sum.f (([t107] : List ByteArray))).bind fun t123 => (if t119 = t123 then ((crc_Sum.f ([] : List ByteArray)).bind fun t124 => ((crc_Sum.f (([(⟨#[]⟩ : ByteArray)] : List ByteArray))).bind fun t128 => (some (t124 == t128)))) else (some false))) = some r := H
                  have A46 := Aside0.mk A460
                  clear A460
                  obtain ⟨y120, hy120⟩ : ∃ y_ : List ByteArray, y_ = (([t107] : List ByteArray)) := ⟨_, rfl⟩
                  replace H : ((crc_Sum.f y120).bind fun t123 => (if t119 = t123 then ((crc_Sum.f ([] : List ByteArray)).bind fun t124 => ((crc_Sum.f (([(⟨#[]⟩ : ByteArray)] : List ByteArray))).bind fun t128 => (some (t124 == t128)))) else (some false))) = some r := by first | (rw [hy120]; with_reducible exact H) | (have H2_ := (Option.bind_some _ _).symm.trans H; rw [hy120]; with_reducible exact H2_) | (have H2_ := (Option.bind_some _ _).symm.trans H; with_reducible exact H2_) | with_reducible exact H | (rw [hy120]; exact H) | exact H
                  have Ny120 := Aside0.mk hy120
                  clear hy120
                  replace H := Option.bind_eq_some_iff.mp H
                  obtain ⟨t123, A470, H⟩ := H
                  replace H : (if t119 = t123 then ((crc_Sum.f ([] : List ByteArray)).bind fun t124 => ((crc_Sum.f (([(⟨#[]⟩ : ByteArray)] : List ByteArray))).bind fun t128 => (some (t124 == t128)))) else (some false)) = some r := H
                  have A47 := Aside0.mk A470
                  clear A470
                  by_cases c48 : t119 = t123
                  · rw [if_pos c48] at H
                    have c48b0 : (t119 == t123) = true := beq_iff_eq.mpr c48
                    have c48b1 : (t119 != t123) = false := bne_eq_false_iff_eq.mpr c48
                    clear c48
                    replace H := Option.bind_eq_some_iff.mp H
                    obtain ⟨t124, A490, H⟩ := H
                    replace H : ((crc_Sum.f (([(⟨#[]⟩ : ByteArray)] : List ByteArray))).bind fun t128 => (some (t124 == t128))) = some r := H
                    have A49 := Aside0.mk A490
                    clear A490
                    obtain ⟨y125, hy125⟩ : ∃ y_ : List ByteArray, y_ = (([(⟨#[]⟩ : ByteArray)] : List ByteArray)) := ⟨_, rfl⟩
                    replace H : ((crc_Sum.f y125).bind fun t128 => (some (t124 == t128))) = some r := by first | (rw [hy125]; with_reducible exact H) | (have H2_ := (Option.bind_some _ _).symm.trans H; rw [hy125]; with_reducible exact H2_) | (have H2_ := (Option.bind_some _ _).symm.trans H; with_reducible exact H2_) | with_reducible exact H | (rw [hy125]; exact H) | exact H
                    have Ny125 := Aside0.mk hy125
                    clear hy125
                    replace H := Option.bind_eq_some_iff.mp H
                    obtain ⟨t128, A500, H⟩ := H
                    replace H : (some (t124 == t128)) = some r := H
                    have A50 := Aside0.mk A500
                    clear A500
                    obtain rfl := Option.some.inj H
                    go_enter Try.func3, Try.ntmps3
                    try go_wp2_with (first | ((with_reducible refine gate_dst (N := 3) rfl ?_); (try (refine gate_guard (by rfl) ?_; dsimp only)); refine box_event ?hg (N := 3) ?hd (cs := #[.int .i64 a1_0, .int .i64 a1_1]) (t := 22) ?hr ?_; (case hd => rfl); (case hg => first | rfl | exact wanted_on rfl rfl rfl (by first | assumption | rfl | (simp [*]; done))); (case hr => first | (go_simp; done) | (go_simp; rfl)); intro gb105 hg w51 hbox hb; have n0_ := Aside0.mk (below_step (by repeat (first | (with_reducible first | exact HB.out | apply below_alloc | apply pw_below_drewN | apply below_drew1) | exact HB.out)) hb); have n1_ := Aside0.mk (hbox); have n2_ := Aside0.mk ((by rw [hg]; exact (below_size (by repeat (first | (with_reducible first | exact HB.out | apply below_alloc | apply pw_below_drewN | apply below_drew1) | exact HB.out))) : w.heap.size ≤ gb105)); have n3_ := Aside0.mk ((by rw [hg]; exact (below_size (by repeat (first | (with_reducible first | exact HB.out | apply below_alloc | apply pw_below_drewN | apply below_drew1) | exact HB.out))) : w.heap.size ≤ gb105)); clear HB; have HB := n0_; have BK105 := n1_; have GW105 := n2_; have GE105 := n3_; clear n0_ n1_ n2_ n3_; clear hb hbox hg) | ((with_reducible refine gate_callee (f := 13) rfl ?_); refine goesL_ (some 9) rfl rfl Try.func13 (by kernel_rfl) rfl #[] rfl (by (try simp only [List.map_toArray, List.map_cons, List.map_nil]); first | done | rfl | (simp only [List.length_drop, List.length_take]; rfl)) ?_; (with_reducible refine (earshotlaw05_awake.calls  true _ A3.out).mono ?_); rintro e w52 ⟨rfl, hb⟩; refine ⟨_, rfl, ?_⟩; have n0_ := Aside0.mk (blk_below (g := gb105) (o := .cells #[.int .i64 a1_0, .int .i64 a1_1] 22 (0, 0)) (by (with_reducible repeat (first | refine blk_drewN ?_ _ | refine blk_drew ?_ | refine blk_alloc ?_ _)); exact BK105.out) hb); have n1_ := Aside0.mk (below_step (by repeat (first | (with_reducible first | exact HB.out | apply below_alloc | apply pw_below_drewN | apply below_drew1 | refine below_set ?_ GE105.out) | exact HB.out)) hb); clear BK105; clear HB; have BK105 := n0_; have HB := n1_; clear n0_ n1_; (try clear hb); (try clear hb2); (try clear hk); (try clear hi)) | ((with_reducible refine gate_callee (f := 14) rfl ?_); refine goesL_ (some 11) rfl rfl Try.func14 (by kernel_rfl) rfl #[.string a0] rfl (by (try simp only [List.map_toArray, List.map_cons, List.map_nil]); first | done | rfl | (simp only [List.length_drop, List.length_take]; rfl)) ?_; (with_reducible refine (earshotlaw05_short.calls a0 t107 _ A4.out).mono ?_); rintro e w' ⟨rfl, ⟨nd, rfl⟩⟩; refine ⟨_, rfl, ?_⟩; have hcz53_0 : w52.cell? ⟨gb105, 0, none⟩ = some (.int .i64 a1_0) := (blk_cell BK105.out 0).trans rfl; have hcz53_1 : w52.cell? ⟨gb105, 1, none⟩ = some (.int .i64 a1_1) := (blk_cell BK105.out 1).trans rfl; have hfz53_0 := blk_frozen BK105.out 0; have hfz53_1 := blk_frozen BK105.out 1))
                    (try (rw [drewN_self w52]; generalize hq_ : World.drewN w52 _ = w52; have n0_ : Aside0 (w52.heap[gb105]? = some (.cells #[.int .i64 a1_0, .int .i64 a1_1] 22 (0, 0))) := ⟨by rw [← hq_]; exact (by (with_reducible repeat (first | refine blk_drewN ?_ _ | refine blk_drew ?_ | refine blk_alloc ?_ _)); exact BK105.out)⟩; have n1_ : Aside0 (Below w.heap.size w w52) := ⟨by rw [← hq_]; exact (by repeat (first | (with_reducible first | exact HB.out | apply below_alloc | apply pw_below_drewN | apply below_drew1 | refine below_set ?_ GE105.out) | exact HB.out))⟩; clear BK105 HB hq_; have BK105 := n0_; have HB := n1_; clear n0_ n1_))
                    have n0_ := Aside0.mk (blk_drew BK105.out)
                    have n1_ := Aside0.mk (below_drew1 HB.out)
                    clear BK105
                    clear HB
                    have BK105 := n0_
                    have HB := n1_
                    clear n0_ n1_
                    refine start_ (n := 26) (S := fun w' => True) (ds := []) #[false, false, false, false, false, false, false, false, false, false, false, false, false, false, false, false, false, false, false, false, false, false, false, false, false, false] (by kernel_rfl) rfl rfl trivial (fun hHeld => ?_); refine with_tabW earshotlaw05_CrcParts.tab8 earshotlaw05_CrcParts.bits8 (fun HT_ HW_ => ?_)
                    generalize w52.drew = w54 at BK105 HB hHeld ⊢
                    refine pure_ (i := 0) (N := some 53) (v := ?_) (a' := ?_) #[true, false, false, false, false, false, false, false, false, false, false, false, false, false, false, false, false, false, false, false, false, false, false, false, false, false] rfl rfl (any_of HT_.out (by kernel_rfl)) (fun _ _ _ h => h) (Or.inl ⟨by rfl, ?_⟩) ?_ ?_
                    rotate_left
                    · intro w'
                      go_simp
                      with_reducible rfl
                    rotate_left
                    · simp only [Act.put, List.setIfInBounds_toArray, List.set_cons_zero, List.set_cons_succ, i64_w, i32_w]
                      rfl
                    refine pure_ (i := 1) (N := some 54) (v := ?_) (a' := ?_) #[true, true, false, false, false, false, false, false, false, false, false, false, false, false, false, false, false, false, false, false, false, false, false, false, false, false] rfl rfl (any_of HT_.out (by kernel_rfl)) (fun _ _ _ h => h) (Or.inl ⟨by rfl, ?_⟩) ?_ ?_
                    rotate_left
                    · intro w'
                      go_simp
                      with_reducible rfl
                    rotate_left
                    · simp only [Act.put, List.setIfInBounds_toArray, List.set_cons_zero, List.set_cons_succ, i64_w, i32_w]
                      rfl
                    refine pure_ (i := 2) (N := some 55) (v := ?_) (a' := ?_) #[true, true, true, false, false, false, false, false, false, false, false, false, false, false, false, false, false, false, false, false, false, false, false, false, false, false] rfl rfl (any_of HT_.out (by kernel_rfl)) (fun _ _ _ h => h) (Or.inl ⟨by rfl, ?_⟩) ?_ ?_
                    rotate_left
                    · intro w'
                      go_simp
                      with_reducible rfl
                    rotate_left
                    · simp only [Act.put, List.setIfInBounds_toArray, List.set_cons_zero, List.set_cons_succ, i64_w, i32_w]
                      rfl
                    refine pure_ (i := 3) (N := some 56) (v := ?_) (a' := ?_) #[true, true, true, true, false, false, false, false, false, false, false, false, false, false, false, false, false, false, false, false, false, false, false, false, false, false] rfl rfl (any_of HT_.out (by kernel_rfl)) (fun _ _ _ h => h) (Or.inl ⟨by rfl, ?_⟩) ?_ ?_
                    rotate_left
                    · intro w'
                      go_simp
                      with_reducible rfl
                    rotate_left
                    · simp only [Act.put, List.setIfInBounds_toArray, List.set_cons_zero, List.set_cons_succ, i64_w, i32_w]
                      rfl
                    refine pure_ (i := 5) (N := some 58) (v := ?_) (a' := ?_) #[true, true, true, true, false, true, false, false, false, false, false, false, false, false, false, false, false, false, false, false, false, false, false, false, false, false] rfl rfl (any_of HT_.out (by kernel_rfl)) (fun _ _ _ h => h) (Or.inl ⟨by rfl, ?_⟩) ?_ ?_
                    rotate_left
                    · intro w'
                      go_simp
                      with_reducible rfl
                    rotate_left
                    · simp only [Act.put, List.setIfInBounds_toArray, List.set_cons_zero, List.set_cons_succ, i64_w, i32_w]
                      rfl
                    refine pure_ (i := 6) (N := some 59) (v := ?_) (a' := ?_) #[true, true, true, true, false, true, true, false, false, false, false, false, false, false, false, false, false, false, false, false, false, false, false, false, false, false] rfl rfl (any_of HT_.out (by kernel_rfl)) (fun _ _ _ h => h) (Or.inl ⟨by rfl, ?_⟩) ?_ ?_
                    rotate_left
                    · intro w'
                      go_simp
                      with_reducible rfl
                    rotate_left
                    · simp only [Act.put, List.setIfInBounds_toArray, List.set_cons_zero, List.set_cons_succ, i64_w, i32_w]
                      rfl
                    refine pure_ (i := 7) (N := some 60) (v := ?_) (a' := ?_) #[true, true, true, true, false, true, true, true, false, false, false, false, false, false, false, false, false, false, false, false, false, false, false, false, false, false] rfl rfl (any_of HT_.out (by kernel_rfl)) (fun _ _ _ h => h) (Or.inl ⟨by rfl, ?_⟩) ?_ ?_
                    rotate_left
                    · intro w'
                      go_simp
                      with_reducible rfl
                    rotate_left
                    · simp only [Act.put, List.setIfInBounds_toArray, List.set_cons_zero, List.set_cons_succ, i64_w, i32_w]
                      rfl
                    refine pure_ (i := 9) (N := some 62) (v := ?_) (a' := ?_) #[true, true, true, true, false, true, true, true, false, true, false, false, false, false, false, false, false, false, false, false, false, false, false, false, false, false] rfl rfl (any_of HT_.out (by kernel_rfl)) (fun _ _ _ h => h) (Or.inl ⟨by rfl, ?_⟩) ?_ ?_
                    rotate_left
                    · intro w'
                      go_simp
                      with_reducible rfl
                    rotate_left
                    · simp only [Act.put, List.setIfInBounds_toArray, List.set_cons_zero, List.set_cons_succ, i64_w, i32_w]
                      rfl
                    refine pure_ (i := 10) (N := some 63) (v := ?_) (a' := ?_) #[true, true, true, true, false, true, true, true, false, true, true, false, false, false, false, false, false, false, false, false, false, false, false, false, false, false] rfl rfl (any_of HT_.out (by kernel_rfl)) (fun _ _ _ h => h) (Or.inl ⟨by rfl, ?_⟩) ?_ ?_
                    rotate_left
                    · intro w'
                      go_simp
                      with_reducible rfl
                    rotate_left
                    · simp only [Act.put, List.setIfInBounds_toArray, List.set_cons_zero, List.set_cons_succ, i64_w, i32_w]
                      rfl
                    refine pure_ (i := 14) (N := some 67) (v := ?_) (a' := ?_) #[true, true, true, true, false, true, true, true, false, true, true, false, false, false, true, false, false, false, false, false, false, false, false, false, false, false] rfl rfl (any_of HT_.out (by kernel_rfl)) (fun _ _ _ h => h) (Or.inl ⟨by rfl, ?_⟩) ?_ ?_
                    rotate_left
                    · intro w'
                      go_simp
                      with_reducible rfl
                    rotate_left
                    · simp only [Act.put, List.setIfInBounds_toArray, List.set_cons_zero, List.set_cons_succ, i64_w, i32_w]
                      rfl
                    refine inv_at [4, 8, 11, 12, 13, 15, 16, 17, 18, 19, 20, 21, 22, 23, 24, 25] (fun a0_ b a w' => ∃ (v117 : Value) (v121 : Value) (v126 : Value), a = putSel a0_ b [(4, 57, .string (t107.extract 0 ((ji37) : Int).toNat)), (8, 61, .string (t107.extract ((ji37) : Int).toNat ((ji43) : Int).toNat)), (11, 64, .string (t107.extract ((ji43) : Int).toNat t107.size)), (12, 65, v117), (13, 66, .int .u32 t119), (15, 68, v121), (16, 69, .int .u32 t123), (17, 70, .bool (t119 == t123)), (18, 71, .bool (t119 == t123)), (19, 72, .bool (t119 == t123)), (20, 73, .int .u32 t124), (21, 74, v126), (22, 75, .int .u32 t128), (23, 76, .bool (t124 == t128)), (24, 77, .bool (t124 == t128)), (25, 4, .bool (t124 == t128))] ∧ (w'.heap[gb105]? = some (.cells #[.int .i64 a1_0, .int .i64 a1_1] 22 (0, 0))) ∧ (Below w.heap.size w w') ∧ (b 12 = true → Kd.R Kd.string 9 w' w.heap.size (fun _ => True) v117 y116) ∧ (b 15 = true → Kd.R Kd.string 9 w' w.heap.size (fun _ => True) v121 y120) ∧ (b 21 = true → Kd.R Kd.string 9 w' w.heap.size (fun _ => True) v126 y125)) HT_.out HW_.out (by kernel_rfl) (by kernel_rfl) ?_ ?_ ?_
                    · exact ⟨.bool false, .bool false, .bool false, by simp only [putSel, Bool.false_eq_true, if_false], BK105.out, HB.out, fun h_ => absurd h_ (by decide), fun h_ => absurd h_ (by decide), fun h_ => absurd h_ (by decide)⟩
                    · skip
                      clear BK105 HB
                      refine steps_cons ?_ ?_
                      · rintro b a w' ⟨v117, v121, v126, ha, Q_BK105, Q_HB, Q_HO118, Q_HO122, Q_HO127⟩ hb_ hon hoff
                        refine ⟨_, rfl, fun K hK => ?_⟩
                        have e55 : a.tmps[55]? = some (.string t107) := by rw [ha]; exact (putSel_off rfl).trans rfl
                        have e56 : a.tmps[56]? = some (.int .i64 ji37) := by rw [ha]; exact (putSel_off rfl).trans rfl
                        have e54 : a.tmps[54]? = some (.bool true) := by rw [ha]; exact (putSel_off rfl).trans rfl
                        replace ha := Aside0.mk ha
                        have BK105 := Aside0.mk Q_BK105
                        have HB := Aside0.mk Q_HB
                        refine value_ (w1 := w') (v := .string (t107.extract 0 ((ji37) : Int).toNat)) (wanted_on rfl rfl rfl (e54.trans (by first | rfl | (simp [*]; done)))) rfl ?_ ?_
                        · go_simp
                          (try simp only [i64_w])
                          try rfl
                        refine hK.out _ _ ⟨v117, v121, v126, (by rw [ha.out]; exact putSel_upk 0 hb_ rfl rfl rfl), Q_BK105, Q_HB, fun h0_ => absurd ((hoff 12 (by kernel_rfl)).symm.trans h0_) (by decide), Q_HO122, fun h0_ => absurd ((hoff 21 (by kernel_rfl)).symm.trans h0_) (by decide)⟩
                      refine steps_cons ?_ ?_
                      · rintro b a w' ⟨v117, v121, v126, ha, Q_BK105, Q_HB, Q_HO118, Q_HO122, Q_HO127⟩ hb_ hon hoff
                        refine ⟨_, rfl, fun K hK => ?_⟩
                        have e58 : a.tmps[58]? = some (.string t107) := by rw [ha]; exact (putSel_off rfl).trans rfl
                        have e59 : a.tmps[59]? = some (.int .i64 ji37) := by rw [ha]; exact (putSel_off rfl).trans rfl
                        have e60 : a.tmps[60]? = some (.int .i64 ji43) := by rw [ha]; exact (putSel_off rfl).trans rfl
                        have e54 : a.tmps[54]? = some (.bool true) := by rw [ha]; exact (putSel_off rfl).trans rfl
                        replace ha := Aside0.mk ha
                        have BK105 := Aside0.mk Q_BK105
                        have HB := Aside0.mk Q_HB
                        refine value_ (w1 := w') (v := .string (t107.extract ((ji37) : Int).toNat ((ji43) : Int).toNat)) (wanted_on rfl rfl rfl (e54.trans (by first | rfl | (simp [*]; done)))) rfl ?_ ?_
                        · go_simp
                          (try simp only [i64_w])
                          try rfl
                        refine hK.out _ _ ⟨v117, v121, v126, (by rw [ha.out]; exact putSel_upk 1 hb_ rfl rfl rfl), Q_BK105, Q_HB, fun h0_ => absurd ((hoff 12 (by kernel_rfl)).symm.trans h0_) (by decide), Q_HO122, fun h0_ => absurd ((hoff 21 (by kernel_rfl)).symm.trans h0_) (by decide)⟩
                      refine steps_cons ?_ ?_
                      · rintro b a w' ⟨v117, v121, v126, ha, Q_BK105, Q_HB, Q_HO118, Q_HO122, Q_HO127⟩ hb_ hon hoff
                        refine ⟨_, rfl, fun K hK => ?_⟩
                        have e62 : a.tmps[62]? = some (.string t107) := by rw [ha]; exact (putSel_off rfl).trans rfl
                        have e63 : a.tmps[63]? = some (.int .i64 ji43) := by rw [ha]; exact (putSel_off rfl).trans rfl
                        have e54 : a.tmps[54]? = some (.bool true) := by rw [ha]; exact (putSel_off rfl).trans rfl
                        replace ha := Aside0.mk ha
                        have BK105 := Aside0.mk Q_BK105
                        have HB := Aside0.mk Q_HB
                        refine value_ (w1 := w') (v := .string (t107.extract ((ji43) : Int).toNat t107.size)) (wanted_on rfl rfl rfl (e54.trans (by first | rfl | (simp [*]; done)))) rfl ?_ ?_
                        · go_simp
                          (try simp only [i64_w])
                          try rfl
                        refine hK.out _ _ ⟨v117, v121, v126, (by rw [ha.out]; exact putSel_upk 2 hb_ rfl rfl rfl), Q_BK105, Q_HB, fun h0_ => absurd ((hoff 12 (by kernel_rfl)).symm.trans h0_) (by decide), Q_HO122, fun h0_ => absurd ((hoff 21 (by kernel_rfl)).symm.trans h0_) (by decide)⟩
                      refine steps_cons ?_ ?_
                      · rintro b a w' ⟨v117, v121, v126, ha, Q_BK105, Q_HB, Q_HO118, Q_HO122, Q_HO127⟩ hb_ hon hoff
                        refine ⟨_, rfl, fun K hK => ?_⟩
                        have e57 : a.tmps[57]? = some (.string (t107.extract 0 ((ji37) : Int).toNat)) := by rw [ha]; exact putSel_on (e := (4, 57, .string (t107.extract 0 ((ji37) : Int).toNat))) 0 rfl rfl (hon 4 (by kernel_rfl)) rfl
                        have e61 : a.tmps[61]? = some (.string (t107.extract ((ji37) : Int).toNat ((ji43) : Int).toNat)) := by rw [ha]; exact putSel_on (e := (8, 61, .string (t107.extract ((ji37) : Int).toNat ((ji43) : Int).toNat))) 1 rfl rfl (hon 8 (by kernel_rfl)) rfl
                        have e64 : a.tmps[64]? = some (.string (t107.extract ((ji43) : Int).toNat t107.size)) := by rw [ha]; exact putSel_on (e := (11, 64, .string (t107.extract ((ji43) : Int).toNat t107.size))) 2 rfl rfl (hon 11 (by kernel_rfl)) rfl
                        have e54 : a.tmps[54]? = some (.bool true) := by rw [ha]; exact (putSel_off rfl).trans rfl
                        replace ha := Aside0.mk ha
                        have BK105 := Aside0.mk Q_BK105
                        have HB := Aside0.mk Q_HB
                        refine Kd.R_lit_step Kd.string _ 9 ?hg (N := 65) ?hd (xs := ([t107.extract 0 ((ji37) : Int).toNat, t107.extract ((ji37) : Int).toNat ((ji43) : Int).toNat, (⟨#[]⟩ : ByteArray), t107.extract ((ji43) : Int).toNat t107.size] : List ByteArray)) (inner := [.string (t107.extract 0 ((ji37) : Int).toNat), .string (t107.extract ((ji37) : Int).toNat ((ji43) : Int).toNat), .string (⟨#[]⟩ : ByteArray), .string (t107.extract ((ji43) : Int).toNat t107.size)]) (ok := fun _ => True) (okp := fun _ => True) ?hr ?hp (fun _ hk => hk) trivial (Below.refl _ _) (Nat.le_refl _) (by simp) ?_; (case hd => rfl); (case hg => first | rfl | exact wanted_on rfl rfl rfl (by first | assumption | rfl | (simp [*]; done))); (case hr => first | (go_simp; done) | (go_simp; rfl)); (case hp => exact (Reps.one (show Kd.M Kd.string _ _ _ (t107.extract 0 ((ji37) : Int).toNat) [.string (t107.extract 0 ((ji37) : Int).toNat)] from rfl) (Reps.one (show Kd.M Kd.string _ _ _ (t107.extract ((ji37) : Int).toNat ((ji43) : Int).toNat) [.string (t107.extract ((ji37) : Int).toNat ((ji43) : Int).toNat)] from rfl) (Reps.one (show Kd.M Kd.string _ _ _ (⟨#[]⟩ : ByteArray) [.string (⟨#[]⟩ : ByteArray)] from rfl) (Reps.one (show Kd.M Kd.string _ _ _ (t107.extract ((ji43) : Int).toNat t107.size) [.string (t107.extract ((ji43) : Int).toNat t107.size)] from rfl) (Reps.none _ _))))))
                        intro v117 w55 ho56 hb hg_ hnew_
                        clear hg_ hnew_
                        (first | rw [← Ny116.out] at ho56 | (simp only [Int.reduceToNat] at ho56; rw [← Ny116.out] at ho56))
                        have n0_ := Aside0.mk (Kd.R_lower ho56 (below_size (by repeat (first | (with_reducible first | exact HB.out | apply below_alloc | apply pw_below_drewN | apply below_drew1 | refine below_set ?_ GE105.out) | exact HB.out))))
                        have n1_ := Aside0.mk (blk_below (g := gb105) (o := .cells #[.int .i64 a1_0, .int .i64 a1_1] 22 (0, 0)) (by (with_reducible repeat (first | refine blk_drewN ?_ _ | refine blk_drew ?_ | refine blk_alloc ?_ _)); exact BK105.out) hb)
                        have n2_ := Aside0.mk (below_step (by repeat (first | (with_reducible first | exact HB.out | apply below_alloc | apply pw_below_drewN | apply below_drew1 | refine below_set ?_ GE105.out) | exact HB.out)) hb)
                        have z_HO122 := fun (h0_ : b 15 = true) => (show Kd.R Kd.string 9 w55 w.heap.size (fun _ => True) v121 y120 from by first | exact (Kd.R_elder' (by (with_reducible repeat (first | apply Kd.R_alloc | apply Kd.R_drewN | apply Kd.R_drew)); exact (Q_HO122 h0_)) (Kd.R_base ho56) hb) | exact Kd.R_mono (Kd.R_elder' (by (with_reducible repeat (first | apply Kd.R_alloc | apply Kd.R_drewN | apply Kd.R_drew)); exact (Q_HO122 h0_)) (Kd.R_base ho56) hb) (fun _ h_ => by first | trivial | exact h_ | exact h_.1))
                        clear BK105
                        clear HB
                        have HO118 := n0_
                        have BK105 := n1_
                        have HB := n2_
                        clear n0_ n1_ n2_
                        clear hb ho56
                        refine hK.out _ _ ⟨v117, v121, v126, (by rw [ha.out]; exact putSel_upk 3 hb_ rfl rfl rfl), (by (with_reducible repeat (first | refine blk_drewN ?_ _ | refine blk_drew ?_ | refine blk_alloc ?_ _)); exact BK105.out), (by repeat (first | (with_reducible first | exact HB.out | apply below_alloc | apply pw_below_drewN | apply below_drew1 | refine below_set ?_ GE105.out) | exact HB.out)), fun _ => (by (with_reducible repeat (first | apply Kd.R_alloc | apply Kd.R_drewN | apply Kd.R_drew)); (first | exact HO118.out | exact Kd.R_mono HO118.out (fun _ _ => trivial) | exact Kd.R_mono HO118.out (fun _ hk => hk.1))), z_HO122, fun h0_ => absurd ((hoff 21 (by kernel_rfl)).symm.trans h0_) (by decide)⟩
                      refine steps_cons ?_ ?_
                      · rintro b a w' ⟨v117, v121, v126, ha, Q_BK105, Q_HB, Q_HO118, Q_HO122, Q_HO127⟩ hb_ hon hoff
                        refine ⟨_, rfl, fun K hK => ?_⟩
                        have e65 : a.tmps[65]? = some (v117) := by rw [ha]; exact putSel_on (e := (12, 65, v117)) 3 rfl rfl (hon 12 (by kernel_rfl)) rfl
                        have e54 : a.tmps[54]? = some (.bool true) := by rw [ha]; exact (putSel_off rfl).trans rfl
                        replace ha := Aside0.mk ha
                        have BK105 := Aside0.mk Q_BK105
                        have HB := Aside0.mk Q_HB
                        have HO118 := Aside0.mk (Q_HO118 (hon 12 (by kernel_rfl)))
                        obtain ⟨Ao58, co58, eo58⟩ := Kd.R_slice HO118.out
                        (first | subst eo58 | (injection eo58 with f1_ f2_ f3_; have f4_ := f1_.symm; have f5_ := f3_.symm; clear f1_ f2_ f3_; subst f4_; subst f5_))
                        refine goes_ Try.func15 (by kernel_rfl) rfl #[.slice Ao58 y116.length co58] (by first | rfl | exact wanted_on rfl rfl rfl (by first | assumption | rfl | (simp [*]; done))) rfl rfl (by first | (simp only [List.map_toArray, List.map_cons, List.map_nil, Act.eval, Array.getD_eq_getD_getElem?, Option.getD_some, e65, e54]; done) | (simp only [List.map_toArray, List.map_cons, List.map_nil, Act.eval, Array.getD_eq_getD_getElem?, Option.getD_some, e65, e54]; rfl)) ?_
                        with_reducible refine (crc_Sum.calls _ _ y116 t119 _ ?side1 ?side2 A46.out).mono ?_
                        (case side1 => repeat (first | exact (Kd.R_reads' HO118.out).2.2 | (with_reducible refine Kd.C_alloc ?_ _) | (with_reducible refine Kd.C_drewN ?_ _) | (with_reducible refine Kd.C_drew ?_)))
                        (case side2 => exact (Kd.R_reads' HO118.out).2.1)
                        rintro e w59 ⟨rfl, hb⟩
                        refine ⟨_, rfl, ?_⟩
                        have n0_ := Aside0.mk (Kd.R_below (by (with_reducible repeat (first | apply Kd.R_alloc | apply Kd.R_drewN | apply Kd.R_drew)); (first | exact HO118.out | exact Kd.R_mono HO118.out (fun _ _ => trivial) | exact Kd.R_mono HO118.out (fun _ hk => hk.1))) hb)
                        have n1_ := Aside0.mk (blk_below (g := gb105) (o := .cells #[.int .i64 a1_0, .int .i64 a1_1] 22 (0, 0)) (by (with_reducible repeat (first | refine blk_drewN ?_ _ | refine blk_drew ?_ | refine blk_alloc ?_ _)); exact BK105.out) hb)
                        have n2_ := Aside0.mk (below_step (by repeat (first | (with_reducible first | exact HB.out | apply below_alloc | apply pw_below_drewN | apply below_drew1 | refine below_set ?_ GE105.out) | exact HB.out)) hb)
                        have z_HO122 := fun (h0_ : b 15 = true) => (show Kd.R Kd.string 9 w59 w.heap.size (fun _ => True) v121 y120 from by first | exact (Kd.R_below (by (with_reducible repeat (first | apply Kd.R_alloc | apply Kd.R_drewN | apply Kd.R_drew)); exact (Q_HO122 h0_)) hb) | exact Kd.R_mono (Kd.R_below (by (with_reducible repeat (first | apply Kd.R_alloc | apply Kd.R_drewN | apply Kd.R_drew)); exact (Q_HO122 h0_)) hb) (fun _ h_ => by first | trivial | exact h_ | exact h_.1))
                        clear HO118
                        clear BK105
                        clear HB
                        have HO118 := n0_
                        have BK105 := n1_
                        have HB := n2_
                        clear n0_ n1_ n2_
                        (try clear hb)
                        (try clear hb2)
                        (try clear hk)
                        (try clear hi)
                        refine hK.out _ _ ⟨.slice Ao58 y116.length co58, v121, v126, (by rw [ha.out]; exact putSel_upk 4 hb_ rfl rfl rfl), (by (with_reducible repeat (first | refine blk_drewN ?_ _ | refine blk_drew ?_ | refine blk_alloc ?_ _)); exact BK105.out), (by repeat (first | (with_reducible first | exact HB.out | apply below_alloc | apply pw_below_drewN | apply below_drew1 | refine below_set ?_ GE105.out) | exact HB.out)), fun _ => (by (with_reducible repeat (first | apply Kd.R_alloc | apply Kd.R_drewN | apply Kd.R_drew)); (first | exact HO118.out | exact Kd.R_mono HO118.out (fun _ _ => trivial) | exact Kd.R_mono HO118.out (fun _ hk => hk.1))), z_HO122, fun h0_ => absurd ((hoff 21 (by kernel_rfl)).symm.trans h0_) (by decide)⟩
                      refine steps_cons ?_ ?_
                      · rintro b a w' ⟨v117, v121, v126, ha, Q_BK105, Q_HB, Q_HO118, Q_HO122, Q_HO127⟩ hb_ hon hoff
                        refine ⟨_, rfl, fun K hK => ?_⟩
                        have e67 : a.tmps[67]? = some (.string t107) := by rw [ha]; exact (putSel_off rfl).trans rfl
                        have e54 : a.tmps[54]? = some (.bool true) := by rw [ha]; exact (putSel_off rfl).trans rfl
                        replace ha := Aside0.mk ha
                        have BK105 := Aside0.mk Q_BK105
                        have HB := Aside0.mk Q_HB
                        refine Kd.R_lit_step Kd.string _ 9 ?hg (N := 68) ?hd (xs := ([t107] : List ByteArray)) (inner := [.string t107]) (ok := fun _ => True) (okp := fun _ => True) ?hr ?hp (fun _ hk => hk) trivial (Below.refl _ _) (Nat.le_refl _) (by simp) ?_; (case hd => rfl); (case hg => first | rfl | exact wanted_on rfl rfl rfl (by first | assumption | rfl | (simp [*]; done))); (case hr => first | (go_simp; done) | (go_simp; rfl)); (case hp => exact (Reps.one (show Kd.M Kd.string _ _ _ t107 [.string t107] from rfl) (Reps.none _ _)))
                        intro v121 w55 ho56 hb hg_ hnew_
                        clear hg_ hnew_
                        (first | rw [← Ny120.out] at ho56 | (simp only [Int.reduceToNat] at ho56; rw [← Ny120.out] at ho56))
                        have n0_ := Aside0.mk (Kd.R_lower ho56 (below_size (by repeat (first | (with_reducible first | exact HB.out | apply below_alloc | apply pw_below_drewN | apply below_drew1 | refine below_set ?_ GE105.out) | exact HB.out))))
                        have n1_ := Aside0.mk (blk_below (g := gb105) (o := .cells #[.int .i64 a1_0, .int .i64 a1_1] 22 (0, 0)) (by (with_reducible repeat (first | refine blk_drewN ?_ _ | refine blk_drew ?_ | refine blk_alloc ?_ _)); exact BK105.out) hb)
                        have n2_ := Aside0.mk (below_step (by repeat (first | (with_reducible first | exact HB.out | apply below_alloc | apply pw_below_drewN | apply below_drew1 | refine below_set ?_ GE105.out) | exact HB.out)) hb)
                        have z_HO118 := fun (h0_ : b 12 = true) => (show Kd.R Kd.string 9 w55 w.heap.size (fun _ => True) v117 y116 from by first | exact (Kd.R_elder' (by (with_reducible repeat (first | apply Kd.R_alloc | apply Kd.R_drewN | apply Kd.R_drew)); exact (Q_HO118 h0_)) (Kd.R_base ho56) hb) | exact Kd.R_mono (Kd.R_elder' (by (with_reducible repeat (first | apply Kd.R_alloc | apply Kd.R_drewN | apply Kd.R_drew)); exact (Q_HO118 h0_)) (Kd.R_base ho56) hb) (fun _ h_ => by first | trivial | exact h_ | exact h_.1))
                        clear BK105
                        clear HB
                        have HO122 := n0_
                        have BK105 := n1_
                        have HB := n2_
                        clear n0_ n1_ n2_
                        clear hb ho56
                        refine hK.out _ _ ⟨v117, v121, v126, (by rw [ha.out]; exact putSel_upk 5 hb_ rfl rfl rfl), (by (with_reducible repeat (first | refine blk_drewN ?_ _ | refine blk_drew ?_ | refine blk_alloc ?_ _)); exact BK105.out), (by repeat (first | (with_reducible first | exact HB.out | apply below_alloc | apply pw_below_drewN | apply below_drew1 | refine below_set ?_ GE105.out) | exact HB.out)), z_HO118, fun _ => (by (with_reducible repeat (first | apply Kd.R_alloc | apply Kd.R_drewN | apply Kd.R_drew)); (first | exact HO122.out | exact Kd.R_mono HO122.out (fun _ _ => trivial) | exact Kd.R_mono HO122.out (fun _ hk => hk.1))), fun h0_ => absurd ((hoff 21 (by kernel_rfl)).symm.trans h0_) (by decide)⟩
                      refine steps_cons ?_ ?_
                      · rintro b a w' ⟨v117, v121, v126, ha, Q_BK105, Q_HB, Q_HO118, Q_HO122, Q_HO127⟩ hb_ hon hoff
                        refine ⟨_, rfl, fun K hK => ?_⟩
                        have e68 : a.tmps[68]? = some (v121) := by rw [ha]; exact putSel_on (e := (15, 68, v121)) 5 rfl rfl (hon 15 (by kernel_rfl)) rfl
                        have e54 : a.tmps[54]? = some (.bool true) := by rw [ha]; exact (putSel_off rfl).trans rfl
                        replace ha := Aside0.mk ha
                        have BK105 := Aside0.mk Q_BK105
                        have HB := Aside0.mk Q_HB
                        have HO118 := Aside0.mk (Q_HO118 (hon 12 (by kernel_rfl)))
                        have HO122 := Aside0.mk (Q_HO122 (hon 15 (by kernel_rfl)))
                        obtain ⟨Ao62, co62, eo62⟩ := Kd.R_slice HO122.out
                        (first | subst eo62 | (injection eo62 with f1_ f2_ f3_; have f4_ := f1_.symm; have f5_ := f3_.symm; clear f1_ f2_ f3_; subst f4_; subst f5_))
                        refine goes_ Try.func15 (by kernel_rfl) rfl #[.slice Ao62 y120.length co62] (by first | rfl | exact wanted_on rfl rfl rfl (by first | assumption | rfl | (simp [*]; done))) rfl rfl (by first | (simp only [List.map_toArray, List.map_cons, List.map_nil, Act.eval, Array.getD_eq_getD_getElem?, Option.getD_some, e68, e54]; done) | (simp only [List.map_toArray, List.map_cons, List.map_nil, Act.eval, Array.getD_eq_getD_getElem?, Option.getD_some, e68, e54]; rfl)) ?_
                        with_reducible refine (crc_Sum.calls _ _ y120 t123 _ ?side1 ?side2 A47.out).mono ?_
                        (case side1 => repeat (first | exact (Kd.R_reads' HO122.out).2.2 | (with_reducible refine Kd.C_alloc ?_ _) | (with_reducible refine Kd.C_drewN ?_ _) | (with_reducible refine Kd.C_drew ?_)))
                        (case side2 => exact (Kd.R_reads' HO122.out).2.1)
                        rintro e w63 ⟨rfl, hb⟩
                        refine ⟨_, rfl, ?_⟩
                        have n0_ := Aside0.mk (Kd.R_below (by (with_reducible repeat (first | apply Kd.R_alloc | apply Kd.R_drewN | apply Kd.R_drew)); (first | exact HO118.out | exact Kd.R_mono HO118.out (fun _ _ => trivial) | exact Kd.R_mono HO118.out (fun _ hk => hk.1))) hb)
                        have n1_ := Aside0.mk (Kd.R_below (by (with_reducible repeat (first | apply Kd.R_alloc | apply Kd.R_drewN | apply Kd.R_drew)); (first | exact HO122.out | exact Kd.R_mono HO122.out (fun _ _ => trivial) | exact Kd.R_mono HO122.out (fun _ hk => hk.1))) hb)
                        have n2_ := Aside0.mk (blk_below (g := gb105) (o := .cells #[.int .i64 a1_0, .int .i64 a1_1] 22 (0, 0)) (by (with_reducible repeat (first | refine blk_drewN ?_ _ | refine blk_drew ?_ | refine blk_alloc ?_ _)); exact BK105.out) hb)
                        have n3_ := Aside0.mk (below_step (by repeat (first | (with_reducible first | exact HB.out | apply below_alloc | apply pw_below_drewN | apply below_drew1 | refine below_set ?_ GE105.out) | exact HB.out)) hb)
                        clear HO118
                        clear HO122
                        clear BK105
                        clear HB
                        have HO118 := n0_
                        have HO122 := n1_
                        have BK105 := n2_
                        have HB := n3_
                        clear n0_ n1_ n2_ n3_
                        (try clear hb)
                        (try clear hb2)
                        (try clear hk)
                        (try clear hi)
                        refine hK.out _ _ ⟨v117, .slice Ao62 y120.length co62, v126, (by rw [ha.out]; exact putSel_upk 6 hb_ rfl rfl rfl), (by (with_reducible repeat (first | refine blk_drewN ?_ _ | refine blk_drew ?_ | refine blk_alloc ?_ _)); exact BK105.out), (by repeat (first | (with_reducible first | exact HB.out | apply below_alloc | apply pw_below_drewN | apply below_drew1 | refine below_set ?_ GE105.out) | exact HB.out)), fun _ => (by (with_reducible repeat (first | apply Kd.R_alloc | apply Kd.R_drewN | apply Kd.R_drew)); (first | exact HO118.out | exact Kd.R_mono HO118.out (fun _ _ => trivial) | exact Kd.R_mono HO118.out (fun _ hk => hk.1))), fun _ => (by (with_reducible repeat (first | apply Kd.R_alloc | apply Kd.R_drewN | apply Kd.R_drew)); (first | exact HO122.out | exact Kd.R_mono HO122.out (fun _ _ => trivial) | exact Kd.R_mono HO122.out (fun _ hk => hk.1))), fun h0_ => absurd ((hoff 21 (by kernel_rfl)).symm.trans h0_) (by decide)⟩
                      refine steps_cons ?_ ?_
                      · rintro b a w' ⟨v117, v121, v126, ha, Q_BK105, Q_HB, Q_HO118, Q_HO122, Q_HO127⟩ hb_ hon hoff
                        refine ⟨_, rfl, fun K hK => ?_⟩
                        have e66 : a.tmps[66]? = some (.int .u32 t119) := by rw [ha]; exact putSel_on (e := (13, 66, .int .u32 t119)) 4 rfl rfl (hon 13 (by kernel_rfl)) rfl
                        have e69 : a.tmps[69]? = some (.int .u32 t123) := by rw [ha]; exact putSel_on (e := (16, 69, .int .u32 t123)) 6 rfl rfl (hon 16 (by kernel_rfl)) rfl
                        have e54 : a.tmps[54]? = some (.bool true) := by rw [ha]; exact (putSel_off rfl).trans rfl
                        replace ha := Aside0.mk ha
                        have BK105 := Aside0.mk Q_BK105
                        have HB := Aside0.mk Q_HB
                        have HO118 := Aside0.mk (Q_HO118 (hon 12 (by kernel_rfl)))
                        have HO122 := Aside0.mk (Q_HO122 (hon 15 (by kernel_rfl)))
                        refine value_ (w1 := w') (v := .bool (t119 == t123)) (wanted_on rfl rfl rfl (e54.trans (by first | rfl | (simp [*]; done)))) rfl ?_ ?_
                        · go_simp
                          (try simp only [i64_w])
                          try rfl
                        refine hK.out _ _ ⟨v117, v121, v126, (by rw [ha.out]; exact putSel_upk 7 hb_ rfl rfl rfl), Q_BK105, Q_HB, Q_HO118, Q_HO122, fun h0_ => absurd ((hoff 21 (by kernel_rfl)).symm.trans h0_) (by decide)⟩
                      refine steps_cons ?_ ?_
                      · rintro b a w' ⟨v117, v121, v126, ha, Q_BK105, Q_HB, Q_HO118, Q_HO122, Q_HO127⟩ hb_ hon hoff
                        refine ⟨_, rfl, fun K hK => ?_⟩
                        have e54 : a.tmps[54]? = some (.bool true) := by rw [ha]; exact (putSel_off rfl).trans rfl
                        have e70 : a.tmps[70]? = some (.bool (t119 == t123)) := by rw [ha]; exact putSel_on (e := (17, 70, .bool (t119 == t123))) 7 rfl rfl (hon 17 (by kernel_rfl)) rfl
                        replace ha := Aside0.mk ha
                        have BK105 := Aside0.mk Q_BK105
                        have HB := Aside0.mk Q_HB
                        have HO118 := Aside0.mk (Q_HO118 (hon 12 (by kernel_rfl)))
                        have HO122 := Aside0.mk (Q_HO122 (hon 15 (by kernel_rfl)))
                        refine value_ (w1 := w') (v := .bool (t119 == t123)) (by rfl) rfl ?_ ?_
                        · go_simp
                          (try simp only [i64_w])
                          try rfl
                        refine hK.out _ _ ⟨v117, v121, v126, (by rw [ha.out]; exact putSel_upk 8 hb_ rfl rfl rfl), Q_BK105, Q_HB, Q_HO118, Q_HO122, fun h0_ => absurd ((hoff 21 (by kernel_rfl)).symm.trans h0_) (by decide)⟩
                      refine steps_cons ?_ ?_
                      · rintro b a w' ⟨v117, v121, v126, ha, Q_BK105, Q_HB, Q_HO118, Q_HO122, Q_HO127⟩ hb_ hon hoff
                        refine ⟨_, rfl, fun K hK => ?_⟩
                        have e71 : a.tmps[71]? = some (.bool (t119 == t123)) := by rw [ha]; exact putSel_on (e := (18, 71, .bool (t119 == t123))) 8 rfl rfl (hon 18 (by kernel_rfl)) rfl
                        replace ha := Aside0.mk ha
                        have BK105 := Aside0.mk Q_BK105
                        have HB := Aside0.mk Q_HB
                        have HO118 := Aside0.mk (Q_HO118 (hon 12 (by kernel_rfl)))
                        have HO122 := Aside0.mk (Q_HO122 (hon 15 (by kernel_rfl)))
                        refine value_ (w1 := w') (v := .bool (t119 == t123)) (by rfl) rfl ?_ ?_
                        · go_simp
                          (try simp only [i64_w])
                          try rfl
                        refine hK.out _ _ ⟨v117, v121, v126, (by rw [ha.out]; exact putSel_upk 9 hb_ rfl rfl rfl), Q_BK105, Q_HB, Q_HO118, Q_HO122, fun h0_ => absurd ((hoff 21 (by kernel_rfl)).symm.trans h0_) (by decide)⟩
                      refine steps_cons ?_ ?_
                      · rintro b a w' ⟨v117, v121, v126, ha, Q_BK105, Q_HB, Q_HO118, Q_HO122, Q_HO127⟩ hb_ hon hoff
                        refine ⟨_, rfl, fun K hK => ?_⟩
                        have e72 : a.tmps[72]? = some (.bool (t119 == t123)) := by rw [ha]; exact putSel_on (e := (19, 72, .bool (t119 == t123))) 9 rfl rfl (hon 19 (by kernel_rfl)) rfl
                        replace ha := Aside0.mk ha
                        have BK105 := Aside0.mk Q_BK105
                        have HB := Aside0.mk Q_HB
                        have HO118 := Aside0.mk (Q_HO118 (hon 12 (by kernel_rfl)))
                        have HO122 := Aside0.mk (Q_HO122 (hon 15 (by kernel_rfl)))
                        refine goes_ Try.func15 (by kernel_rfl) rfl #[.slice none 0 0] (by first | rfl | exact wanted_on rfl rfl rfl (by first | assumption | rfl | (simp [*]; done))) rfl rfl (by first | (simp only [List.map_toArray, List.map_cons, List.map_nil, Act.eval, Array.getD_eq_getD_getElem?, Option.getD_some, e72]; done) | (simp only [List.map_toArray, List.map_cons, List.map_nil, Act.eval, Array.getD_eq_getD_getElem?, Option.getD_some, e72]; rfl)) ?_
                        refine (crc_Sum.calls _ _ ([] : List ByteArray) t124 _ ?side1 ?side2 A49.out).mono ?_
                        (case side1 => exact Kd.C_nil _ _)
                        (case side2 => exact Nat.le_refl _)
                        rintro e w64 ⟨rfl, hb⟩
                        refine ⟨_, rfl, ?_⟩
                        have n0_ := Aside0.mk (Kd.R_below (by (with_reducible repeat (first | apply Kd.R_alloc | apply Kd.R_drewN | apply Kd.R_drew)); (first | exact HO118.out | exact Kd.R_mono HO118.out (fun _ _ => trivial) | exact Kd.R_mono HO118.out (fun _ hk => hk.1))) hb)
                        have n1_ := Aside0.mk (Kd.R_below (by (with_reducible repeat (first | apply Kd.R_alloc | apply Kd.R_drewN | apply Kd.R_drew)); (first | exact HO122.out | exact Kd.R_mono HO122.out (fun _ _ => trivial) | exact Kd.R_mono HO122.out (fun _ hk => hk.1))) hb)
                        have n2_ := Aside0.mk (blk_below (g := gb105) (o := .cells #[.int .i64 a1_0, .int .i64 a1_1] 22 (0, 0)) (by (with_reducible repeat (first | refine blk_drewN ?_ _ | refine blk_drew ?_ | refine blk_alloc ?_ _)); exact BK105.out) hb)
                        have n3_ := Aside0.mk (below_step (by repeat (first | (with_reducible first | exact HB.out | apply below_alloc | apply pw_below_drewN | apply below_drew1 | refine below_set ?_ GE105.out) | exact HB.out)) hb)
                        have z_HO127 := fun (h0_ : b 21 = true) => (show Kd.R Kd.string 9 w64 w.heap.size (fun _ => True) v126 y125 from by first | exact (Kd.R_below (by (with_reducible repeat (first | apply Kd.R_alloc | apply Kd.R_drewN | apply Kd.R_drew)); exact (Q_HO127 h0_)) hb) | exact Kd.R_mono (Kd.R_below (by (with_reducible repeat (first | apply Kd.R_alloc | apply Kd.R_drewN | apply Kd.R_drew)); exact (Q_HO127 h0_)) hb) (fun _ h_ => by first | trivial | exact h_ | exact h_.1))
                        clear HO118
                        clear HO122
                        clear BK105
                        clear HB
                        have HO118 := n0_
                        have HO122 := n1_
                        have BK105 := n2_
                        have HB := n3_
                        clear n0_ n1_ n2_ n3_
                        (try clear hb)
                        (try clear hb2)
                        (try clear hk)
                        (try clear hi)
                        refine hK.out _ _ ⟨v117, v121, v126, (by rw [ha.out]; exact putSel_upk 10 hb_ rfl rfl rfl), (by (with_reducible repeat (first | refine blk_drewN ?_ _ | refine blk_drew ?_ | refine blk_alloc ?_ _)); exact BK105.out), (by repeat (first | (with_reducible first | exact HB.out | apply below_alloc | apply pw_below_drewN | apply below_drew1 | refine below_set ?_ GE105.out) | exact HB.out)), fun _ => (by (with_reducible repeat (first | apply Kd.R_alloc | apply Kd.R_drewN | apply Kd.R_drew)); (first | exact HO118.out | exact Kd.R_mono HO118.out (fun _ _ => trivial) | exact Kd.R_mono HO118.out (fun _ hk => hk.1))), fun _ => (by (with_reducible repeat (first | apply Kd.R_alloc | apply Kd.R_drewN | apply Kd.R_drew)); (first | exact HO122.out | exact Kd.R_mono HO122.out (fun _ _ => trivial) | exact Kd.R_mono HO122.out (fun _ hk => hk.1))), z_HO127⟩
                      refine steps_cons ?_ ?_
                      · rintro b a w' ⟨v117, v121, v126, ha, Q_BK105, Q_HB, Q_HO118, Q_HO122, Q_HO127⟩ hb_ hon hoff
                        refine ⟨_, rfl, fun K hK => ?_⟩
                        have e72 : a.tmps[72]? = some (.bool (t119 == t123)) := by rw [ha]; exact putSel_on (e := (19, 72, .bool (t119 == t123))) 9 rfl rfl (hon 19 (by kernel_rfl)) rfl
                        replace ha := Aside0.mk ha
                        have BK105 := Aside0.mk Q_BK105
                        have HB := Aside0.mk Q_HB
                        have HO118 := Aside0.mk (Q_HO118 (hon 12 (by kernel_rfl)))
                        have HO122 := Aside0.mk (Q_HO122 (hon 15 (by kernel_rfl)))
                        refine Kd.R_lit_step Kd.string _ 9 ?hg (N := 74) ?hd (xs := ([(⟨#[]⟩ : ByteArray)] : List ByteArray)) (inner := [.string (⟨#[]⟩ : ByteArray)]) (ok := fun _ => True) (okp := fun _ => True) ?hr ?hp (fun _ hk => hk) trivial (Below.refl _ _) (Nat.le_refl _) (by simp) ?_; (case hd => rfl); (case hg => first | rfl | exact wanted_on rfl rfl rfl (by first | assumption | rfl | (simp [*]; done))); (case hr => first | (go_simp; done) | (go_simp; rfl)); (case hp => exact (Reps.one (show Kd.M Kd.string _ _ _ (⟨#[]⟩ : ByteArray) [.string (⟨#[]⟩ : ByteArray)] from rfl) (Reps.none _ _)))
                        intro v126 w64 ho65 hb hg_ hnew_
                        clear hg_ hnew_
                        (first | rw [← Ny125.out] at ho65 | (simp only [Int.reduceToNat] at ho65; rw [← Ny125.out] at ho65))
                        have n0_ := Aside0.mk (Kd.R_elder' (by (with_reducible repeat (first | apply Kd.R_alloc | apply Kd.R_drewN | apply Kd.R_drew)); (first | exact HO118.out | exact Kd.R_mono HO118.out (fun _ _ => trivial) | exact Kd.R_mono HO118.out (fun _ hk => hk.1))) (Kd.R_base ho65) hb)
                        have n1_ := Aside0.mk (Kd.R_elder' (by (with_reducible repeat (first | apply Kd.R_alloc | apply Kd.R_drewN | apply Kd.R_drew)); (first | exact HO122.out | exact Kd.R_mono HO122.out (fun _ _ => trivial) | exact Kd.R_mono HO122.out (fun _ hk => hk.1))) (Kd.R_base ho65) hb)
                        have n2_ := Aside0.mk (Kd.R_lower (Kd.R_new' (Kd.R_new' ho65 (Kd.R_lt (by (with_reducible repeat (first | apply Kd.R_alloc | apply Kd.R_drewN | apply Kd.R_drew)); (first | exact HO118.out | exact Kd.R_mono HO118.out (fun _ _ => trivial) | exact Kd.R_mono HO118.out (fun _ hk => hk.1))))) (Kd.R_lt (by (with_reducible repeat (first | apply Kd.R_alloc | apply Kd.R_drewN | apply Kd.R_drew)); (first | exact HO122.out | exact Kd.R_mono HO122.out (fun _ _ => trivial) | exact Kd.R_mono HO122.out (fun _ hk => hk.1))))) (below_size (by repeat (first | (with_reducible first | exact HB.out | apply below_alloc | apply pw_below_drewN | apply below_drew1 | refine below_set ?_ GE105.out) | exact HB.out))))
                        have n3_ := Aside0.mk (blk_below (g := gb105) (o := .cells #[.int .i64 a1_0, .int .i64 a1_1] 22 (0, 0)) (by (with_reducible repeat (first | refine blk_drewN ?_ _ | refine blk_drew ?_ | refine blk_alloc ?_ _)); exact BK105.out) hb)
                        have n4_ := Aside0.mk (below_step (by repeat (first | (with_reducible first | exact HB.out | apply below_alloc | apply pw_below_drewN | apply below_drew1 | refine below_set ?_ GE105.out) | exact HB.out)) hb)
                        clear HO118
                        clear HO122
                        clear BK105
                        clear HB
                        have HO118 := n0_
                        have HO122 := n1_
                        have HO127 := n2_
                        have BK105 := n3_
                        have HB := n4_
                        clear n0_ n1_ n2_ n3_ n4_
                        clear hb ho65
                        refine hK.out _ _ ⟨v117, v121, v126, (by rw [ha.out]; exact putSel_upk 11 hb_ rfl rfl rfl), (by (with_reducible repeat (first | refine blk_drewN ?_ _ | refine blk_drew ?_ | refine blk_alloc ?_ _)); exact BK105.out), (by repeat (first | (with_reducible first | exact HB.out | apply below_alloc | apply pw_below_drewN | apply below_drew1 | refine below_set ?_ GE105.out) | exact HB.out)), fun _ => (by (with_reducible repeat (first | apply Kd.R_alloc | apply Kd.R_drewN | apply Kd.R_drew)); (first | exact HO118.out | exact Kd.R_mono HO118.out (fun _ _ => trivial) | exact Kd.R_mono HO118.out (fun _ hk => hk.1))), fun _ => (by (with_reducible repeat (first | apply Kd.R_alloc | apply Kd.R_drewN | apply Kd.R_drew)); (first | exact HO122.out | exact Kd.R_mono HO122.out (fun _ _ => trivial) | exact Kd.R_mono HO122.out (fun _ hk => hk.1))), fun _ => (by (with_reducible repeat (first | apply Kd.R_alloc | apply Kd.R_drewN | apply Kd.R_drew)); (first | exact Kd.R_mono HO127.out (fun _ hk => ⟨hk.1.2, hk.2⟩) | exact Kd.R_mono HO127.out (fun _ _ => trivial)))⟩
                      refine steps_cons ?_ ?_
                      · rintro b a w' ⟨v117, v121, v126, ha, Q_BK105, Q_HB, Q_HO118, Q_HO122, Q_HO127⟩ hb_ hon hoff
                        refine ⟨_, rfl, fun K hK => ?_⟩
                        have e74 : a.tmps[74]? = some (v126) := by rw [ha]; exact putSel_on (e := (21, 74, v126)) 11 rfl rfl (hon 21 (by kernel_rfl)) rfl
                        have e72 : a.tmps[72]? = some (.bool (t119 == t123)) := by rw [ha]; exact putSel_on (e := (19, 72, .bool (t119 == t123))) 9 rfl rfl (hon 19 (by kernel_rfl)) rfl
                        replace ha := Aside0.mk ha
                        have BK105 := Aside0.mk Q_BK105
                        have HB := Aside0.mk Q_HB
                        have HO118 := Aside0.mk (Q_HO118 (hon 12 (by kernel_rfl)))
                        have HO122 := Aside0.mk (Q_HO122 (hon 15 (by kernel_rfl)))
                        have HO127 := Aside0.mk (Q_HO127 (hon 21 (by kernel_rfl)))
                        obtain ⟨Ao67, co67, eo67⟩ := Kd.R_slice HO127.out
                        (first | subst eo67 | (injection eo67 with f1_ f2_ f3_; have f4_ := f1_.symm; have f5_ := f3_.symm; clear f1_ f2_ f3_; subst f4_; subst f5_))
                        refine goes_ Try.func15 (by kernel_rfl) rfl #[.slice Ao67 y125.length co67] (by first | rfl | exact wanted_on rfl rfl rfl (by first | assumption | rfl | (simp [*]; done))) rfl rfl (by first | (simp only [List.map_toArray, List.map_cons, List.map_nil, Act.eval, Array.getD_eq_getD_getElem?, Option.getD_some, e74, e72]; done) | (simp only [List.map_toArray, List.map_cons, List.map_nil, Act.eval, Array.getD_eq_getD_getElem?, Option.getD_some, e74, e72]; rfl)) ?_
                        with_reducible refine (crc_Sum.calls _ _ y125 t128 _ ?side1 ?side2 A50.out).mono ?_
                        (case side1 => repeat (first | exact (Kd.R_reads' HO127.out).2.2 | (with_reducible refine Kd.C_alloc ?_ _) | (with_reducible refine Kd.C_drewN ?_ _) | (with_reducible refine Kd.C_drew ?_)))
                        (case side2 => exact (Kd.R_reads' HO127.out).2.1)
                        rintro e w68 ⟨rfl, hb⟩
                        refine ⟨_, rfl, ?_⟩
                        have n0_ := Aside0.mk (Kd.R_below (by (with_reducible repeat (first | apply Kd.R_alloc | apply Kd.R_drewN | apply Kd.R_drew)); (first | exact HO118.out | exact Kd.R_mono HO118.out (fun _ _ => trivial) | exact Kd.R_mono HO118.out (fun _ hk => hk.1))) hb)
                        have n1_ := Aside0.mk (Kd.R_below (by (with_reducible repeat (first | apply Kd.R_alloc | apply Kd.R_drewN | apply Kd.R_drew)); (first | exact HO122.out | exact Kd.R_mono HO122.out (fun _ _ => trivial) | exact Kd.R_mono HO122.out (fun _ hk => hk.1))) hb)
                        have n2_ := Aside0.mk (Kd.R_below (by (with_reducible repeat (first | apply Kd.R_alloc | apply Kd.R_drewN | apply Kd.R_drew)); (first | exact HO127.out | exact Kd.R_mono HO127.out (fun _ _ => trivial) | exact Kd.R_mono HO127.out (fun _ hk => hk.1))) hb)
                        have n3_ := Aside0.mk (blk_below (g := gb105) (o := .cells #[.int .i64 a1_0, .int .i64 a1_1] 22 (0, 0)) (by (with_reducible repeat (first | refine blk_drewN ?_ _ | refine blk_drew ?_ | refine blk_alloc ?_ _)); exact BK105.out) hb)
                        have n4_ := Aside0.mk (below_step (by repeat (first | (with_reducible first | exact HB.out | apply below_alloc | apply pw_below_drewN | apply below_drew1 | refine below_set ?_ GE105.out) | exact HB.out)) hb)
                        clear HO118
                        clear HO122
                        clear HO127
                        clear BK105
                        clear HB
                        have HO118 := n0_
                        have HO122 := n1_
                        have HO127 := n2_
                        have BK105 := n3_
                        have HB := n4_
                        clear n0_ n1_ n2_ n3_ n4_
                        (try clear hb)
                        (try clear hb2)
                        (try clear hk)
                        (try clear hi)
                        refine hK.out _ _ ⟨v117, v121, .slice Ao67 y125.length co67, (by rw [ha.out]; exact putSel_upk 12 hb_ rfl rfl rfl), (by (with_reducible repeat (first | refine blk_drewN ?_ _ | refine blk_drew ?_ | refine blk_alloc ?_ _)); exact BK105.out), (by repeat (first | (with_reducible first | exact HB.out | apply below_alloc | apply pw_below_drewN | apply below_drew1 | refine below_set ?_ GE105.out) | exact HB.out)), fun _ => (by (with_reducible repeat (first | apply Kd.R_alloc | apply Kd.R_drewN | apply Kd.R_drew)); (first | exact HO118.out | exact Kd.R_mono HO118.out (fun _ _ => trivial) | exact Kd.R_mono HO118.out (fun _ hk => hk.1))), fun _ => (by (with_reducible repeat (first | apply Kd.R_alloc | apply Kd.R_drewN | apply Kd.R_drew)); (first | exact HO122.out | exact Kd.R_mono HO122.out (fun _ _ => trivial) | exact Kd.R_mono HO122.out (fun _ hk => hk.1))), fun _ => (by (with_reducible repeat (first | apply Kd.R_alloc | apply Kd.R_drewN | apply Kd.R_drew)); (first | exact HO127.out | exact Kd.R_mono HO127.out (fun _ _ => trivial) | exact Kd.R_mono HO127.out (fun _ hk => hk.1)))⟩
                      refine steps_cons ?_ ?_
                      · rintro b a w' ⟨v117, v121, v126, ha, Q_BK105, Q_HB, Q_HO118, Q_HO122, Q_HO127⟩ hb_ hon hoff
                        refine ⟨_, rfl, fun K hK => ?_⟩
                        have e73 : a.tmps[73]? = some (.int .u32 t124) := by rw [ha]; exact putSel_on (e := (20, 73, .int .u32 t124)) 10 rfl rfl (hon 20 (by kernel_rfl)) rfl
                        have e75 : a.tmps[75]? = some (.int .u32 t128) := by rw [ha]; exact putSel_on (e := (22, 75, .int .u32 t128)) 12 rfl rfl (hon 22 (by kernel_rfl)) rfl
                        have e72 : a.tmps[72]? = some (.bool (t119 == t123)) := by rw [ha]; exact putSel_on (e := (19, 72, .bool (t119 == t123))) 9 rfl rfl (hon 19 (by kernel_rfl)) rfl
                        replace ha := Aside0.mk ha
                        have BK105 := Aside0.mk Q_BK105
                        have HB := Aside0.mk Q_HB
                        have HO118 := Aside0.mk (Q_HO118 (hon 12 (by kernel_rfl)))
                        have HO122 := Aside0.mk (Q_HO122 (hon 15 (by kernel_rfl)))
                        have HO127 := Aside0.mk (Q_HO127 (hon 21 (by kernel_rfl)))
                        refine value_ (w1 := w') (v := .bool (t124 == t128)) (wanted_on rfl rfl rfl (e72.trans (by first | rfl | (simp [*]; done)))) rfl ?_ ?_
                        · go_simp
                          (try simp only [i64_w])
                          try rfl
                        refine hK.out _ _ ⟨v117, v121, v126, (by rw [ha.out]; exact putSel_upk 13 hb_ rfl rfl rfl), Q_BK105, Q_HB, Q_HO118, Q_HO122, Q_HO127⟩
                      refine steps_cons ?_ ?_
                      · rintro b a w' ⟨v117, v121, v126, ha, Q_BK105, Q_HB, Q_HO118, Q_HO122, Q_HO127⟩ hb_ hon hoff
                        refine ⟨_, rfl, fun K hK => ?_⟩
                        have e72 : a.tmps[72]? = some (.bool (t119 == t123)) := by rw [ha]; exact putSel_on (e := (19, 72, .bool (t119 == t123))) 9 rfl rfl (hon 19 (by kernel_rfl)) rfl
                        have e76 : a.tmps[76]? = some (.bool (t124 == t128)) := by rw [ha]; exact putSel_on (e := (23, 76, .bool (t124 == t128))) 13 rfl rfl (hon 23 (by kernel_rfl)) rfl
                        replace ha := Aside0.mk ha
                        have BK105 := Aside0.mk Q_BK105
                        have HB := Aside0.mk Q_HB
                        have HO118 := Aside0.mk (Q_HO118 (hon 12 (by kernel_rfl)))
                        have HO122 := Aside0.mk (Q_HO122 (hon 15 (by kernel_rfl)))
                        have HO127 := Aside0.mk (Q_HO127 (hon 21 (by kernel_rfl)))
                        refine value_ (w1 := w') (v := .bool (t124 == t128)) (by rfl) rfl ?_ ?_
                        · go_simp
                          (try simp only [i64_w])
                          try rfl
                        refine hK.out _ _ ⟨v117, v121, v126, (by rw [ha.out]; exact putSel_upk 14 hb_ rfl rfl rfl), Q_BK105, Q_HB, Q_HO118, Q_HO122, Q_HO127⟩
                      refine steps_cons ?_ ?_
                      · rintro b a w' ⟨v117, v121, v126, ha, Q_BK105, Q_HB, Q_HO118, Q_HO122, Q_HO127⟩ hb_ hon hoff
                        refine ⟨_, rfl, fun K hK => ?_⟩
                        have e77 : a.tmps[77]? = some (.bool (t124 == t128)) := by rw [ha]; exact putSel_on (e := (24, 77, .bool (t124 == t128))) 14 rfl rfl (hon 24 (by kernel_rfl)) rfl
                        replace ha := Aside0.mk ha
                        have BK105 := Aside0.mk Q_BK105
                        have HB := Aside0.mk Q_HB
                        have HO118 := Aside0.mk (Q_HO118 (hon 12 (by kernel_rfl)))
                        have HO122 := Aside0.mk (Q_HO122 (hon 15 (by kernel_rfl)))
                        have HO127 := Aside0.mk (Q_HO127 (hon 21 (by kernel_rfl)))
                        refine value_ (w1 := w') (v := .bool (t124 == t128)) (by rfl) rfl ?_ ?_
                        · go_simp
                          (try simp only [i64_w])
                          try rfl
                        refine hK.out _ _ ⟨v117, v121, v126, (by rw [ha.out]; exact putSel_upk 15 hb_ rfl rfl rfl), Q_BK105, Q_HB, Q_HO118, Q_HO122, Q_HO127⟩
                      exact steps_nil
                    rintro b a w68 hall ⟨v117, v121, v126, ha, Q_BK105, Q_HB, Q_HO118, Q_HO122, Q_HO127⟩
                    clear BK105 HB
                    have hb4_ := hall 4 (by kernel_rfl)
                    have hb8_ := hall 8 (by kernel_rfl)
                    have hb11_ := hall 11 (by kernel_rfl)
                    have hb12_ := hall 12 (by kernel_rfl)
                    have hb13_ := hall 13 (by kernel_rfl)
                    have hb15_ := hall 15 (by kernel_rfl)
                    have hb16_ := hall 16 (by kernel_rfl)
                    have hb17_ := hall 17 (by kernel_rfl)
                    have hb18_ := hall 18 (by kernel_rfl)
                    have hb19_ := hall 19 (by kernel_rfl)
                    have hb20_ := hall 20 (by kernel_rfl)
                    have hb21_ := hall 21 (by kernel_rfl)
                    have hb22_ := hall 22 (by kernel_rfl)
                    have hb23_ := hall 23 (by kernel_rfl)
                    have hb24_ := hall 24 (by kernel_rfl)
                    have hb25_ := hall 25 (by kernel_rfl)
                    subst ha
                    simp only [putSel, hb4_, hb8_, hb11_, hb12_, hb13_, hb15_, hb16_, hb17_, hb18_, hb19_, hb20_, hb21_, hb22_, hb23_, hb24_, hb25_, if_true, Act.put, List.setIfInBounds_toArray, List.set_cons_zero, List.set_cons_succ]
                    have BK105 := Aside0.mk Q_BK105
                    clear Q_BK105
                    have HB := Aside0.mk Q_HB
                    clear Q_HB
                    have HO118 := Aside0.mk (Q_HO118 hb12_)
                    clear Q_HO118
                    have HO122 := Aside0.mk (Q_HO122 hb15_)
                    clear Q_HO122
                    have HO127 := Aside0.mk (Q_HO127 hb21_)
                    clear Q_HO127
                    clear hall hb4_ hb8_ hb11_ hb12_ hb13_ hb15_ hb16_ hb17_ hb18_ hb19_ hb20_ hb21_ hb22_ hb23_ hb24_ hb25_
                    try go_wp2
                    go_ret
                    exact ⟨by first | rfl | (simp [errW_none, errW_some] <;> rfl) | (simp only [← hji37, ← hji43]; first | rfl | (simp [errW_none, errW_some] <;> rfl)) | (simp [*, errW_none, errW_some] <;> rfl), by repeat (first | (with_reducible first | exact HB.out | apply below_alloc | apply pw_below_drewN | apply below_drew1 | refine below_set ?_ GE105.out) | exact HB.out)⟩
                  · rw [if_neg c48] at H
                    have c48b0 : (t119 == t123) = false := beq_eq_false_iff_ne.mpr c48
                    have c48b1 : (t119 != t123) = true := bne_iff_ne.mpr c48
                    obtain rfl := Option.some.inj H
                    go_enter Try.func3, Try.ntmps3
                    try go_wp2_with (first | ((with_reducible refine gate_dst (N := 3) rfl ?_); (try (refine gate_guard (by rfl) ?_; dsimp only)); refine box_event ?hg (N := 3) ?hd (cs := #[.int .i64 a1_0, .int .i64 a1_1]) (t := 22) ?hr ?_; (case hd => rfl); (case hg => first | rfl | exact wanted_on rfl rfl rfl (by first | assumption | rfl | (simp [*]; done))); (case hr => first | (go_simp; done) | (go_simp; rfl)); intro gb105 hg w69 hbox hb; have n0_ := Aside0.mk (below_step (by repeat (first | (with_reducible first | exact HB.out | apply below_alloc | apply pw_below_drewN | apply below_drew1) | exact HB.out)) hb); have n1_ := Aside0.mk (hbox); have n2_ := Aside0.mk ((by rw [hg]; exact (below_size (by repeat (first | (with_reducible first | exact HB.out | apply below_alloc | apply pw_below_drewN | apply below_drew1) | exact HB.out))) : w.heap.size ≤ gb105)); have n3_ := Aside0.mk ((by rw [hg]; exact (below_size (by repeat (first | (with_reducible first | exact HB.out | apply below_alloc | apply pw_below_drewN | apply below_drew1) | exact HB.out))) : w.heap.size ≤ gb105)); clear HB; have HB := n0_; have BK105 := n1_; have GW105 := n2_; have GE105 := n3_; clear n0_ n1_ n2_ n3_; clear hb hbox hg) | ((with_reducible refine gate_callee (f := 13) rfl ?_); refine goesL_ (some 9) rfl rfl Try.func13 (by kernel_rfl) rfl #[] rfl (by (try simp only [List.map_toArray, List.map_cons, List.map_nil]); first | done | rfl | (simp only [List.length_drop, List.length_take]; rfl)) ?_; (with_reducible refine (earshotlaw05_awake.calls  true _ A3.out).mono ?_); rintro e w70 ⟨rfl, hb⟩; refine ⟨_, rfl, ?_⟩; have n0_ := Aside0.mk (blk_below (g := gb105) (o := .cells #[.int .i64 a1_0, .int .i64 a1_1] 22 (0, 0)) (by (with_reducible repeat (first | refine blk_drewN ?_ _ | refine blk_drew ?_ | refine blk_alloc ?_ _)); exact BK105.out) hb); have n1_ := Aside0.mk (below_step (by repeat (first | (with_reducible first | exact HB.out | apply below_alloc | apply pw_below_drewN | apply below_drew1 | refine below_set ?_ GE105.out) | exact HB.out)) hb); clear BK105; clear HB; have BK105 := n0_; have HB := n1_; clear n0_ n1_; (try clear hb); (try clear hb2); (try clear hk); (try clear hi)) | ((with_reducible refine gate_callee (f := 14) rfl ?_); refine goesL_ (some 11) rfl rfl Try.func14 (by kernel_rfl) rfl #[.string a0] rfl (by (try simp only [List.map_toArray, List.map_cons, List.map_nil]); first | done | rfl | (simp only [List.length_drop, List.length_take]; rfl)) ?_; (with_reducible refine (earshotlaw05_short.calls a0 t107 _ A4.out).mono ?_); rintro e w' ⟨rfl, ⟨nd, rfl⟩⟩; refine ⟨_, rfl, ?_⟩; have hcz71_0 : w70.cell? ⟨gb105, 0, none⟩ = some (.int .i64 a1_0) := (blk_cell BK105.out 0).trans rfl; have hcz71_1 : w70.cell? ⟨gb105, 1, none⟩ = some (.int .i64 a1_1) := (blk_cell BK105.out 1).trans rfl; have hfz71_0 := blk_frozen BK105.out 0; have hfz71_1 := blk_frozen BK105.out 1))
                    (try (rw [drewN_self w70]; generalize hq_ : World.drewN w70 _ = w70; have n0_ : Aside0 (w70.heap[gb105]? = some (.cells #[.int .i64 a1_0, .int .i64 a1_1] 22 (0, 0))) := ⟨by rw [← hq_]; exact (by (with_reducible repeat (first | refine blk_drewN ?_ _ | refine blk_drew ?_ | refine blk_alloc ?_ _)); exact BK105.out)⟩; have n1_ : Aside0 (Below w.heap.size w w70) := ⟨by rw [← hq_]; exact (by repeat (first | (with_reducible first | exact HB.out | apply below_alloc | apply pw_below_drewN | apply below_drew1 | refine below_set ?_ GE105.out) | exact HB.out))⟩; clear BK105 HB hq_; have BK105 := n0_; have HB := n1_; clear n0_ n1_))
                    have n0_ := Aside0.mk (blk_drew BK105.out)
                    have n1_ := Aside0.mk (below_drew1 HB.out)
                    clear BK105
                    clear HB
                    have BK105 := n0_
                    have HB := n1_
                    clear n0_ n1_
                    refine start_ (n := 26) (S := fun w' => True) (ds := []) #[false, false, false, false, false, false, false, false, false, false, false, false, false, false, false, false, false, false, false, false, false, false, false, false, false, false] (by kernel_rfl) rfl rfl trivial (fun hHeld => ?_); refine with_tabW earshotlaw05_CrcParts.tab8 earshotlaw05_CrcParts.bits8 (fun HT_ HW_ => ?_)
                    generalize w70.drew = w72 at BK105 HB hHeld ⊢
                    refine pure_ (i := 0) (N := some 53) (v := ?_) (a' := ?_) #[true, false, false, false, false, false, false, false, false, false, false, false, false, false, false, false, false, false, false, false, false, false, false, false, false, false] rfl rfl (any_of HT_.out (by kernel_rfl)) (fun _ _ _ h => h) (Or.inl ⟨by rfl, ?_⟩) ?_ ?_
                    rotate_left
                    · intro w'
                      go_simp
                      with_reducible rfl
                    rotate_left
                    · simp only [Act.put, List.setIfInBounds_toArray, List.set_cons_zero, List.set_cons_succ, i64_w, i32_w]
                      rfl
                    refine pure_ (i := 1) (N := some 54) (v := ?_) (a' := ?_) #[true, true, false, false, false, false, false, false, false, false, false, false, false, false, false, false, false, false, false, false, false, false, false, false, false, false] rfl rfl (any_of HT_.out (by kernel_rfl)) (fun _ _ _ h => h) (Or.inl ⟨by rfl, ?_⟩) ?_ ?_
                    rotate_left
                    · intro w'
                      go_simp
                      with_reducible rfl
                    rotate_left
                    · simp only [Act.put, List.setIfInBounds_toArray, List.set_cons_zero, List.set_cons_succ, i64_w, i32_w]
                      rfl
                    refine pure_ (i := 2) (N := some 55) (v := ?_) (a' := ?_) #[true, true, true, false, false, false, false, false, false, false, false, false, false, false, false, false, false, false, false, false, false, false, false, false, false, false] rfl rfl (any_of HT_.out (by kernel_rfl)) (fun _ _ _ h => h) (Or.inl ⟨by rfl, ?_⟩) ?_ ?_
                    rotate_left
                    · intro w'
                      go_simp
                      with_reducible rfl
                    rotate_left
                    · simp only [Act.put, List.setIfInBounds_toArray, List.set_cons_zero, List.set_cons_succ, i64_w, i32_w]
                      rfl
                    refine pure_ (i := 3) (N := some 56) (v := ?_) (a' := ?_) #[true, true, true, true, false, false, false, false, false, false, false, false, false, false, false, false, false, false, false, false, false, false, false, false, false, false] rfl rfl (any_of HT_.out (by kernel_rfl)) (fun _ _ _ h => h) (Or.inl ⟨by rfl, ?_⟩) ?_ ?_
                    rotate_left
                    · intro w'
                      go_simp
                      with_reducible rfl
                    rotate_left
                    · simp only [Act.put, List.setIfInBounds_toArray, List.set_cons_zero, List.set_cons_succ, i64_w, i32_w]
                      rfl
                    refine pure_ (i := 5) (N := some 58) (v := ?_) (a' := ?_) #[true, true, true, true, false, true, false, false, false, false, false, false, false, false, false, false, false, false, false, false, false, false, false, false, false, false] rfl rfl (any_of HT_.out (by kernel_rfl)) (fun _ _ _ h => h) (Or.inl ⟨by rfl, ?_⟩) ?_ ?_
                    rotate_left
                    · intro w'
                      go_simp
                      with_reducible rfl
                    rotate_left
                    · simp only [Act.put, List.setIfInBounds_toArray, List.set_cons_zero, List.set_cons_succ, i64_w, i32_w]
                      rfl
                    refine pure_ (i := 6) (N := some 59) (v := ?_) (a' := ?_) #[true, true, true, true, false, true, true, false, false, false, false, false, false, false, false, false, false, false, false, false, false, false, false, false, false, false] rfl rfl (any_of HT_.out (by kernel_rfl)) (fun _ _ _ h => h) (Or.inl ⟨by rfl, ?_⟩) ?_ ?_
                    rotate_left
                    · intro w'
                      go_simp
                      with_reducible rfl
                    rotate_left
                    · simp only [Act.put, List.setIfInBounds_toArray, List.set_cons_zero, List.set_cons_succ, i64_w, i32_w]
                      rfl
                    refine pure_ (i := 7) (N := some 60) (v := ?_) (a' := ?_) #[true, true, true, true, false, true, true, true, false, false, false, false, false, false, false, false, false, false, false, false, false, false, false, false, false, false] rfl rfl (any_of HT_.out (by kernel_rfl)) (fun _ _ _ h => h) (Or.inl ⟨by rfl, ?_⟩) ?_ ?_
                    rotate_left
                    · intro w'
                      go_simp
                      with_reducible rfl
                    rotate_left
                    · simp only [Act.put, List.setIfInBounds_toArray, List.set_cons_zero, List.set_cons_succ, i64_w, i32_w]
                      rfl
                    refine pure_ (i := 9) (N := some 62) (v := ?_) (a' := ?_) #[true, true, true, true, false, true, true, true, false, true, false, false, false, false, false, false, false, false, false, false, false, false, false, false, false, false] rfl rfl (any_of HT_.out (by kernel_rfl)) (fun _ _ _ h => h) (Or.inl ⟨by rfl, ?_⟩) ?_ ?_
                    rotate_left
                    · intro w'
                      go_simp
                      with_reducible rfl
                    rotate_left
                    · simp only [Act.put, List.setIfInBounds_toArray, List.set_cons_zero, List.set_cons_succ, i64_w, i32_w]
                      rfl
                    refine pure_ (i := 10) (N := some 63) (v := ?_) (a' := ?_) #[true, true, true, true, false, true, true, true, false, true, true, false, false, false, false, false, false, false, false, false, false, false, false, false, false, false] rfl rfl (any_of HT_.out (by kernel_rfl)) (fun _ _ _ h => h) (Or.inl ⟨by rfl, ?_⟩) ?_ ?_
                    rotate_left
                    · intro w'
                      go_simp
                      with_reducible rfl
                    rotate_left
                    · simp only [Act.put, List.setIfInBounds_toArray, List.set_cons_zero, List.set_cons_succ, i64_w, i32_w]
                      rfl
                    refine pure_ (i := 14) (N := some 67) (v := ?_) (a' := ?_) #[true, true, true, true, false, true, true, true, false, true, true, false, false, false, true, false, false, false, false, false, false, false, false, false, false, false] rfl rfl (any_of HT_.out (by kernel_rfl)) (fun _ _ _ h => h) (Or.inl ⟨by rfl, ?_⟩) ?_ ?_
                    rotate_left
                    · intro w'
                      go_simp
                      with_reducible rfl
                    rotate_left
                    · simp only [Act.put, List.setIfInBounds_toArray, List.set_cons_zero, List.set_cons_succ, i64_w, i32_w]
                      rfl
                    refine inv_at [4, 8, 11, 12, 13, 15, 16, 17, 18, 19, 20, 21, 22, 23, 24, 25] (fun a0_ b a w' => ∃ (v117 : Value) (v121 : Value), a = putSel a0_ b [(4, 57, .string (t107.extract 0 ((ji37) : Int).toNat)), (8, 61, .string (t107.extract ((ji37) : Int).toNat ((ji43) : Int).toNat)), (11, 64, .string (t107.extract ((ji43) : Int).toNat t107.size)), (12, 65, v117), (13, 66, .int .u32 t119), (15, 68, v121), (16, 69, .int .u32 t123), (17, 70, .bool (t119 == t123)), (18, 71, .bool (t119 == t123)), (19, 72, .bool (t119 == t123)), (20, 73, undef), (21, 74, undef), (22, 75, undef), (23, 76, undef), (24, 77, .bool false), (25, 4, .bool false)] ∧ (w'.heap[gb105]? = some (.cells #[.int .i64 a1_0, .int .i64 a1_1] 22 (0, 0))) ∧ (Below w.heap.size w w') ∧ (b 12 = true → Kd.R Kd.string 9 w' w.heap.size (fun _ => True) v117 y116) ∧ (b 15 = true → Kd.R Kd.string 9 w' w.heap.size (fun _ => True) v121 y120)) HT_.out HW_.out (by kernel_rfl) (by kernel_rfl) ?_ ?_ ?_
                    · exact ⟨.bool false, .bool false, by simp only [putSel, Bool.false_eq_true, if_false], BK105.out, HB.out, fun h_ => absurd h_ (by decide), fun h_ => absurd h_ (by decide)⟩
                    · skip
                      clear BK105 HB
                      refine steps_cons ?_ ?_
                      · rintro b a w' ⟨v117, v121, ha, Q_BK105, Q_HB, Q_HO118, Q_HO122⟩ hb_ hon hoff
                        refine ⟨_, rfl, fun K hK => ?_⟩
                        have e55 : a.tmps[55]? = some (.string t107) := by rw [ha]; exact (putSel_off rfl).trans rfl
                        have e56 : a.tmps[56]? = some (.int .i64 ji37) := by rw [ha]; exact (putSel_off rfl).trans rfl
                        have e54 : a.tmps[54]? = some (.bool true) := by rw [ha]; exact (putSel_off rfl).trans rfl
                        replace ha := Aside0.mk ha
                        have BK105 := Aside0.mk Q_BK105
                        have HB := Aside0.mk Q_HB
                        refine value_ (w1 := w') (v := .string (t107.extract 0 ((ji37) : Int).toNat)) (wanted_on rfl rfl rfl (e54.trans (by first | rfl | (simp [*]; done)))) rfl ?_ ?_
                        · go_simp
                          (try simp only [i64_w])
                          try rfl
                        refine hK.out _ _ ⟨v117, v121, (by rw [ha.out]; exact putSel_upk 0 hb_ rfl rfl rfl), Q_BK105, Q_HB, fun h0_ => absurd ((hoff 12 (by kernel_rfl)).symm.trans h0_) (by decide), Q_HO122⟩
                      refine steps_cons ?_ ?_
                      · rintro b a w' ⟨v117, v121, ha, Q_BK105, Q_HB, Q_HO118, Q_HO122⟩ hb_ hon hoff
                        refine ⟨_, rfl, fun K hK => ?_⟩
                        have e58 : a.tmps[58]? = some (.string t107) := by rw [ha]; exact (putSel_off rfl).trans rfl
                        have e59 : a.tmps[59]? = some (.int .i64 ji37) := by rw [ha]; exact (putSel_off rfl).trans rfl
                        have e60 : a.tmps[60]? = some (.int .i64 ji43) := by rw [ha]; exact (putSel_off rfl).trans rfl
                        have e54 : a.tmps[54]? = some (.bool true) := by rw [ha]; exact (putSel_off rfl).trans rfl
                        replace ha := Aside0.mk ha
                        have BK105 := Aside0.mk Q_BK105
                        have HB := Aside0.mk Q_HB
                        refine value_ (w1 := w') (v := .string (t107.extract ((ji37) : Int).toNat ((ji43) : Int).toNat)) (wanted_on rfl rfl rfl (e54.trans (by first | rfl | (simp [*]; done)))) rfl ?_ ?_
                        · go_simp
                          (try simp only [i64_w])
                          try rfl
                        refine hK.out _ _ ⟨v117, v121, (by rw [ha.out]; exact putSel_upk 1 hb_ rfl rfl rfl), Q_BK105, Q_HB, fun h0_ => absurd ((hoff 12 (by kernel_rfl)).symm.trans h0_) (by decide), Q_HO122⟩
                      refine steps_cons ?_ ?_
                      · rintro b a w' ⟨v117, v121, ha, Q_BK105, Q_HB, Q_HO118, Q_HO122⟩ hb_ hon hoff
                        refine ⟨_, rfl, fun K hK => ?_⟩
                        have e62 : a.tmps[62]? = some (.string t107) := by rw [ha]; exact (putSel_off rfl).trans rfl
                        have e63 : a.tmps[63]? = some (.int .i64 ji43) := by rw [ha]; exact (putSel_off rfl).trans rfl
                        have e54 : a.tmps[54]? = some (.bool true) := by rw [ha]; exact (putSel_off rfl).trans rfl
                        replace ha := Aside0.mk ha
                        have BK105 := Aside0.mk Q_BK105
                        have HB := Aside0.mk Q_HB
                        refine value_ (w1 := w') (v := .string (t107.extract ((ji43) : Int).toNat t107.size)) (wanted_on rfl rfl rfl (e54.trans (by first | rfl | (simp [*]; done)))) rfl ?_ ?_
                        · go_simp
                          (try simp only [i64_w])
                          try rfl
                        refine hK.out _ _ ⟨v117, v121, (by rw [ha.out]; exact putSel_upk 2 hb_ rfl rfl rfl), Q_BK105, Q_HB, fun h0_ => absurd ((hoff 12 (by kernel_rfl)).symm.trans h0_) (by decide), Q_HO122⟩
                      refine steps_cons ?_ ?_
                      · rintro b a w' ⟨v117, v121, ha, Q_BK105, Q_HB, Q_HO118, Q_HO122⟩ hb_ hon hoff
                        refine ⟨_, rfl, fun K hK => ?_⟩
                        have e57 : a.tmps[57]? = some (.string (t107.extract 0 ((ji37) : Int).toNat)) := by rw [ha]; exact putSel_on (e := (4, 57, .string (t107.extract 0 ((ji37) : Int).toNat))) 0 rfl rfl (hon 4 (by kernel_rfl)) rfl
                        have e61 : a.tmps[61]? = some (.string (t107.extract ((ji37) : Int).toNat ((ji43) : Int).toNat)) := by rw [ha]; exact putSel_on (e := (8, 61, .string (t107.extract ((ji37) : Int).toNat ((ji43) : Int).toNat))) 1 rfl rfl (hon 8 (by kernel_rfl)) rfl
                        have e64 : a.tmps[64]? = some (.string (t107.extract ((ji43) : Int).toNat t107.size)) := by rw [ha]; exact putSel_on (e := (11, 64, .string (t107.extract ((ji43) : Int).toNat t107.size))) 2 rfl rfl (hon 11 (by kernel_rfl)) rfl
                        have e54 : a.tmps[54]? = some (.bool true) := by rw [ha]; exact (putSel_off rfl).trans rfl
                        replace ha := Aside0.mk ha
                        have BK105 := Aside0.mk Q_BK105
                        have HB := Aside0.mk Q_HB
                        refine Kd.R_lit_step Kd.string _ 9 ?hg (N := 65) ?hd (xs := ([t107.extract 0 ((ji37) : Int).toNat, t107.extract ((ji37) : Int).toNat ((ji43) : Int).toNat, (⟨#[]⟩ : ByteArray), t107.extract ((ji43) : Int).toNat t107.size] : List ByteArray)) (inner := [.string (t107.extract 0 ((ji37) : Int).toNat), .string (t107.extract ((ji37) : Int).toNat ((ji43) : Int).toNat), .string (⟨#[]⟩ : ByteArray), .string (t107.extract ((ji43) : Int).toNat t107.size)]) (ok := fun _ => True) (okp := fun _ => True) ?hr ?hp (fun _ hk => hk) trivial (Below.refl _ _) (Nat.le_refl _) (by simp) ?_; (case hd => rfl); (case hg => first | rfl | exact wanted_on rfl rfl rfl (by first | assumption | rfl | (simp [*]; done))); (case hr => first | (go_simp; done) | (go_simp; rfl)); (case hp => exact (Reps.one (show Kd.M Kd.string _ _ _ (t107.extract 0 ((ji37) : Int).toNat) [.string (t107.extract 0 ((ji37) : Int).toNat)] from rfl) (Reps.one (show Kd.M Kd.string _ _ _ (t107.extract ((ji37) : Int).toNat ((ji43) : Int).toNat) [.string (t107.extract ((ji37) : Int).toNat ((ji43) : Int).toNat)] from rfl) (Reps.one (show Kd.M Kd.string _ _ _ (⟨#[]⟩ : ByteArray) [.string (⟨#[]⟩ : ByteArray)] from rfl) (Reps.one (show Kd.M Kd.string _ _ _ (t107.extract ((ji43) : Int).toNat t107.size) [.string (t107.extract ((ji43) : Int).toNat t107.size)] from rfl) (Reps.none _ _))))))
                        intro v117 w73 ho74 hb hg_ hnew_
                        clear hg_ hnew_
                        (first | rw [← Ny116.out] at ho74 | (simp only [Int.reduceToNat] at ho74; rw [← Ny116.out] at ho74))
                        have n0_ := Aside0.mk (Kd.R_lower ho74 (below_size (by repeat (first | (with_reducible first | exact HB.out | apply below_alloc | apply pw_below_drewN | apply below_drew1 | refine below_set ?_ GE105.out) | exact HB.out))))
                        have n1_ := Aside0.mk (blk_below (g := gb105) (o := .cells #[.int .i64 a1_0, .int .i64 a1_1] 22 (0, 0)) (by (with_reducible repeat (first | refine blk_drewN ?_ _ | refine blk_drew ?_ | refine blk_alloc ?_ _)); exact BK105.out) hb)
                        have n2_ := Aside0.mk (below_step (by repeat (first | (with_reducible first | exact HB.out | apply below_alloc | apply pw_below_drewN | apply below_drew1 | refine below_set ?_ GE105.out) | exact HB.out)) hb)
                        have z_HO122 := fun (h0_ : b 15 = true) => (show Kd.R Kd.string 9 w73 w.heap.size (fun _ => True) v121 y120 from by first | exact (Kd.R_elder' (by (with_reducible repeat (first | apply Kd.R_alloc | apply Kd.R_drewN | apply Kd.R_drew)); exact (Q_HO122 h0_)) (Kd.R_base ho74) hb) | exact Kd.R_mono (Kd.R_elder' (by (with_reducible repeat (first | apply Kd.R_alloc | apply Kd.R_drewN | apply Kd.R_drew)); exact (Q_HO122 h0_)) (Kd.R_base ho74) hb) (fun _ h_ => by first | trivial | exact h_ | exact h_.1))
                        clear BK105
                        clear HB
                        have HO118 := n0_
                        have BK105 := n1_
                        have HB := n2_
                        clear n0_ n1_ n2_
                        clear hb ho74
                        refine hK.out _ _ ⟨v117, v121, (by rw [ha.out]; exact putSel_upk 3 hb_ rfl rfl rfl), (by (with_reducible repeat (first | refine blk_drewN ?_ _ | refine blk_drew ?_ | refine blk_alloc ?_ _)); exact BK105.out), (by repeat (first | (with_reducible first | exact HB.out | apply below_alloc | apply pw_below_drewN | apply below_drew1 | refine below_set ?_ GE105.out) | exact HB.out)), fun _ => (by (with_reducible repeat (first | apply Kd.R_alloc | apply Kd.R_drewN | apply Kd.R_drew)); (first | exact HO118.out | exact Kd.R_mono HO118.out (fun _ _ => trivial) | exact Kd.R_mono HO118.out (fun _ hk => hk.1))), z_HO122⟩
                      refine steps_cons ?_ ?_
                      · rintro b a w' ⟨v117, v121, ha, Q_BK105, Q_HB, Q_HO118, Q_HO122⟩ hb_ hon hoff
                        refine ⟨_, rfl, fun K hK => ?_⟩
                        have e65 : a.tmps[65]? = some (v117) := by rw [ha]; exact putSel_on (e := (12, 65, v117)) 3 rfl rfl (hon 12 (by kernel_rfl)) rfl
                        have e54 : a.tmps[54]? = some (.bool true) := by rw [ha]; exact (putSel_off rfl).trans rfl
                        replace ha := Aside0.mk ha
                        have BK105 := Aside0.mk Q_BK105
                        have HB := Aside0.mk Q_HB
                        have HO118 := Aside0.mk (Q_HO118 (hon 12 (by kernel_rfl)))
                        obtain ⟨Ao76, co76, eo76⟩ := Kd.R_slice HO118.out
                        (first | subst eo76 | (injection eo76 with f1_ f2_ f3_; have f4_ := f1_.symm; have f5_ := f3_.symm; clear f1_ f2_ f3_; subst f4_; subst f5_))
                        refine goes_ Try.func15 (by kernel_rfl) rfl #[.slice Ao76 y116.length co76] (by first | rfl | exact wanted_on rfl rfl rfl (by first | assumption | rfl | (simp [*]; done))) rfl rfl (by first | (simp only [List.map_toArray, List.map_cons, List.map_nil, Act.eval, Array.getD_eq_getD_getElem?, Option.getD_some, e65, e54]; done) | (simp only [List.map_toArray, List.map_cons, List.map_nil, Act.eval, Array.getD_eq_getD_getElem?, Option.getD_some, e65, e54]; rfl)) ?_
                        with_reducible refine (crc_Sum.calls _ _ y116 t119 _ ?side1 ?side2 A46.out).mono ?_
                        (case side1 => repeat (first | exact (Kd.R_reads' HO118.out).2.2 | (with_reducible refine Kd.C_alloc ?_ _) | (with_reducible refine Kd.C_drewN ?_ _) | (with_reducible refine Kd.C_drew ?_)))
                        (case side2 => exact (Kd.R_reads' HO118.out).2.1)
                        rintro e w77 ⟨rfl, hb⟩
                        refine ⟨_, rfl, ?_⟩
                        have n0_ := Aside0.mk (Kd.R_below (by (with_reducible repeat (first | apply Kd.R_alloc | apply Kd.R_drewN | apply Kd.R_drew)); (first | exact HO118.out | exact Kd.R_mono HO118.out (fun _ _ => trivial) | exact Kd.R_mono HO118.out (fun _ hk => hk.1))) hb)
                        have n1_ := Aside0.mk (blk_below (g := gb105) (o := .cells #[.int .i64 a1_0, .int .i64 a1_1] 22 (0, 0)) (by (with_reducible repeat (first | refine blk_drewN ?_ _ | refine blk_drew ?_ | refine blk_alloc ?_ _)); exact BK105.out) hb)
                        have n2_ := Aside0.mk (below_step (by repeat (first | (with_reducible first | exact HB.out | apply below_alloc | apply pw_below_drewN | apply below_drew1 | refine below_set ?_ GE105.out) | exact HB.out)) hb)
                        have z_HO122 := fun (h0_ : b 15 = true) => (show Kd.R Kd.string 9 w77 w.heap.size (fun _ => True) v121 y120 from by first | exact (Kd.R_below (by (with_reducible repeat (first | apply Kd.R_alloc | apply Kd.R_drewN | apply Kd.R_drew)); exact (Q_HO122 h0_)) hb) | exact Kd.R_mono (Kd.R_below (by (with_reducible repeat (first | apply Kd.R_alloc | apply Kd.R_drewN | apply Kd.R_drew)); exact (Q_HO122 h0_)) hb) (fun _ h_ => by first | trivial | exact h_ | exact h_.1))
                        clear HO118
                        clear BK105
                        clear HB
                        have HO118 := n0_
                        have BK105 := n1_
                        have HB := n2_
                        clear n0_ n1_ n2_
                        (try clear hb)
                        (try clear hb2)
                        (try clear hk)
                        (try clear hi)
                        refine hK.out _ _ ⟨.slice Ao76 y116.length co76, v121, (by rw [ha.out]; exact putSel_upk 4 hb_ rfl rfl rfl), (by (with_reducible repeat (first | refine blk_drewN ?_ _ | refine blk_drew ?_ | refine blk_alloc ?_ _)); exact BK105.out), (by repeat (first | (with_reducible first | exact HB.out | apply below_alloc | apply pw_below_drewN | apply below_drew1 | refine below_set ?_ GE105.out) | exact HB.out)), fun _ => (by (with_reducible repeat (first | apply Kd.R_alloc | apply Kd.R_drewN | apply Kd.R_drew)); (first | exact HO118.out | exact Kd.R_mono HO118.out (fun _ _ => trivial) | exact Kd.R_mono HO118.out (fun _ hk => hk.1))), z_HO122⟩
                      refine steps_cons ?_ ?_
                      · rintro b a w' ⟨v117, v121, ha, Q_BK105, Q_HB, Q_HO118, Q_HO122⟩ hb_ hon hoff
                        refine ⟨_, rfl, fun K hK => ?_⟩
                        have e67 : a.tmps[67]? = some (.string t107) := by rw [ha]; exact (putSel_off rfl).trans rfl
                        have e54 : a.tmps[54]? = some (.bool true) := by rw [ha]; exact (putSel_off rfl).trans rfl
                        replace ha := Aside0.mk ha
                        have BK105 := Aside0.mk Q_BK105
                        have HB := Aside0.mk Q_HB
                        refine Kd.R_lit_step Kd.string _ 9 ?hg (N := 68) ?hd (xs := ([t107] : List ByteArray)) (inner := [.string t107]) (ok := fun _ => True) (okp := fun _ => True) ?hr ?hp (fun _ hk => hk) trivial (Below.refl _ _) (Nat.le_refl _) (by simp) ?_; (case hd => rfl); (case hg => first | rfl | exact wanted_on rfl rfl rfl (by first | assumption | rfl | (simp [*]; done))); (case hr => first | (go_simp; done) | (go_simp; rfl)); (case hp => exact (Reps.one (show Kd.M Kd.string _ _ _ t107 [.string t107] from rfl) (Reps.none _ _)))
                        intro v121 w73 ho74 hb hg_ hnew_
                        clear hg_ hnew_
                        (first | rw [← Ny120.out] at ho74 | (simp only [Int.reduceToNat] at ho74; rw [← Ny120.out] at ho74))
                        have n0_ := Aside0.mk (Kd.R_lower ho74 (below_size (by repeat (first | (with_reducible first | exact HB.out | apply below_alloc | apply pw_below_drewN | apply below_drew1 | refine below_set ?_ GE105.out) | exact HB.out))))
                        have n1_ := Aside0.mk (blk_below (g := gb105) (o := .cells #[.int .i64 a1_0, .int .i64 a1_1] 22 (0, 0)) (by (with_reducible repeat (first | refine blk_drewN ?_ _ | refine blk_drew ?_ | refine blk_alloc ?_ _)); exact BK105.out) hb)
                        have n2_ := Aside0.mk (below_step (by repeat (first | (with_reducible first | exact HB.out | apply below_alloc | apply pw_below_drewN | apply below_drew1 | refine below_set ?_ GE105.out) | exact HB.out)) hb)
                        have z_HO118 := fun (h0_ : b 12 = true) => (show Kd.R Kd.string 9 w73 w.heap.size (fun _ => True) v117 y116 from by first | exact (Kd.R_elder' (by (with_reducible repeat (first | apply Kd.R_alloc | apply Kd.R_drewN | apply Kd.R_drew)); exact (Q_HO118 h0_)) (Kd.R_base ho74) hb) | exact Kd.R_mono (Kd.R_elder' (by (with_reducible repeat (first | apply Kd.R_alloc | apply Kd.R_drewN | apply Kd.R_drew)); exact (Q_HO118 h0_)) (Kd.R_base ho74) hb) (fun _ h_ => by first | trivial | exact h_ | exact h_.1))
                        clear BK105
                        clear HB
                        have HO122 := n0_
                        have BK105 := n1_
                        have HB := n2_
                        clear n0_ n1_ n2_
                        clear hb ho74
                        refine hK.out _ _ ⟨v117, v121, (by rw [ha.out]; exact putSel_upk 5 hb_ rfl rfl rfl), (by (with_reducible repeat (first | refine blk_drewN ?_ _ | refine blk_drew ?_ | refine blk_alloc ?_ _)); exact BK105.out), (by repeat (first | (with_reducible first | exact HB.out | apply below_alloc | apply pw_below_drewN | apply below_drew1 | refine below_set ?_ GE105.out) | exact HB.out)), z_HO118, fun _ => (by (with_reducible repeat (first | apply Kd.R_alloc | apply Kd.R_drewN | apply Kd.R_drew)); (first | exact HO122.out | exact Kd.R_mono HO122.out (fun _ _ => trivial) | exact Kd.R_mono HO122.out (fun _ hk => hk.1)))⟩
                      refine steps_cons ?_ ?_
                      · rintro b a w' ⟨v117, v121, ha, Q_BK105, Q_HB, Q_HO118, Q_HO122⟩ hb_ hon hoff
                        refine ⟨_, rfl, fun K hK => ?_⟩
                        have e68 : a.tmps[68]? = some (v121) := by rw [ha]; exact putSel_on (e := (15, 68, v121)) 5 rfl rfl (hon 15 (by kernel_rfl)) rfl
                        have e54 : a.tmps[54]? = some (.bool true) := by rw [ha]; exact (putSel_off rfl).trans rfl
                        replace ha := Aside0.mk ha
                        have BK105 := Aside0.mk Q_BK105
                        have HB := Aside0.mk Q_HB
                        have HO118 := Aside0.mk (Q_HO118 (hon 12 (by kernel_rfl)))
                        have HO122 := Aside0.mk (Q_HO122 (hon 15 (by kernel_rfl)))
                        obtain ⟨Ao80, co80, eo80⟩ := Kd.R_slice HO122.out
                        (first | subst eo80 | (injection eo80 with f1_ f2_ f3_; have f4_ := f1_.symm; have f5_ := f3_.symm; clear f1_ f2_ f3_; subst f4_; subst f5_))
                        refine goes_ Try.func15 (by kernel_rfl) rfl #[.slice Ao80 y120.length co80] (by first | rfl | exact wanted_on rfl rfl rfl (by first | assumption | rfl | (simp [*]; done))) rfl rfl (by first | (simp only [List.map_toArray, List.map_cons, List.map_nil, Act.eval, Array.getD_eq_getD_getElem?, Option.getD_some, e68, e54]; done) | (simp only [List.map_toArray, List.map_cons, List.map_nil, Act.eval, Array.getD_eq_getD_getElem?, Option.getD_some, e68, e54]; rfl)) ?_
                        with_reducible refine (crc_Sum.calls _ _ y120 t123 _ ?side1 ?side2 A47.out).mono ?_
                        (case side1 => repeat (first | exact (Kd.R_reads' HO122.out).2.2 | (with_reducible refine Kd.C_alloc ?_ _) | (with_reducible refine Kd.C_drewN ?_ _) | (with_reducible refine Kd.C_drew ?_)))
                        (case side2 => exact (Kd.R_reads' HO122.out).2.1)
                        rintro e w81 ⟨rfl, hb⟩
                        refine ⟨_, rfl, ?_⟩
                        have n0_ := Aside0.mk (Kd.R_below (by (with_reducible repeat (first | apply Kd.R_alloc | apply Kd.R_drewN | apply Kd.R_drew)); (first | exact HO118.out | exact Kd.R_mono HO118.out (fun _ _ => trivial) | exact Kd.R_mono HO118.out (fun _ hk => hk.1))) hb)
                        have n1_ := Aside0.mk (Kd.R_below (by (with_reducible repeat (first | apply Kd.R_alloc | apply Kd.R_drewN | apply Kd.R_drew)); (first | exact HO122.out | exact Kd.R_mono HO122.out (fun _ _ => trivial) | exact Kd.R_mono HO122.out (fun _ hk => hk.1))) hb)
                        have n2_ := Aside0.mk (blk_below (g := gb105) (o := .cells #[.int .i64 a1_0, .int .i64 a1_1] 22 (0, 0)) (by (with_reducible repeat (first | refine blk_drewN ?_ _ | refine blk_drew ?_ | refine blk_alloc ?_ _)); exact BK105.out) hb)
                        have n3_ := Aside0.mk (below_step (by repeat (first | (with_reducible first | exact HB.out | apply below_alloc | apply pw_below_drewN | apply below_drew1 | refine below_set ?_ GE105.out) | exact HB.out)) hb)
                        clear HO118
                        clear HO122
                        clear BK105
                        clear HB
                        have HO118 := n0_
                        have HO122 := n1_
                        have BK105 := n2_
                        have HB := n3_
                        clear n0_ n1_ n2_ n3_
                        (try clear hb)
                        (try clear hb2)
                        (try clear hk)
                        (try clear hi)
                        refine hK.out _ _ ⟨v117, .slice Ao80 y120.length co80, (by rw [ha.out]; exact putSel_upk 6 hb_ rfl rfl rfl), (by (with_reducible repeat (first | refine blk_drewN ?_ _ | refine blk_drew ?_ | refine blk_alloc ?_ _)); exact BK105.out), (by repeat (first | (with_reducible first | exact HB.out | apply below_alloc | apply pw_below_drewN | apply below_drew1 | refine below_set ?_ GE105.out) | exact HB.out)), fun _ => (by (with_reducible repeat (first | apply Kd.R_alloc | apply Kd.R_drewN | apply Kd.R_drew)); (first | exact HO118.out | exact Kd.R_mono HO118.out (fun _ _ => trivial) | exact Kd.R_mono HO118.out (fun _ hk => hk.1))), fun _ => (by (with_reducible repeat (first | apply Kd.R_alloc | apply Kd.R_drewN | apply Kd.R_drew)); (first | exact HO122.out | exact Kd.R_mono HO122.out (fun _ _ => trivial) | exact Kd.R_mono HO122.out (fun _ hk => hk.1)))⟩
                      refine steps_cons ?_ ?_
                      · rintro b a w' ⟨v117, v121, ha, Q_BK105, Q_HB, Q_HO118, Q_HO122⟩ hb_ hon hoff
                        refine ⟨_, rfl, fun K hK => ?_⟩
                        have e66 : a.tmps[66]? = some (.int .u32 t119) := by rw [ha]; exact putSel_on (e := (13, 66, .int .u32 t119)) 4 rfl rfl (hon 13 (by kernel_rfl)) rfl
                        have e69 : a.tmps[69]? = some (.int .u32 t123) := by rw [ha]; exact putSel_on (e := (16, 69, .int .u32 t123)) 6 rfl rfl (hon 16 (by kernel_rfl)) rfl
                        have e54 : a.tmps[54]? = some (.bool true) := by rw [ha]; exact (putSel_off rfl).trans rfl
                        replace ha := Aside0.mk ha
                        have BK105 := Aside0.mk Q_BK105
                        have HB := Aside0.mk Q_HB
                        have HO118 := Aside0.mk (Q_HO118 (hon 12 (by kernel_rfl)))
                        have HO122 := Aside0.mk (Q_HO122 (hon 15 (by kernel_rfl)))
                        refine value_ (w1 := w') (v := .bool (t119 == t123)) (wanted_on rfl rfl rfl (e54.trans (by first | rfl | (simp [*]; done)))) rfl ?_ ?_
                        · go_simp
                          (try simp only [i64_w])
                          try rfl
                        refine hK.out _ _ ⟨v117, v121, (by rw [ha.out]; exact putSel_upk 7 hb_ rfl rfl rfl), Q_BK105, Q_HB, Q_HO118, Q_HO122⟩
                      refine steps_cons ?_ ?_
                      · rintro b a w' ⟨v117, v121, ha, Q_BK105, Q_HB, Q_HO118, Q_HO122⟩ hb_ hon hoff
                        refine ⟨_, rfl, fun K hK => ?_⟩
                        have e54 : a.tmps[54]? = some (.bool true) := by rw [ha]; exact (putSel_off rfl).trans rfl
                        have e70 : a.tmps[70]? = some (.bool (t119 == t123)) := by rw [ha]; exact putSel_on (e := (17, 70, .bool (t119 == t123))) 7 rfl rfl (hon 17 (by kernel_rfl)) rfl
                        replace ha := Aside0.mk ha
                        have BK105 := Aside0.mk Q_BK105
                        have HB := Aside0.mk Q_HB
                        have HO118 := Aside0.mk (Q_HO118 (hon 12 (by kernel_rfl)))
                        have HO122 := Aside0.mk (Q_HO122 (hon 15 (by kernel_rfl)))
                        refine value_ (w1 := w') (v := .bool (t119 == t123)) (by rfl) rfl ?_ ?_
                        · go_simp
                          (try simp only [i64_w])
                          try rfl
                        refine hK.out _ _ ⟨v117, v121, (by rw [ha.out]; exact putSel_upk 8 hb_ rfl rfl rfl), Q_BK105, Q_HB, Q_HO118, Q_HO122⟩
                      refine steps_cons ?_ ?_
                      · rintro b a w' ⟨v117, v121, ha, Q_BK105, Q_HB, Q_HO118, Q_HO122⟩ hb_ hon hoff
                        refine ⟨_, rfl, fun K hK => ?_⟩
                        have e71 : a.tmps[71]? = some (.bool (t119 == t123)) := by rw [ha]; exact putSel_on (e := (18, 71, .bool (t119 == t123))) 8 rfl rfl (hon 18 (by kernel_rfl)) rfl
                        replace ha := Aside0.mk ha
                        have BK105 := Aside0.mk Q_BK105
                        have HB := Aside0.mk Q_HB
                        have HO118 := Aside0.mk (Q_HO118 (hon 12 (by kernel_rfl)))
                        have HO122 := Aside0.mk (Q_HO122 (hon 15 (by kernel_rfl)))
                        refine value_ (w1 := w') (v := .bool (t119 == t123)) (by rfl) rfl ?_ ?_
                        · go_simp
                          (try simp only [i64_w])
                          try rfl
                        refine hK.out _ _ ⟨v117, v121, (by rw [ha.out]; exact putSel_upk 9 hb_ rfl rfl rfl), Q_BK105, Q_HB, Q_HO118, Q_HO122⟩
                      refine steps_cons ?_ ?_
                      · rintro b a w' ⟨v117, v121, ha, Q_BK105, Q_HB, Q_HO118, Q_HO122⟩ hb_ hon hoff
                        refine ⟨_, rfl, fun K hK => ?_⟩
                        have e72 : a.tmps[72]? = some (.bool (t119 == t123)) := by rw [ha]; exact putSel_on (e := (19, 72, .bool (t119 == t123))) 9 rfl rfl (hon 19 (by kernel_rfl)) rfl
                        replace ha := Aside0.mk ha
                        have BK105 := Aside0.mk Q_BK105
                        have HB := Aside0.mk Q_HB
                        have HO118 := Aside0.mk (Q_HO118 (hon 12 (by kernel_rfl)))
                        have HO122 := Aside0.mk (Q_HO122 (hon 15 (by kernel_rfl)))
                        refine off_ (wanted_off rfl rfl rfl (e72.trans (by first | rfl | (simp [*]; done)))) ?_
                        refine hK.out _ _ ⟨v117, v121, (by rw [ha.out]; exact putSel_upk 10 hb_ rfl rfl rfl), Q_BK105, Q_HB, Q_HO118, Q_HO122⟩
                      refine steps_cons ?_ ?_
                      · rintro b a w' ⟨v117, v121, ha, Q_BK105, Q_HB, Q_HO118, Q_HO122⟩ hb_ hon hoff
                        refine ⟨_, rfl, fun K hK => ?_⟩
                        have e72 : a.tmps[72]? = some (.bool (t119 == t123)) := by rw [ha]; exact putSel_on (e := (19, 72, .bool (t119 == t123))) 9 rfl rfl (hon 19 (by kernel_rfl)) rfl
                        replace ha := Aside0.mk ha
                        have BK105 := Aside0.mk Q_BK105
                        have HB := Aside0.mk Q_HB
                        have HO118 := Aside0.mk (Q_HO118 (hon 12 (by kernel_rfl)))
                        have HO122 := Aside0.mk (Q_HO122 (hon 15 (by kernel_rfl)))
                        refine off_ (wanted_off rfl rfl rfl (e72.trans (by first | rfl | (simp [*]; done)))) ?_
                        refine hK.out _ _ ⟨v117, v121, (by rw [ha.out]; exact putSel_upk 11 hb_ rfl rfl rfl), Q_BK105, Q_HB, Q_HO118, Q_HO122⟩
                      refine steps_cons ?_ ?_
                      · rintro b a w' ⟨v117, v121, ha, Q_BK105, Q_HB, Q_HO118, Q_HO122⟩ hb_ hon hoff
                        refine ⟨_, rfl, fun K hK => ?_⟩
                        have e72 : a.tmps[72]? = some (.bool (t119 == t123)) := by rw [ha]; exact putSel_on (e := (19, 72, .bool (t119 == t123))) 9 rfl rfl (hon 19 (by kernel_rfl)) rfl
                        replace ha := Aside0.mk ha
                        have BK105 := Aside0.mk Q_BK105
                        have HB := Aside0.mk Q_HB
                        have HO118 := Aside0.mk (Q_HO118 (hon 12 (by kernel_rfl)))
                        have HO122 := Aside0.mk (Q_HO122 (hon 15 (by kernel_rfl)))
                        refine off_ (wanted_off rfl rfl rfl (e72.trans (by first | rfl | (simp [*]; done)))) ?_
                        refine hK.out _ _ ⟨v117, v121, (by rw [ha.out]; exact putSel_upk 12 hb_ rfl rfl rfl), Q_BK105, Q_HB, Q_HO118, Q_HO122⟩
                      refine steps_cons ?_ ?_
                      · rintro b a w' ⟨v117, v121, ha, Q_BK105, Q_HB, Q_HO118, Q_HO122⟩ hb_ hon hoff
                        refine ⟨_, rfl, fun K hK => ?_⟩
                        have e72 : a.tmps[72]? = some (.bool (t119 == t123)) := by rw [ha]; exact putSel_on (e := (19, 72, .bool (t119 == t123))) 9 rfl rfl (hon 19 (by kernel_rfl)) rfl
                        replace ha := Aside0.mk ha
                        have BK105 := Aside0.mk Q_BK105
                        have HB := Aside0.mk Q_HB
                        have HO118 := Aside0.mk (Q_HO118 (hon 12 (by kernel_rfl)))
                        have HO122 := Aside0.mk (Q_HO122 (hon 15 (by kernel_rfl)))
                        refine off_ (wanted_off rfl rfl rfl (e72.trans (by first | rfl | (simp [*]; done)))) ?_
                        refine hK.out _ _ ⟨v117, v121, (by rw [ha.out]; exact putSel_upk 13 hb_ rfl rfl rfl), Q_BK105, Q_HB, Q_HO118, Q_HO122⟩
                      refine steps_cons ?_ ?_
                      · rintro b a w' ⟨v117, v121, ha, Q_BK105, Q_HB, Q_HO118, Q_HO122⟩ hb_ hon hoff
                        refine ⟨_, rfl, fun K hK => ?_⟩
                        have e72 : a.tmps[72]? = some (.bool (t119 == t123)) := by rw [ha]; exact putSel_on (e := (19, 72, .bool (t119 == t123))) 9 rfl rfl (hon 19 (by kernel_rfl)) rfl
                        have e76 : a.tmps[76]? = some (undef) := by rw [ha]; exact putSel_on (e := (23, 76, undef)) 13 rfl rfl (hon 23 (by kernel_rfl)) rfl
                        replace ha := Aside0.mk ha
                        have BK105 := Aside0.mk Q_BK105
                        have HB := Aside0.mk Q_HB
                        have HO118 := Aside0.mk (Q_HO118 (hon 12 (by kernel_rfl)))
                        have HO122 := Aside0.mk (Q_HO122 (hon 15 (by kernel_rfl)))
                        refine value_ (w1 := w') (v := .bool false) (by rfl) rfl ?_ ?_
                        · go_simp
                          (try simp only [i64_w])
                          try rfl
                        refine hK.out _ _ ⟨v117, v121, (by rw [ha.out]; exact putSel_upk 14 hb_ rfl rfl rfl), Q_BK105, Q_HB, Q_HO118, Q_HO122⟩
                      refine steps_cons ?_ ?_
                      · rintro b a w' ⟨v117, v121, ha, Q_BK105, Q_HB, Q_HO118, Q_HO122⟩ hb_ hon hoff
                        refine ⟨_, rfl, fun K hK => ?_⟩
                        have e77 : a.tmps[77]? = some (.bool false) := by rw [ha]; exact putSel_on (e := (24, 77, .bool false)) 14 rfl rfl (hon 24 (by kernel_rfl)) rfl
                        replace ha := Aside0.mk ha
                        have BK105 := Aside0.mk Q_BK105
                        have HB := Aside0.mk Q_HB
                        have HO118 := Aside0.mk (Q_HO118 (hon 12 (by kernel_rfl)))
                        have HO122 := Aside0.mk (Q_HO122 (hon 15 (by kernel_rfl)))
                        refine value_ (w1 := w') (v := .bool false) (by rfl) rfl ?_ ?_
                        · go_simp
                          (try simp only [i64_w])
                          try rfl
                        refine hK.out _ _ ⟨v117, v121, (by rw [ha.out]; exact putSel_upk 15 hb_ rfl rfl rfl), Q_BK105, Q_HB, Q_HO118, Q_HO122⟩
                      exact steps_nil
                    rintro b a w81 hall ⟨v117, v121, ha, Q_BK105, Q_HB, Q_HO118, Q_HO122⟩
                    clear BK105 HB
                    have hb4_ := hall 4 (by kernel_rfl)
                    have hb8_ := hall 8 (by kernel_rfl)
                    have hb11_ := hall 11 (by kernel_rfl)
                    have hb12_ := hall 12 (by kernel_rfl)
                    have hb13_ := hall 13 (by kernel_rfl)
                    have hb15_ := hall 15 (by kernel_rfl)
                    have hb16_ := hall 16 (by kernel_rfl)
                    have hb17_ := hall 17 (by kernel_rfl)
                    have hb18_ := hall 18 (by kernel_rfl)
                    have hb19_ := hall 19 (by kernel_rfl)
                    have hb20_ := hall 20 (by kernel_rfl)
                    have hb21_ := hall 21 (by kernel_rfl)
                    have hb22_ := hall 22 (by kernel_rfl)
                    have hb23_ := hall 23 (by kernel_rfl)
                    have hb24_ := hall 24 (by kernel_rfl)
                    have hb25_ := hall 25 (by kernel_rfl)
                    subst ha
                    simp only [putSel, hb4_, hb8_, hb11_, hb12_, hb13_, hb15_, hb16_, hb17_, hb18_, hb19_, hb20_, hb21_, hb22_, hb23_, hb24_, hb25_, if_true, Act.put, List.setIfInBounds_toArray, List.set_cons_zero, List.set_cons_succ]
                    have BK105 := Aside0.mk Q_BK105
                    clear Q_BK105
                    have HB := Aside0.mk Q_HB
                    clear Q_HB
                    have HO118 := Aside0.mk (Q_HO118 hb12_)
                    clear Q_HO118
                    have HO122 := Aside0.mk (Q_HO122 hb15_)
                    clear Q_HO122
                    clear hall hb4_ hb8_ hb11_ hb12_ hb13_ hb15_ hb16_ hb17_ hb18_ hb19_ hb20_ hb21_ hb22_ hb23_ hb24_ hb25_
                    try go_wp2
                    go_ret
                    exact ⟨by first | rfl | (simp [errW_none, errW_some] <;> rfl) | (simp only [← hji37, ← hji43]; first | rfl | (simp [errW_none, errW_some] <;> rfl)) | (simp [*, errW_none, errW_some] <;> rfl), by repeat (first | (with_reducible first | exact HB.out | apply below_alloc | apply pw_below_drewN | apply below_drew1 | refine below_set ?_ GE105.out) | exact HB.out)⟩
                · rw [if_neg c44] at H
                  exact absurd H (by simp)
              · rw [if_neg c42] at H
                exact absurd H (by simp)
            · rw [if_neg c41] at H
              exact absurd H (by simp)
          · rw [if_neg c39] at H
            exact absurd H (by simp)
        · rw [if_neg c38] at H
          exact absurd H (by simp)
      · replace c36 := Bool.eq_false_iff.mpr c36
        subst c36
        have H1 : (some false) = some r := by rw [if_neg (show ¬ (false = true) by decide)] at H; exact H
        clear H
        have H := H1
        clear H1
        obtain rfl := Option.some.inj H
        go_enter Try.func3, Try.ntmps3
        try go_wp2_with (first | ((with_reducible refine gate_dst (N := 3) rfl ?_); (try (refine gate_guard (by rfl) ?_; dsimp only)); refine box_event ?hg (N := 3) ?hd (cs := #[.int .i64 a1_0, .int .i64 a1_1]) (t := 22) ?hr ?_; (case hd => rfl); (case hg => first | rfl | exact wanted_on rfl rfl rfl (by first | assumption | rfl | (simp [*]; done))); (case hr => first | (go_simp; done) | (go_simp; rfl)); intro gb105 hg w82 hbox hb; have n0_ := Aside0.mk (below_step (by repeat (first | (with_reducible first | exact HB.out | apply below_alloc | apply pw_below_drewN | apply below_drew1) | exact HB.out)) hb); have n1_ := Aside0.mk (hbox); have n2_ := Aside0.mk ((by rw [hg]; exact (below_size (by repeat (first | (with_reducible first | exact HB.out | apply below_alloc | apply pw_below_drewN | apply below_drew1) | exact HB.out))) : w.heap.size ≤ gb105)); have n3_ := Aside0.mk ((by rw [hg]; exact (below_size (by repeat (first | (with_reducible first | exact HB.out | apply below_alloc | apply pw_below_drewN | apply below_drew1) | exact HB.out))) : w.heap.size ≤ gb105)); clear HB; have HB := n0_; have BK105 := n1_; have GW105 := n2_; have GE105 := n3_; clear n0_ n1_ n2_ n3_; clear hb hbox hg) | ((with_reducible refine gate_callee (f := 13) rfl ?_); refine goesL_ (some 9) rfl rfl Try.func13 (by kernel_rfl) rfl #[] rfl (by (try simp only [List.map_toArray, List.map_cons, List.map_nil]); first | done | rfl | (simp only [List.length_drop, List.length_take]; rfl)) ?_; (with_reducible refine (earshotlaw05_awake.calls  false _ A3.out).mono ?_); rintro e w83 ⟨rfl, hb⟩; refine ⟨_, rfl, ?_⟩; have n0_ := Aside0.mk (blk_below (g := gb105) (o := .cells #[.int .i64 a1_0, .int .i64 a1_1] 22 (0, 0)) (by (with_reducible repeat (first | refine blk_drewN ?_ _ | refine blk_drew ?_ | refine blk_alloc ?_ _)); exact BK105.out) hb); have n1_ := Aside0.mk (below_step (by repeat (first | (with_reducible first | exact HB.out | apply below_alloc | apply pw_below_drewN | apply below_drew1 | refine below_set ?_ GE105.out) | exact HB.out)) hb); clear BK105; clear HB; have BK105 := n0_; have HB := n1_; clear n0_ n1_; (try clear hb); (try clear hb2); (try clear hk); (try clear hi)) | ((with_reducible refine gate_callee (f := 14) rfl ?_); refine goesL_ (some 11) rfl rfl Try.func14 (by kernel_rfl) rfl #[.string a0] rfl (by (try simp only [List.map_toArray, List.map_cons, List.map_nil]); first | done | rfl | (simp only [List.length_drop, List.length_take]; rfl)) ?_; (with_reducible refine (earshotlaw05_short.calls a0 t107 _ A4.out).mono ?_); rintro e w' ⟨rfl, ⟨nd, rfl⟩⟩; refine ⟨_, rfl, ?_⟩; have hcz84_0 : w83.cell? ⟨gb105, 0, none⟩ = some (.int .i64 a1_0) := (blk_cell BK105.out 0).trans rfl; have hcz84_1 : w83.cell? ⟨gb105, 1, none⟩ = some (.int .i64 a1_1) := (blk_cell BK105.out 1).trans rfl; have hfz84_0 := blk_frozen BK105.out 0; have hfz84_1 := blk_frozen BK105.out 1))
        (try (rw [drewN_self w83]; generalize hq_ : World.drewN w83 _ = w83; have n0_ : Aside0 (w83.heap[gb105]? = some (.cells #[.int .i64 a1_0, .int .i64 a1_1] 22 (0, 0))) := ⟨by rw [← hq_]; exact (by (with_reducible repeat (first | refine blk_drewN ?_ _ | refine blk_drew ?_ | refine blk_alloc ?_ _)); exact BK105.out)⟩; have n1_ : Aside0 (Below w.heap.size w w83) := ⟨by rw [← hq_]; exact (by repeat (first | (with_reducible first | exact HB.out | apply below_alloc | apply pw_below_drewN | apply below_drew1 | refine below_set ?_ GE105.out) | exact HB.out))⟩; clear BK105 HB hq_; have BK105 := n0_; have HB := n1_; clear n0_ n1_))
        have n0_ := Aside0.mk (blk_drew BK105.out)
        have n1_ := Aside0.mk (below_drew1 HB.out)
        clear BK105
        clear HB
        have BK105 := n0_
        have HB := n1_
        clear n0_ n1_
        refine start_ (n := 26) (S := fun w' => True) (ds := []) #[false, false, false, false, false, false, false, false, false, false, false, false, false, false, false, false, false, false, false, false, false, false, false, false, false, false] (by kernel_rfl) rfl rfl trivial (fun hHeld => ?_); refine with_tabW earshotlaw05_CrcParts.tab8 earshotlaw05_CrcParts.bits8 (fun HT_ HW_ => ?_)
        generalize w83.drew = w85 at BK105 HB hHeld ⊢
        refine pure_ (i := 0) (N := some 53) (v := ?_) (a' := ?_) #[true, false, false, false, false, false, false, false, false, false, false, false, false, false, false, false, false, false, false, false, false, false, false, false, false, false] rfl rfl (any_of HT_.out (by kernel_rfl)) (fun _ _ _ h => h) (Or.inl ⟨by rfl, ?_⟩) ?_ ?_
        rotate_left
        · intro w'
          go_simp
          with_reducible rfl
        rotate_left
        · simp only [Act.put, List.setIfInBounds_toArray, List.set_cons_zero, List.set_cons_succ, i64_w, i32_w]
          rfl
        refine pure_ (i := 1) (N := some 54) (v := ?_) (a' := ?_) #[true, true, false, false, false, false, false, false, false, false, false, false, false, false, false, false, false, false, false, false, false, false, false, false, false, false] rfl rfl (any_of HT_.out (by kernel_rfl)) (fun _ _ _ h => h) (Or.inl ⟨by rfl, ?_⟩) ?_ ?_
        rotate_left
        · intro w'
          go_simp
          with_reducible rfl
        rotate_left
        · simp only [Act.put, List.setIfInBounds_toArray, List.set_cons_zero, List.set_cons_succ, i64_w, i32_w]
          rfl
        refine pure_ (i := 2) (N := some 55) (v := undef) (a' := ?_) #[true, true, true, false, false, false, false, false, false, false, false, false, false, false, false, false, false, false, false, false, false, false, false, false, false, false] rfl rfl (any_of HT_.out (by kernel_rfl)) (fun _ _ _ h => h) (Or.inr ⟨by rfl, rfl⟩) ?_ ?_
        rotate_left
        · simp only [Act.put, List.setIfInBounds_toArray, List.set_cons_zero, List.set_cons_succ, i64_w, i32_w]
          rfl
        refine pure_ (i := 3) (N := some 56) (v := undef) (a' := ?_) #[true, true, true, true, false, false, false, false, false, false, false, false, false, false, false, false, false, false, false, false, false, false, false, false, false, false] rfl rfl (any_of HT_.out (by kernel_rfl)) (fun _ _ _ h => h) (Or.inr ⟨by rfl, rfl⟩) ?_ ?_
        rotate_left
        · simp only [Act.put, List.setIfInBounds_toArray, List.set_cons_zero, List.set_cons_succ, i64_w, i32_w]
          rfl
        refine pure_ (i := 4) (N := some 57) (v := undef) (a' := ?_) #[true, true, true, true, true, false, false, false, false, false, false, false, false, false, false, false, false, false, false, false, false, false, false, false, false, false] rfl rfl (any_of HT_.out (by kernel_rfl)) (fun _ _ _ h => h) (Or.inr ⟨by rfl, rfl⟩) ?_ ?_
        rotate_left
        · simp only [Act.put, List.setIfInBounds_toArray, List.set_cons_zero, List.set_cons_succ, i64_w, i32_w]
          rfl
        refine pure_ (i := 5) (N := some 58) (v := undef) (a' := ?_) #[true, true, true, true, true, true, false, false, false, false, false, false, false, false, false, false, false, false, false, false, false, false, false, false, false, false] rfl rfl (any_of HT_.out (by kernel_rfl)) (fun _ _ _ h => h) (Or.inr ⟨by rfl, rfl⟩) ?_ ?_
        rotate_left
        · simp only [Act.put, List.setIfInBounds_toArray, List.set_cons_zero, List.set_cons_succ, i64_w, i32_w]
          rfl
        refine pure_ (i := 6) (N := some 59) (v := undef) (a' := ?_) #[true, true, true, true, true, true, true, false, false, false, false, false, false, false, false, false, false, false, false, false, false, false, false, false, false, false] rfl rfl (any_of HT_.out (by kernel_rfl)) (fun _ _ _ h => h) (Or.inr ⟨by rfl, rfl⟩) ?_ ?_
        rotate_left
        · simp only [Act.put, List.setIfInBounds_toArray, List.set_cons_zero, List.set_cons_succ, i64_w, i32_w]
          rfl
        refine pure_ (i := 7) (N := some 60) (v := undef) (a' := ?_) #[true, true, true, true, true, true, true, true, false, false, false, false, false, false, false, false, false, false, false, false, false, false, false, false, false, false] rfl rfl (any_of HT_.out (by kernel_rfl)) (fun _ _ _ h => h) (Or.inr ⟨by rfl, rfl⟩) ?_ ?_
        rotate_left
        · simp only [Act.put, List.setIfInBounds_toArray, List.set_cons_zero, List.set_cons_succ, i64_w, i32_w]
          rfl
        refine pure_ (i := 8) (N := some 61) (v := undef) (a' := ?_) #[true, true, true, true, true, true, true, true, true, false, false, false, false, false, false, false, false, false, false, false, false, false, false, false, false, false] rfl rfl (any_of HT_.out (by kernel_rfl)) (fun _ _ _ h => h) (Or.inr ⟨by rfl, rfl⟩) ?_ ?_
        rotate_left
        · simp only [Act.put, List.setIfInBounds_toArray, List.set_cons_zero, List.set_cons_succ, i64_w, i32_w]
          rfl
        refine pure_ (i := 9) (N := some 62) (v := undef) (a' := ?_) #[true, true, true, true, true, true, true, true, true, true, false, false, false, false, false, false, false, false, false, false, false, false, false, false, false, false] rfl rfl (any_of HT_.out (by kernel_rfl)) (fun _ _ _ h => h) (Or.inr ⟨by rfl, rfl⟩) ?_ ?_
        rotate_left
        · simp only [Act.put, List.setIfInBounds_toArray, List.set_cons_zero, List.set_cons_succ, i64_w, i32_w]
          rfl
        refine pure_ (i := 10) (N := some 63) (v := undef) (a' := ?_) #[true, true, true, true, true, true, true, true, true, true, true, false, false, false, false, false, false, false, false, false, false, false, false, false, false, false] rfl rfl (any_of HT_.out (by kernel_rfl)) (fun _ _ _ h => h) (Or.inr ⟨by rfl, rfl⟩) ?_ ?_
        rotate_left
        · simp only [Act.put, List.setIfInBounds_toArray, List.set_cons_zero, List.set_cons_succ, i64_w, i32_w]
          rfl
        refine pure_ (i := 11) (N := some 64) (v := undef) (a' := ?_) #[true, true, true, true, true, true, true, true, true, true, true, true, false, false, false, false, false, false, false, false, false, false, false, false, false, false] rfl rfl (any_of HT_.out (by kernel_rfl)) (fun _ _ _ h => h) (Or.inr ⟨by rfl, rfl⟩) ?_ ?_
        rotate_left
        · simp only [Act.put, List.setIfInBounds_toArray, List.set_cons_zero, List.set_cons_succ, i64_w, i32_w]
          rfl
        refine pure_ (i := 12) (N := some 65) (v := undef) (a' := ?_) #[true, true, true, true, true, true, true, true, true, true, true, true, true, false, false, false, false, false, false, false, false, false, false, false, false, false] rfl rfl (any_of HT_.out (by kernel_rfl)) (fun _ _ _ h => h) (Or.inr ⟨by rfl, rfl⟩) ?_ ?_
        rotate_left
        · simp only [Act.put, List.setIfInBounds_toArray, List.set_cons_zero, List.set_cons_succ, i64_w, i32_w]
          rfl
        refine pure_ (i := 13) (N := some 66) (v := undef) (a' := ?_) #[true, true, true, true, true, true, true, true, true, true, true, true, true, true, false, false, false, false, false, false, false, false, false, false, false, false] rfl rfl (any_of HT_.out (by kernel_rfl)) (fun _ _ _ h => h) (Or.inr ⟨by rfl, rfl⟩) ?_ ?_
        rotate_left
        · simp only [Act.put, List.setIfInBounds_toArray, List.set_cons_zero, List.set_cons_succ, i64_w, i32_w]
          rfl
        refine pure_ (i := 14) (N := some 67) (v := undef) (a' := ?_) #[true, true, true, true, true, true, true, true, true, true, true, true, true, true, true, false, false, false, false, false, false, false, false, false, false, false] rfl rfl (any_of HT_.out (by kernel_rfl)) (fun _ _ _ h => h) (Or.inr ⟨by rfl, rfl⟩) ?_ ?_
        rotate_left
        · simp only [Act.put, List.setIfInBounds_toArray, List.set_cons_zero, List.set_cons_succ, i64_w, i32_w]
          rfl
        refine pure_ (i := 15) (N := some 68) (v := undef) (a' := ?_) #[true, true, true, true, true, true, true, true, true, true, true, true, true, true, true, true, false, false, false, false, false, false, false, false, false, false] rfl rfl (any_of HT_.out (by kernel_rfl)) (fun _ _ _ h => h) (Or.inr ⟨by rfl, rfl⟩) ?_ ?_
        rotate_left
        · simp only [Act.put, List.setIfInBounds_toArray, List.set_cons_zero, List.set_cons_succ, i64_w, i32_w]
          rfl
        refine pure_ (i := 16) (N := some 69) (v := undef) (a' := ?_) #[true, true, true, true, true, true, true, true, true, true, true, true, true, true, true, true, true, false, false, false, false, false, false, false, false, false] rfl rfl (any_of HT_.out (by kernel_rfl)) (fun _ _ _ h => h) (Or.inr ⟨by rfl, rfl⟩) ?_ ?_
        rotate_left
        · simp only [Act.put, List.setIfInBounds_toArray, List.set_cons_zero, List.set_cons_succ, i64_w, i32_w]
          rfl
        refine pure_ (i := 17) (N := some 70) (v := undef) (a' := ?_) #[true, true, true, true, true, true, true, true, true, true, true, true, true, true, true, true, true, true, false, false, false, false, false, false, false, false] rfl rfl (any_of HT_.out (by kernel_rfl)) (fun _ _ _ h => h) (Or.inr ⟨by rfl, rfl⟩) ?_ ?_
        rotate_left
        · simp only [Act.put, List.setIfInBounds_toArray, List.set_cons_zero, List.set_cons_succ, i64_w, i32_w]
          rfl
        refine pure_ (i := 18) (N := some 71) (v := ?_) (a' := ?_) #[true, true, true, true, true, true, true, true, true, true, true, true, true, true, true, true, true, true, true, false, false, false, false, false, false, false] rfl rfl (any_of HT_.out (by kernel_rfl)) (fun _ _ _ h => h) (Or.inl ⟨by rfl, ?_⟩) ?_ ?_
        rotate_left
        · intro w'
          go_simp
          with_reducible rfl
        rotate_left
        · simp only [Act.put, List.setIfInBounds_toArray, List.set_cons_zero, List.set_cons_succ, i64_w, i32_w]
          rfl
        refine pure_ (i := 19) (N := some 72) (v := ?_) (a' := ?_) #[true, true, true, true, true, true, true, true, true, true, true, true, true, true, true, true, true, true, true, true, false, false, false, false, false, false] rfl rfl (any_of HT_.out (by kernel_rfl)) (fun _ _ _ h => h) (Or.inl ⟨by rfl, ?_⟩) ?_ ?_
        rotate_left
        · intro w'
          go_simp
          with_reducible rfl
        rotate_left
        · simp only [Act.put, List.setIfInBounds_toArray, List.set_cons_zero, List.set_cons_succ, i64_w, i32_w]
          rfl
        refine pure_ (i := 20) (N := some 73) (v := undef) (a' := ?_) #[true, true, true, true, true, true, true, true, true, true, true, true, true, true, true, true, true, true, true, true, true, false, false, false, false, false] rfl rfl (any_of HT_.out (by kernel_rfl)) (fun _ _ _ h => h) (Or.inr ⟨by rfl, rfl⟩) ?_ ?_
        rotate_left
        · simp only [Act.put, List.setIfInBounds_toArray, List.set_cons_zero, List.set_cons_succ, i64_w, i32_w]
          rfl
        refine pure_ (i := 21) (N := some 74) (v := undef) (a' := ?_) #[true, true, true, true, true, true, true, true, true, true, true, true, true, true, true, true, true, true, true, true, true, true, false, false, false, false] rfl rfl (any_of HT_.out (by kernel_rfl)) (fun _ _ _ h => h) (Or.inr ⟨by rfl, rfl⟩) ?_ ?_
        rotate_left
        · simp only [Act.put, List.setIfInBounds_toArray, List.set_cons_zero, List.set_cons_succ, i64_w, i32_w]
          rfl
        refine pure_ (i := 22) (N := some 75) (v := undef) (a' := ?_) #[true, true, true, true, true, true, true, true, true, true, true, true, true, true, true, true, true, true, true, true, true, true, true, false, false, false] rfl rfl (any_of HT_.out (by kernel_rfl)) (fun _ _ _ h => h) (Or.inr ⟨by rfl, rfl⟩) ?_ ?_
        rotate_left
        · simp only [Act.put, List.setIfInBounds_toArray, List.set_cons_zero, List.set_cons_succ, i64_w, i32_w]
          rfl
        refine pure_ (i := 23) (N := some 76) (v := undef) (a' := ?_) #[true, true, true, true, true, true, true, true, true, true, true, true, true, true, true, true, true, true, true, true, true, true, true, true, false, false] rfl rfl (any_of HT_.out (by kernel_rfl)) (fun _ _ _ h => h) (Or.inr ⟨by rfl, rfl⟩) ?_ ?_
        rotate_left
        · simp only [Act.put, List.setIfInBounds_toArray, List.set_cons_zero, List.set_cons_succ, i64_w, i32_w]
          rfl
        refine pure_ (i := 24) (N := some 77) (v := ?_) (a' := ?_) #[true, true, true, true, true, true, true, true, true, true, true, true, true, true, true, true, true, true, true, true, true, true, true, true, true, false] rfl rfl (any_of HT_.out (by kernel_rfl)) (fun _ _ _ h => h) (Or.inl ⟨by rfl, ?_⟩) ?_ ?_
        rotate_left
        · intro w'
          go_simp
          with_reducible rfl
        rotate_left
        · simp only [Act.put, List.setIfInBounds_toArray, List.set_cons_zero, List.set_cons_succ, i64_w, i32_w]
          rfl
        refine pure_ (i := 25) (N := some 4) (v := ?_) (a' := ?_) #[true, true, true, true, true, true, true, true, true, true, true, true, true, true, true, true, true, true, true, true, true, true, true, true, true, true] rfl rfl (any_of HT_.out (by kernel_rfl)) (fun _ _ _ h => h) (Or.inl ⟨by rfl, ?_⟩) ?_ ?_
        rotate_left
        · intro w'
          go_simp
          with_reducible rfl
        rotate_left
        · simp only [Act.put, List.setIfInBounds_toArray, List.set_cons_zero, List.set_cons_succ, i64_w, i32_w]
          rfl
        refine done_ (done_of HT_.out (by kernel_rfl)) ?_
        try go_wp2
        go_ret
        exact ⟨by first | rfl | (simp [errW_none, errW_some] <;> rfl) | (simp [*, errW_none, errW_some] <;> rfl), by repeat (first | (with_reducible first | exact HB.out | apply below_alloc | apply pw_below_drewN | apply below_drew1 | refine below_set ?_ GE105.out) | exact HB.out)⟩

/-- THE ONE PURE STATEMENT of earshotlaw05_CrcParts: yours. -/
def earshotlaw05_CrcParts.Pure : Prop := ∀ (a0 : ByteArray) (a1_0 : Int) (a1_1 : Int), a0.size ≤ 140737488351232 → (Lit.int .i64 a1_0).wf = true → (Lit.int .i64 a1_1).wf = true → earshotlaw05_CrcParts.f a0 a1_0 a1_1 = some true
theorem earshotlaw05_CrcParts.walk (P : earshotlaw05_CrcParts.Pure) (a0 : ByteArray) (a1_0 : Int) (a1_1 : Int) (w : World) (w0 : a0.size ≤ 140737488351232) (w1_0 : (Lit.int .i64 a1_0).wf = true) (w1_1 : (Lit.int .i64 a1_1).wf = true) :
    Calls Try.prog 3 #[.string a0, .agg #[.int .i64 a1_0, .int .i64 a1_1]] w fun e w' => e = .returned (.bool true) ∧ Below w.heap.size w w' := by
  have h := P a0 a1_0 a1_1 w0 w1_0 w1_1
  refine (earshotlaw05_CrcParts.calls a0 a1_0 a1_1 true w h).mono ?_
  rintro e w' ⟨rfl, hd⟩
  exact ⟨rfl, hd⟩

end Go.Proofs.Yteihjdpbahfnnaa.PCrcParts
