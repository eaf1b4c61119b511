/-
  No cell of these rows narrows 'for every input' (looked for: loops, veiled, ifaces, maps, wideKeys, modest, calm, conditions, laid).
  DERIVED. THE GIVEN ROWS OF THIS SEAT. 10 by the template 'for every input the law returns true; each argument reads behind the call as it read before'; 0 by the template 'total and deterministic' (their statements: YteihjdpbahfnnaaTotals.lean).
  GIVEN WITH THE SEED: the statements are not yours to turn. If you find one false, say at which input.
  Laid BY PROGRAM, IN A SANDBOX (cutbox-rows.mjs): the forced cells as the released guide's own fill.sh prints them over the translation e67a464dfe980063… (all of the seat's roots in one cut). By AI agents, Wed Nov 11 2026. No macro, syntax, notation, axiom, sorry.
-/
import Derived.Test.YteihjdpbahfnnaaChecked
import GoSem.Claim
import GoSem.ClaimJoined
import GoSem.ClaimMapViews
import Derived.JoinedTies
import Derived.KernelRfl
namespace Go.Proofs.Yteihjdpbahfnnaa
/- THE CELL 'sum', in the pinned program and in every row, IS THE sha256 OF THE DUMP (.gsa) THAT YteihjdpbahfnnaaProg.lean LOADS. Nothing in Lean hashes anything: it is a label: what it is worth is what the hold of that sum in a sandbox is worth. -/
noncomputable def Try.pinned : Pinned := { name := "yteihjdpbahfnnaa", sum := "e67a464dfe98006359a6553f3bce856e182245d51d459e8ad814151b3d8d54b9", checked := Try.checked }
namespace Rows
def none {H : Type} : Left H := { results := [], args := [] }

/-- 'earshotlaw05.CrcParts': WHATEVER THE INPUT: true; the input reads as it did. -/
def crcPartsSpec : ChangeSpec := { name := "crcParts", fn := fun _ => fun
  | [d1, d2] => { results := [.lit (.bool true)], args := [d1, d2] }
  | _ => none }
def crcPartsRow : OpenClaim := { program := "yteihjdpbahfnnaa", sum := "e67a464dfe98006359a6553f3bce856e182245d51d459e8ad814151b3d8d54b9", func := "earshot/earshotlaw05.CrcParts", spec := "crcParts", unfollowed := true, recurses := true, apart := false }
def CrcPartsSaid : Prop := crcPartsRow.holds Try.pinned (OpenSpec.ofChange crcPartsSpec)

/-- ITS FALSE NEIGHBOUR: 'it returns false'. Refute it at one input. -/
def crcPartsWrong : ChangeSpec := { name := "crcParts", fn := fun _ => fun
  | [d1, d2] => { results := [.lit (.bool false)], args := [d1, d2] }
  | _ => none }
def CrcPartsWrongFalsely : Prop := crcPartsRow.holds Try.pinned (OpenSpec.ofChange crcPartsWrong)

/-- 'earshotlaw05.CrcTurned': WHATEVER THE INPUT: true; the input reads as it did. -/
def crcTurnedSpec : ChangeSpec := { name := "crcTurned", fn := fun _ => fun
  | [d1, d2, d3] => { results := [.lit (.bool true)], args := [d1, d2, d3] }
  | _ => none }
def crcTurnedRow : OpenClaim := { program := "yteihjdpbahfnnaa", sum := "e67a464dfe98006359a6553f3bce856e182245d51d459e8ad814151b3d8d54b9", func := "earshot/earshotlaw05.CrcTurned", spec := "crcTurned", unfollowed := true, recurses := true, apart := false }
def CrcTurnedSaid : Prop := crcTurnedRow.holds Try.pinned (OpenSpec.ofChange crcTurnedSpec)

/-- ITS FALSE NEIGHBOUR: 'it returns false'. Refute it at one input. -/
def crcTurnedWrong : ChangeSpec := { name := "crcTurned", fn := fun _ => fun
  | [d1, d2, d3] => { results := [.lit (.bool false)], args := [d1, d2, d3] }
  | _ => none }
def CrcTurnedWrongFalsely : Prop := crcTurnedRow.holds Try.pinned (OpenSpec.ofChange crcTurnedWrong)

/-- 'earshotlaw05.CrcTells': WHATEVER THE INPUT: true; the input reads as it did. -/
def crcTellsSpec : ChangeSpec := { name := "crcTells", fn := fun _ => fun
  | [d1, d2, d3] => { results := [.lit (.bool true)], args := [d1, d2, d3] }
  | _ => none }
def crcTellsRow : OpenClaim := { program := "yteihjdpbahfnnaa", sum := "e67a464dfe98006359a6553f3bce856e182245d51d459e8ad814151b3d8d54b9", func := "earshot/earshotlaw05.CrcTells", spec := "crcTells", unfollowed := true, recurses := true, apart := false }
def CrcTellsSaid : Prop := crcTellsRow.holds Try.pinned (OpenSpec.ofChange crcTellsSpec)

/-- ITS FALSE NEIGHBOUR: 'it returns false'. Refute it at one input. -/
def crcTellsWrong : ChangeSpec := { name := "crcTells", fn := fun _ => fun
  | [d1, d2, d3] => { results := [.lit (.bool false)], args := [d1, d2, d3] }
  | _ => none }
def CrcTellsWrongFalsely : Prop := crcTellsRow.holds Try.pinned (OpenSpec.ofChange crcTellsWrong)

/-- 'earshotlaw05.CrcBack': WHATEVER THE INPUT: true; the input reads as it did. -/
def crcBackSpec : ChangeSpec := { name := "crcBack", fn := fun _ => fun
  | [d] => { results := [.lit (.bool true)], args := [d] }
  | _ => none }
def crcBackRow : OpenClaim := { program := "yteihjdpbahfnnaa", sum := "e67a464dfe98006359a6553f3bce856e182245d51d459e8ad814151b3d8d54b9", func := "earshot/earshotlaw05.CrcBack", spec := "crcBack", unfollowed := true, recurses := true, apart := false }
def CrcBackSaid : Prop := crcBackRow.holds Try.pinned (OpenSpec.ofChange crcBackSpec)

/-- ITS FALSE NEIGHBOUR: 'it returns false'. Refute it at one input. -/
def crcBackWrong : ChangeSpec := { name := "crcBack", fn := fun _ => fun
  | [d] => { results := [.lit (.bool false)], args := [d] }
  | _ => none }
def CrcBackWrongFalsely : Prop := crcBackRow.holds Try.pinned (OpenSpec.ofChange crcBackWrong)

/-- 'earshotlaw05.CrcBurst': WHATEVER THE INPUT: true; the input reads as it did. -/
def crcBurstSpec : ChangeSpec := { name := "crcBurst", fn := fun _ => fun
  | [d1, d2, d3] => { results := [.lit (.bool true)], args := [d1, d2, d3] }
  | _ => none }
def crcBurstRow : OpenClaim := { program := "yteihjdpbahfnnaa", sum := "e67a464dfe98006359a6553f3bce856e182245d51d459e8ad814151b3d8d54b9", func := "earshot/earshotlaw05.CrcBurst", spec := "crcBurst", unfollowed := true, recurses := true, apart := false }
def CrcBurstSaid : Prop := crcBurstRow.holds Try.pinned (OpenSpec.ofChange crcBurstSpec)

/-- ITS FALSE NEIGHBOUR: 'it returns false'. Refute it at one input. -/
def crcBurstWrong : ChangeSpec := { name := "crcBurst", fn := fun _ => fun
  | [d1, d2, d3] => { results := [.lit (.bool false)], args := [d1, d2, d3] }
  | _ => none }
def CrcBurstWrongFalsely : Prop := crcBurstRow.holds Try.pinned (OpenSpec.ofChange crcBurstWrong)

/-- 'earshotlaw03.LogsTell': WHATEVER THE INPUT: true; the input reads as it did. -/
def logsTellSpec : ChangeSpec := { name := "logsTell", fn := fun _ => fun
  | [d1, d2] => { results := [.lit (.bool true)], args := [d1, d2] }
  | _ => none }
def logsTellRow : OpenClaim := { program := "yteihjdpbahfnnaa", sum := "e67a464dfe98006359a6553f3bce856e182245d51d459e8ad814151b3d8d54b9", func := "earshot/earshotlaw03.LogsTell", spec := "logsTell", unfollowed := true, recurses := true, apart := false }
def LogsTellSaid : Prop := logsTellRow.holds Try.pinned (OpenSpec.ofChange logsTellSpec)

/-- ITS FALSE NEIGHBOUR: 'it returns false'. Refute it at one input. -/
def logsTellWrong : ChangeSpec := { name := "logsTell", fn := fun _ => fun
  | [d1, d2] => { results := [.lit (.bool false)], args := [d1, d2] }
  | _ => none }
def LogsTellWrongFalsely : Prop := logsTellRow.holds Try.pinned (OpenSpec.ofChange logsTellWrong)

/-- 'earshotlaw03.LogsOrder': WHATEVER THE INPUT: true; the input reads as it did. -/
def logsOrderSpec : ChangeSpec := { name := "logsOrder", fn := fun _ => fun
  | [d1, d2] => { results := [.lit (.bool true)], args := [d1, d2] }
  | _ => none }
def logsOrderRow : OpenClaim := { program := "yteihjdpbahfnnaa", sum := "e67a464dfe98006359a6553f3bce856e182245d51d459e8ad814151b3d8d54b9", func := "earshot/earshotlaw03.LogsOrder", spec := "logsOrder", unfollowed := true, recurses := true, apart := false }
def LogsOrderSaid : Prop := logsOrderRow.holds Try.pinned (OpenSpec.ofChange logsOrderSpec)

/-- ITS FALSE NEIGHBOUR: 'it returns false'. Refute it at one input. -/
def logsOrderWrong : ChangeSpec := { name := "logsOrder", fn := fun _ => fun
  | [d1, d2] => { results := [.lit (.bool false)], args := [d1, d2] }
  | _ => none }
def LogsOrderWrongFalsely : Prop := logsOrderRow.holds Try.pinned (OpenSpec.ofChange logsOrderWrong)

/-- 'earshotlaw03.LogsTwice': WHATEVER THE INPUT: true; the input reads as it did. -/
def logsTwiceSpec : ChangeSpec := { name := "logsTwice", fn := fun _ => fun
  | [d1, d2, d3] => { results := [.lit (.bool true)], args := [d1, d2, d3] }
  | _ => none }
def logsTwiceRow : OpenClaim := { program := "yteihjdpbahfnnaa", sum := "e67a464dfe98006359a6553f3bce856e182245d51d459e8ad814151b3d8d54b9", func := "earshot/earshotlaw03.LogsTwice", spec := "logsTwice", unfollowed := true, recurses := true, apart := false }
def LogsTwiceSaid : Prop := logsTwiceRow.holds Try.pinned (OpenSpec.ofChange logsTwiceSpec)

/-- ITS FALSE NEIGHBOUR: 'it returns false'. Refute it at one input. -/
def logsTwiceWrong : ChangeSpec := { name := "logsTwice", fn := fun _ => fun
  | [d1, d2, d3] => { results := [.lit (.bool false)], args := [d1, d2, d3] }
  | _ => none }
def LogsTwiceWrongFalsely : Prop := logsTwiceRow.holds Try.pinned (OpenSpec.ofChange logsTwiceWrong)

/-- 'earshotlaw03.LogsRoot': WHATEVER THE INPUT: true; the input reads as it did. -/
def logsRootSpec : ChangeSpec := { name := "logsRoot", fn := fun _ => fun
  | [d1, d2] => { results := [.lit (.bool true)], args := [d1, d2] }
  | _ => none }
def logsRootRow : OpenClaim := { program := "yteihjdpbahfnnaa", sum := "e67a464dfe98006359a6553f3bce856e182245d51d459e8ad814151b3d8d54b9", func := "earshot/earshotlaw03.LogsRoot", spec := "logsRoot", unfollowed := true, recurses := true, apart := false }
def LogsRootSaid : Prop := logsRootRow.holds Try.pinned (OpenSpec.ofChange logsRootSpec)

/-- ITS FALSE NEIGHBOUR: 'it returns false'. Refute it at one input. -/
def logsRootWrong : ChangeSpec := { name := "logsRoot", fn := fun _ => fun
  | [d1, d2] => { results := [.lit (.bool false)], args := [d1, d2] }
  | _ => none }
def LogsRootWrongFalsely : Prop := logsRootRow.holds Try.pinned (OpenSpec.ofChange logsRootWrong)

/-- 'earshotlaw03.LogsNorm': WHATEVER THE INPUT: true; the input reads as it did. -/
def logsNormSpec : ChangeSpec := { name := "logsNorm", fn := fun _ => fun
  | [d] => { results := [.lit (.bool true)], args := [d] }
  | _ => none }
def logsNormRow : OpenClaim := { program := "yteihjdpbahfnnaa", sum := "e67a464dfe98006359a6553f3bce856e182245d51d459e8ad814151b3d8d54b9", func := "earshot/earshotlaw03.LogsNorm", spec := "logsNorm", unfollowed := true, recurses := true, apart := false }
def LogsNormSaid : Prop := logsNormRow.holds Try.pinned (OpenSpec.ofChange logsNormSpec)

/-- ITS FALSE NEIGHBOUR: 'it returns false'. Refute it at one input. -/
def logsNormWrong : ChangeSpec := { name := "logsNorm", fn := fun _ => fun
  | [d] => { results := [.lit (.bool false)], args := [d] }
  | _ => none }
def LogsNormWrongFalsely : Prop := logsNormRow.holds Try.pinned (OpenSpec.ofChange logsNormWrong)

/- THE SECOND FORM. 'bulk': how many values and letters a reading holds, each counted each time it is reached (what is shared counts as often as it is met; a slice's spare places count too). A statement '..UptoSaid' is the law's where the arguments, and the package variables that the reading takes, are together of bulk at most 1048576: NARROWER than '..Said'. Prove '..Said' where nothing that the law and all that it calls make is longer than what came in: it says more and counts as full. Else prove '..UptoSaid'. A law counts once. -/
mutual
def uptoBulk {H : Type} : DataW H → Nat
  | .lit (.string bytes) => bytes.length + 1
  | .lit _ => 1
  | .nil => 1
  | .ptr d => uptoBulk d + 1
  | .slice elems spare => uptoBulkAll elems + uptoBulkAll spare + 1
  | .agg parts => uptoBulkAll parts + 1
  | .iface _ d => uptoBulk d + 1
  | .map entries => uptoBulkEntries entries + 1
  | .held _ => 1
def uptoBulkAll {H : Type} : List (DataW H) → Nat
  | [] => 0
  | d :: r => uptoBulk d + uptoBulkAll r
def uptoBulkEntries {H : Type} : List (Lit × DataW H) → Nat
  | [] => 0
  | x :: r => uptoBulkEntry x + uptoBulkEntries r
def uptoBulkEntry {H : Type} : Lit × DataW H → Nat
  | (.string bytes, d) => bytes.length + uptoBulk d + 1
  | (_, d) => uptoBulk d + 1
 end
def uptoSmall : (H : Type) → List (DataW H) → Bool := fun _ ds => decide (uptoBulkAll ds ≤ 1048576)
def OpenSpec.upto (s : _root_.Go.ChangeSpec) : _root_.Go.OpenSpec := { _root_.Go.OpenSpec.ofChange s with cond := some uptoSmall }

/-- 'earshotlaw05.CrcParts', WHERE WHAT IT READS IS OF BULK AT MOST 1048576: true; the input reads as it did. -/
def crcPartsUptoRow : OpenClaim := { program := "yteihjdpbahfnnaa", sum := "e67a464dfe98006359a6553f3bce856e182245d51d459e8ad814151b3d8d54b9", func := "earshot/earshotlaw05.CrcParts", spec := "crcParts", unfollowed := true, recurses := true, apart := false, narrowed := true }
def CrcPartsUptoSaid : Prop := crcPartsUptoRow.holds Try.pinned (OpenSpec.upto crcPartsSpec)

/-- 'earshotlaw05.CrcTurned', WHERE WHAT IT READS IS OF BULK AT MOST 1048576: true; the input reads as it did. -/
def crcTurnedUptoRow : OpenClaim := { program := "yteihjdpbahfnnaa", sum := "e67a464dfe98006359a6553f3bce856e182245d51d459e8ad814151b3d8d54b9", func := "earshot/earshotlaw05.CrcTurned", spec := "crcTurned", unfollowed := true, recurses := true, apart := false, narrowed := true }
def CrcTurnedUptoSaid : Prop := crcTurnedUptoRow.holds Try.pinned (OpenSpec.upto crcTurnedSpec)

/-- 'earshotlaw05.CrcTells', WHERE WHAT IT READS IS OF BULK AT MOST 1048576: true; the input reads as it did. -/
def crcTellsUptoRow : OpenClaim := { program := "yteihjdpbahfnnaa", sum := "e67a464dfe98006359a6553f3bce856e182245d51d459e8ad814151b3d8d54b9", func := "earshot/earshotlaw05.CrcTells", spec := "crcTells", unfollowed := true, recurses := true, apart := false, narrowed := true }
def CrcTellsUptoSaid : Prop := crcTellsUptoRow.holds Try.pinned (OpenSpec.upto crcTellsSpec)

/-- 'earshotlaw05.CrcBack', WHERE WHAT IT READS IS OF BULK AT MOST 1048576: true; the input reads as it did. -/
def crcBackUptoRow : OpenClaim := { program := "yteihjdpbahfnnaa", sum := "e67a464dfe98006359a6553f3bce856e182245d51d459e8ad814151b3d8d54b9", func := "earshot/earshotlaw05.CrcBack", spec := "crcBack", unfollowed := true, recurses := true, apart := false, narrowed := true }
def CrcBackUptoSaid : Prop := crcBackUptoRow.holds Try.pinned (OpenSpec.upto crcBackSpec)

/-- 'earshotlaw05.CrcBurst', WHERE WHAT IT READS IS OF BULK AT MOST 1048576: true; the input reads as it did. -/
def crcBurstUptoRow : OpenClaim := { program := "yteihjdpbahfnnaa", sum := "e67a464dfe98006359a6553f3bce856e182245d51d459e8ad814151b3d8d54b9", func := "earshot/earshotlaw05.CrcBurst", spec := "crcBurst", unfollowed := true, recurses := true, apart := false, narrowed := true }
def CrcBurstUptoSaid : Prop := crcBurstUptoRow.holds Try.pinned (OpenSpec.upto crcBurstSpec)

/-- 'earshotlaw03.LogsTell', WHERE WHAT IT READS IS OF BULK AT MOST 1048576: true; the input reads as it did. -/
def logsTellUptoRow : OpenClaim := { program := "yteihjdpbahfnnaa", sum := "e67a464dfe98006359a6553f3bce856e182245d51d459e8ad814151b3d8d54b9", func := "earshot/earshotlaw03.LogsTell", spec := "logsTell", unfollowed := true, recurses := true, apart := false, narrowed := true }
def LogsTellUptoSaid : Prop := logsTellUptoRow.holds Try.pinned (OpenSpec.upto logsTellSpec)

/-- 'earshotlaw03.LogsOrder', WHERE WHAT IT READS IS OF BULK AT MOST 1048576: true; the input reads as it did. -/
def logsOrderUptoRow : OpenClaim := { program := "yteihjdpbahfnnaa", sum := "e67a464dfe98006359a6553f3bce856e182245d51d459e8ad814151b3d8d54b9", func := "earshot/earshotlaw03.LogsOrder", spec := "logsOrder", unfollowed := true, recurses := true, apart := false, narrowed := true }
def LogsOrderUptoSaid : Prop := logsOrderUptoRow.holds Try.pinned (OpenSpec.upto logsOrderSpec)

/-- 'earshotlaw03.LogsTwice', WHERE WHAT IT READS IS OF BULK AT MOST 1048576: true; the input reads as it did. -/
def logsTwiceUptoRow : OpenClaim := { program := "yteihjdpbahfnnaa", sum := "e67a464dfe98006359a6553f3bce856e182245d51d459e8ad814151b3d8d54b9", func := "earshot/earshotlaw03.LogsTwice", spec := "logsTwice", unfollowed := true, recurses := true, apart := false, narrowed := true }
def LogsTwiceUptoSaid : Prop := logsTwiceUptoRow.holds Try.pinned (OpenSpec.upto logsTwiceSpec)

/-- 'earshotlaw03.LogsRoot', WHERE WHAT IT READS IS OF BULK AT MOST 1048576: true; the input reads as it did. -/
def logsRootUptoRow : OpenClaim := { program := "yteihjdpbahfnnaa", sum := "e67a464dfe98006359a6553f3bce856e182245d51d459e8ad814151b3d8d54b9", func := "earshot/earshotlaw03.LogsRoot", spec := "logsRoot", unfollowed := true, recurses := true, apart := false, narrowed := true }
def LogsRootUptoSaid : Prop := logsRootUptoRow.holds Try.pinned (OpenSpec.upto logsRootSpec)

/-- 'earshotlaw03.LogsNorm', WHERE WHAT IT READS IS OF BULK AT MOST 1048576: true; the input reads as it did. -/
def logsNormUptoRow : OpenClaim := { program := "yteihjdpbahfnnaa", sum := "e67a464dfe98006359a6553f3bce856e182245d51d459e8ad814151b3d8d54b9", func := "earshot/earshotlaw03.LogsNorm", spec := "logsNorm", unfollowed := true, recurses := true, apart := false, narrowed := true }
def LogsNormUptoSaid : Prop := logsNormUptoRow.holds Try.pinned (OpenSpec.upto logsNormSpec)

end Rows
end Go.Proofs.Yteihjdpbahfnnaa
